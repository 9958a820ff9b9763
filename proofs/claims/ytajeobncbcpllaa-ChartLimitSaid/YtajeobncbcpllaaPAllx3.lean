/- What each Go function computes, as a plain Lean function, and the proof that the machine comes to it; for every input. Laid by wip/tools of this session over the kit's print, with small turns of ours. Not trusted: Lean checks it. -/
import Derived.Test.YtajeobncbcpllaaPAllx0
namespace Go.Proofs.Ytajeobncbcpllaa.PAll
open Go.Proofs.YtajeobncbcpllaaW
open Go.RowKit Go.Proofs.YtajeobncbcpllaaW.PrintWords Go.Proofs.YtajeobncbcpllaaW.PrintLast Go.Proofs.YtajeobncbcpllaaW.PrintMore
attribute [local go_sem] max2_int min2_int max_two min_two max_three min_three max_four min_four   -- for this text's walks alone
set_option linter.unusedVariables false
set_option linter.unusedSimpArgs false

/-! ### chart_Number: function 19 -/
def chart_Number.j0 : Nat → Int → Int → Bool → Option (Int)
  | 0, _, _, _ => none
  | k + 1, x0, x1, x18 => if x18 = true then (some (-1)) else (some (wrap64 ((wrap64 (3 * x1)) + x0)))
def chart_Number.f (k : Nat) (a0 : Int) (a1 : Int) : Option (Int) := if a0 < 0 then (chart_Number.j0 k a0 a1 true) else (if a0 > 2 then (chart_Number.j0 k a0 a1 true) else (if a1 < 0 then (chart_Number.j0 k a0 a1 true) else (chart_Number.j0 k a0 a1 (decide (a1 ≥ 3)))))
theorem chart_Number.mono_l : ∀ k, (∀ y0 y1 y2, LeO (chart_Number.j0 k y0 y1 y2) (chart_Number.j0 (k + 1) y0 y1 y2))
  | 0 => fun _ _ _ r h => by simp [chart_Number.j0] at h
  | k + 1 => by
    have ih0 := chart_Number.mono_l k
    · intro y0 y1 y2
      unfold chart_Number.j0
      repeat' first
      | (with_reducible exact ih0 _ _ _)
      | (with_reducible exact LeO.refl _)
      | (with_reducible exact LeO.none _)
      | (with_reducible refine LeO.ite ?_ ?_)
      | (with_reducible refine LeO.bind ?_ (fun _ => ?_))
      | exact ih0 _ _ _
      | exact LeO.none _
      | refine LeO.ite ?_ ?_
      | refine LeO.bind ?_ (fun _ => ?_)
theorem chart_Number.mono : ∀ a0 a1 k, LeO (chart_Number.f k a0 a1) (chart_Number.f (k + 1) a0 a1) := by
  intro a0 a1 k
  have ih0 := chart_Number.mono_l k
  unfold chart_Number.f
  repeat' first
      | (with_reducible exact ih0 _ _ _)
      | (with_reducible exact LeO.refl _)
      | (with_reducible exact LeO.none _)
      | (with_reducible refine LeO.ite ?_ ?_)
      | (with_reducible refine LeO.bind ?_ (fun _ => ?_))
      | exact ih0 _ _ _
      | exact LeO.none _
      | refine LeO.ite ?_ ?_
      | refine LeO.bind ?_ (fun _ => ?_)
set_option maxHeartbeats 8000000 in
set_option maxRecDepth 100000 in
theorem chart_Number.calls (k : Nat) (a0 : Int) (a1 : Int) (r : Int) (w : World) (h : chart_Number.f k a0 a1 = some r) :
    Calls Try.prog 19 #[.int .i64 a0, .int .i64 a1] w fun e w' => e = .returned (.int .i64 r) ∧ Drawn0 w w' := by
  have H : (if a0 < 0 then (chart_Number.j0 k a0 a1 true) else (if a0 > 2 then (chart_Number.j0 k a0 a1 true) else (if a1 < 0 then (chart_Number.j0 k a0 a1 true) else (chart_Number.j0 k a0 a1 (decide (a1 ≥ 3)))))) = some r := h
  clear h
  have HC3 := Aside0.mk H
  clear H
  go_enter Try.func19, Try.ntmps19
  go_upto_region 1 with (fail)
  go_cut [18] (fun v18 wc => ∃ (kq : Nat) (x18_2 : Bool), v18 = .bool x18_2 ∧ Aside0 (chart_Number.j0 kq a0 a1 x18_2 = some r) ∧ Aside0 (kq ≤ k) ∧ Drawn0 w wc)
  case first =>
    have H := HC3.out
    clear HC3
    by_cases c4 : a0 < 0
    · rw [if_pos c4] at H
      have c4b0 : decide (a0 < 0) = true := decide_eq_true c4
      clear c4
      (first | rw [c4b0] | (simp only [i64_w, i32_w]; rw [c4b0]) | skip)
      have H' := Aside0.mk H
      clear H
      go_wp2
      go_meet
      case rel => exact ⟨_, (true), (by first | rfl | (simp; done) | (simp [*]; done)), H', ⟨by first | omega | exact Nat.le_refl _⟩, by repeat (first | exact Drawn0.refl _ | apply Drawn0.step)⟩
    · rw [if_neg c4] at H
      have c4b0 : decide (a0 < 0) = false := decide_eq_false c4
      clear c4
      (first | rw [c4b0] | (simp only [i64_w, i32_w]; rw [c4b0]) | skip)
      by_cases c5 : a0 > 2
      · rw [if_pos c5] at H
        have c5b0 : decide (2 < a0) = true := decide_eq_true c5
        clear c5
        have H' := Aside0.mk H
        clear H
        go_wp2
        go_meet
        case rel => exact ⟨_, (true), (by first | rfl | (simp; done) | (simp [*]; done)), H', ⟨by first | omega | exact Nat.le_refl _⟩, by repeat (first | exact Drawn0.refl _ | apply Drawn0.step)⟩
      · rw [if_neg c5] at H
        have c5b0 : decide (2 < a0) = false := decide_eq_false c5
        clear c5
        by_cases c6 : a1 < 0
        · rw [if_pos c6] at H
          have c6b0 : decide (a1 < 0) = true := decide_eq_true c6
          clear c6
          have H' := Aside0.mk H
          clear H
          go_wp2
          go_meet
          case rel => exact ⟨_, (true), (by first | rfl | (simp; done) | (simp [*]; done)), H', ⟨by first | omega | exact Nat.le_refl _⟩, by repeat (first | exact Drawn0.refl _ | apply Drawn0.step)⟩
        · rw [if_neg c6] at H
          have c6b0 : decide (a1 < 0) = false := decide_eq_false c6
          clear c6
          have H' := Aside0.mk H
          clear H
          go_wp2
          go_meet
          case rel => exact ⟨_, (decide (a1 ≥ 3)), (by first | rfl | (simp; done) | (simp [*]; done)), H', ⟨by first | omega | exact Nat.le_refl _⟩, by repeat (first | exact Drawn0.refl _ | apply Drawn0.step)⟩
  case rest =>
    clear HC3
    try clear c1
    try clear p2
    try clear c4
    try clear c4b0
    try clear c5
    try clear c5b0
    try clear c6
    try clear c6b0
    obtain ⟨kq, x18_2, rfl, HA, HJ2, ⟨mc2, rfl⟩⟩ := hcut
    cases kq with
    | zero => exact absurd HA.out (by simp [chart_Number.j0])
    | succ kj2 =>
      have H := HA.out
      clear HA
      simp only [chart_Number.j0] at H
      by_cases c7 : x18_2 = true
      · subst c7
        have H1 : (some (-1)) = some r := by rw [if_pos rfl] at H; exact H
        clear H
        have H := H1
        clear H1
        obtain rfl := Option.some.inj H
        go_wp2
        go_ret
        exact ⟨by first | rfl | (simp; done) | (simp [*]; done), by repeat (first | exact Drawn0.refl _ | apply Drawn0.step)⟩
      · replace c7 := Bool.eq_false_iff.mpr c7
        subst c7
        have H1 : (some (wrap64 ((wrap64 (3 * a1)) + a0))) = some r := by rw [if_neg (show ¬ (false = true) by decide)] at H; exact H
        clear H
        have H := H1
        clear H1
        obtain rfl := Option.some.inj H
        go_wp2
        go_ret
        exact ⟨by first | rfl | (simp; done) | (simp [*]; done), by repeat (first | exact Drawn0.refl _ | apply Drawn0.step)⟩

/-! ### chart_New: function 20 -/
mutual
def chart_New.l0 : Nat → List (S27) → Int → Option ((List (S27)))
  | 0, _, _ => none
  | k + 1, x1, x3 => if x3 < 3 then (chart_New.l1 k x1 x3 x3 0) else (some x1)
def chart_New.l1 : Nat → List (S27) → Int → Int → Int → Option ((List (S27)))
  | 0, _, _, _, _ => none
  | k + 1, x1, x2, x3, x6 => if x6 < 3 then (if x1.length < 5864062014805 then (chart_New.l1 k (x1 ++ [(⟨x2, 0, 0⟩ : S27)]) x2 x3 (wrap64 (x6 + 1))) else (none)) else (chart_New.l0 k x1 (wrap64 (x3 + 1)))
end
def chart_New.f (k : Nat)  : Option ((List (S27))) := chart_New.l0 k ([] : List (S27)) 0
theorem chart_New.mono_l : ∀ k, (∀ y0 y1, LeO (chart_New.l0 k y0 y1) (chart_New.l0 (k + 1) y0 y1)) ∧ (∀ y0 y1 y2 y3, LeO (chart_New.l1 k y0 y1 y2 y3) (chart_New.l1 (k + 1) y0 y1 y2 y3))
  | 0 => ⟨fun _ _ r h => by simp [chart_New.l0] at h, fun _ _ _ _ r h => by simp [chart_New.l1] at h⟩
  | k + 1 => by
    obtain ⟨ih0, ih1⟩ := chart_New.mono_l k
    refine ⟨?_, ?_⟩
    · intro y0 y1
      unfold chart_New.l0
      repeat' first
      | (with_reducible exact ih0 _ _)
      | (with_reducible exact ih1 _ _ _ _)
      | (with_reducible exact LeO.refl _)
      | (with_reducible exact LeO.none _)
      | (with_reducible refine LeO.ite ?_ ?_)
      | (with_reducible refine LeO.bind ?_ (fun _ => ?_))
      | exact ih0 _ _
      | exact ih1 _ _ _ _
      | exact LeO.none _
      | refine LeO.ite ?_ ?_
      | refine LeO.bind ?_ (fun _ => ?_)
    · intro y0 y1 y2 y3
      unfold chart_New.l1
      repeat' first
      | (with_reducible exact ih0 _ _)
      | (with_reducible exact ih1 _ _ _ _)
      | (with_reducible exact LeO.refl _)
      | (with_reducible exact LeO.none _)
      | (with_reducible refine LeO.ite ?_ ?_)
      | (with_reducible refine LeO.bind ?_ (fun _ => ?_))
      | exact ih0 _ _
      | exact ih1 _ _ _ _
      | exact LeO.none _
      | refine LeO.ite ?_ ?_
      | refine LeO.bind ?_ (fun _ => ?_)
theorem chart_New.mono : ∀ k, LeO (chart_New.f k ) (chart_New.f (k + 1) ) := by
  intro  k
  obtain ⟨ih0, ih1⟩ := chart_New.mono_l k
  unfold chart_New.f
  repeat' first
      | (with_reducible exact ih0 _ _)
      | (with_reducible exact ih1 _ _ _ _)
      | (with_reducible exact LeO.refl _)
      | (with_reducible exact LeO.none _)
      | (with_reducible refine LeO.ite ?_ ?_)
      | (with_reducible refine LeO.bind ?_ (fun _ => ?_))
      | exact ih0 _ _
      | exact ih1 _ _ _ _
      | exact LeO.none _
      | refine LeO.ite ?_ ?_
      | refine LeO.bind ?_ (fun _ => ?_)
set_option maxHeartbeats 8000000 in
set_option maxRecDepth 100000 in
theorem chart_New.calls (k : Nat)  (r : List (S27)) (w : World) (h : chart_New.f k  = some r) :
    Calls Try.prog 20 #[] w fun e w' => ∃ v0_ : Value, e = .returned (v0_) ∧ Kd.R k27 27 w' w.heap.size (fun _ => True) v0_ r ∧ Below w.heap.size w w' := by
  have hu27 := Try.underlying27
  have HB := Aside0.mk (Below.refl w.heap.size w)
  have H : (chart_New.l0 k ([] : List (S27)) 0) = some r := h
  clear h
  have H' := Aside0.mk H
  clear H
  go_enter Try.func20, Try.ntmps20
  go_wp2
  go_loopg [1, 3] k (fun kq v1 v3 w' => ∃ (x1_1 : List (S27)) (x3_1 : Int), v3 = .int .i64 x3_1 ∧ Aside0 (chart_New.l0 kq x1_1 x3_1 = some r) ∧ Aside0 (kq ≤ k) ∧ Aside0 (Kd.R k27 27 w' w.heap.size (fun _ => True) v1 x1_1) ∧ Aside0 (Below w.heap.size w w'))
  case atStart => exact ⟨(([] : List (S27))), (0), (by first | rfl | (simp; done) | (simp [*]; done)), H', ⟨Nat.le_refl _⟩, ⟨by first | exact Kd.R_nil _ _ _ _ _ | exact Kd.N_nil _ _ _ _ _ | exact Kd.V_nil _ _ _ _ _ | exact Kd.Q_nil _ _ _ _ _ | exact Kd.S_nil _ _ _ _ _⟩, ⟨by repeat (first | (with_reducible first | exact HB.out | apply below_alloc | apply pw_below_drewN | apply below_drew1) | exact HB.out)⟩⟩
  case round =>
    clear H'
    obtain ⟨x1_1, x3_1, rfl, HA, HK1, HO_1, HB⟩ := hrel
    cases gk with
    | zero => exact absurd HA.out (by simp [chart_New.l0])
    | succ k1 =>
      have H := HA.out
      clear HA
      simp only [chart_New.l0] at H
      by_cases c1 : x3_1 < 3
      · rw [if_pos c1] at H
        have c1b0 : decide (x3_1 < 3) = true := decide_eq_true c1
        clear c1
        have H' := Aside0.mk H
        clear H
        go_wp2
        go_loopg [1, 6] k1 (fun kq v1 v6 w' => ∃ (x1_2 : List (S27)) (x6_2 : Int), v6 = .int .i64 x6_2 ∧ Aside0 (chart_New.l1 kq x1_2 x3_1 x3_1 x6_2 = some r) ∧ Aside0 (kq ≤ k1) ∧ Aside0 (Kd.R k27 27 w' w.heap.size (fun _ => True) v1 x1_2) ∧ Aside0 (Below w.heap.size w w'))
        case atStart => exact ⟨(x1_1), (0), (by first | rfl | (simp; done) | (simp [*]; done)), H', ⟨Nat.le_refl _⟩, ⟨by (with_reducible repeat (first | apply Kd.R_alloc | apply Kd.R_drewN | apply Kd.R_drew)); exact HO_1.out⟩, ⟨by repeat (first | (with_reducible first | exact HB.out | apply below_alloc | apply pw_below_drewN | apply below_drew1) | exact HB.out)⟩⟩
        case round =>
          clear H'
          try clear c1
          try clear c1b0
          obtain ⟨x1_2, x6_2, rfl, HA, HK2, HO_1, HB⟩ := hrel
          cases gk with
          | zero => exact absurd HA.out (by simp [chart_New.l1])
          | succ k2 =>
            have H := HA.out
            clear HA
            simp only [chart_New.l1] at H
            by_cases c2 : x6_2 < 3
            · rw [if_pos c2] at H
              have c2b0 : decide (x6_2 < 3) = true := decide_eq_true c2
              clear c2
              by_cases c3 : x1_2.length < 5864062014805
              · rw [if_pos c3] at H
                have LMc3 := Aside0.mk c3
                clear c3
                obtain ⟨y103, hy103⟩ : ∃ y_ : List (S27), y_ = (x1_2 ++ [(⟨x3_1, 0, 0⟩ : S27)]) := ⟨_, rfl⟩
                replace H : (chart_New.l1 k2 y103 x3_1 x3_1 (wrap64 (x6_2 + 1))) = some r := by first | (rw [hy103]; with_reducible exact H) | (have H2_ := (Option.bind_some _ _).symm.trans H; rw [hy103]; with_reducible exact H2_) | (have H2_ := (Option.bind_some _ _).symm.trans H; with_reducible exact H2_) | with_reducible exact H | (rw [hy103]; exact H) | exact H
                have Ny103 := Aside0.mk hy103
                clear hy103
                have H' := Aside0.mk H
                clear H
                go_wp2_with (first | ((with_reducible refine gate_builtin (b := .append) (xs := #[.tmp 8, .tmp 11]) rfl ?_); at_builtin; refine Kd.R_append k27 (w0 := w) w.heap.size rfl (.tmp 8) (.tmp 11) 28 27 (.agg #[(.int .i64 0), (.int .i64 0), (.int .i64 0)]) 24 rfl Try.underlying28 info27 rfl (by decide) (by omega) u1 x1_2 (⟨x3_1, 0, 0⟩ : S27) [.int .i64 x3_1, .int .i64 0, .int .i64 0] (fun _ => True) (fun _ => False) rfl rfl ?aP (fun _ hk => hk.elim) ?aF ?aO ?aB ?aS ?aL ?_; (case aP => exact k27_mkM _ _ _ (⟨x3_1, 0, 0⟩ : S27)); (case aB => exact (by repeat (first | (with_reducible first | exact HB.out | apply below_alloc | apply pw_below_drewN | apply below_drew1) | exact HB.out))); (case aF => exact (fun _ _ => trivial)); (case aO => exact (by (with_reducible repeat (first | apply Kd.R_alloc | apply Kd.R_drewN | apply Kd.R_drew)); exact HO_1.out)); (case aS => exact (below_size (by repeat (first | (with_reducible first | exact HB.out | apply below_alloc | apply pw_below_drewN | apply below_drew1) | exact HB.out)))); (case aL => have := LMc3.out; omega); intro v104 w4 ho hb hg hat; rw [← Ny103.out] at ho; have n0_ := Aside0.mk (hb); have n1_ := Aside0.mk (ho); clear HB; clear HO_1; have HB := n0_; have HO105 := n1_; clear n0_ n1_; clear ho hb hg hat))
                go_roundg k2
                case measure => have := HK1.out; have := HK2.out; omega
                case rel => exact ⟨(y103), (wrap64 (x6_2 + 1)), (by first | rfl | (simp; done) | (simp [*]; done)), H', ⟨by have := HK1.out; have := HK2.out; omega⟩, ⟨by (with_reducible repeat (first | apply Kd.R_alloc | apply Kd.R_drewN | apply Kd.R_drew)); exact HO105.out⟩, ⟨by repeat (first | (with_reducible first | exact HB.out | apply below_alloc | apply pw_below_drewN | apply below_drew1) | exact HB.out)⟩⟩
              · rw [if_neg c3] at H
                exact absurd H (by simp)
            · rw [if_neg c2] at H
              have c2b0 : decide (x6_2 < 3) = false := decide_eq_false c2
              clear c2
              have H' := Aside0.mk H
              clear H
              go_wp2
              go_roundg k2
              case measure => have := HK1.out; have := HK2.out; omega
              case rel => exact ⟨(x1_2), (wrap64 (x3_1 + 1)), (by first | rfl | (simp; done) | (simp [*]; done)), H', ⟨by have := HK1.out; have := HK2.out; omega⟩, ⟨by (with_reducible repeat (first | apply Kd.R_alloc | apply Kd.R_drewN | apply Kd.R_drew)); exact HO_1.out⟩, ⟨by repeat (first | (with_reducible first | exact HB.out | apply below_alloc | apply pw_below_drewN | apply below_drew1) | exact HB.out)⟩⟩
      · rw [if_neg c1] at H
        have c1b0 : decide (x3_1 < 3) = false := decide_eq_false c1
        clear c1
        obtain rfl := Option.some.inj H
        go_wp2
        go_ret
        exact ⟨_, by first | rfl | (simp [errW_none, errW_some] <;> rfl) | (simp [*, errW_none, errW_some] <;> rfl), by (with_reducible repeat (first | apply Kd.R_alloc | apply Kd.R_drewN | apply Kd.R_drew)); exact HO_1.out, by repeat (first | (with_reducible first | exact HB.out | apply below_alloc | apply pw_below_drewN | apply below_drew1) | exact HB.out)⟩

end Go.Proofs.Ytajeobncbcpllaa.PAll
