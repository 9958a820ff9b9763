/- What each Go function computes, as a plain Lean function, and the proof that the machine comes to it; for every input. Laid by wip/tools of this session over the kit's print, with small turns of ours. Not trusted: Lean checks it. -/
import Derived.Test.YtajeobncbcpllaaPAllx0
namespace Go.Proofs.Ytajeobncbcpllaa.PAll
open Go.Proofs.YtajeobncbcpllaaW
open Go.RowKit Go.Proofs.YtajeobncbcpllaaW.PrintWords Go.Proofs.YtajeobncbcpllaaW.PrintLast Go.Proofs.YtajeobncbcpllaaW.PrintMore
attribute [local go_sem] max2_int min2_int max_two min_two max_three min_three max_four min_four   -- for this text's walks alone
set_option linter.unusedVariables false
set_option linter.unusedSimpArgs false

/-! ### chart_Right: function 11 -/
mutual
def chart_Right.j0 : Nat → List (S27) → Bool → Option (Bool)
  | 0, _, _ => none
  | k + 1, x0, x12 => if x12 = true then (some false) else (chart_Right.l0 k x0 (x0.length : Int) 0)
def chart_Right.l0 : Nat → List (S27) → Int → Int → Option (Bool)
  | 0, _, _, _ => none
  | k + 1, x13, x14, x15 => if x15 < x14 then (if 0 ≤ x15 then (if x15 < (x13.length : Int) then (if ((rd_T27 x13 x15).f0) < 0 then (chart_Right.j2 k x15 x13 x14 x15 true ((rd_T27 x13 x15).f0) ((rd_T27 x13 x15).f1) ((rd_T27 x13 x15).f2)) else (if ((rd_T27 x13 x15).f0) ≥ 3 then (chart_Right.j2 k x15 x13 x14 x15 true ((rd_T27 x13 x15).f0) ((rd_T27 x13 x15).f1) ((rd_T27 x13 x15).f2)) else (if ((rd_T27 x13 x15).f1) > 1125899906842624 then (chart_Right.j2 k x15 x13 x14 x15 true ((rd_T27 x13 x15).f0) ((rd_T27 x13 x15).f1) ((rd_T27 x13 x15).f2)) else (chart_Right.j2 k x15 x13 x14 x15 (decide (((rd_T27 x13 x15).f1) < (-1125899906842624))) ((rd_T27 x13 x15).f0) ((rd_T27 x13 x15).f1) ((rd_T27 x13 x15).f2))))) else (none)) else (none)) else (some true)
def chart_Right.j2 : Nat → Int → List (S27) → Int → Int → Bool → Int → Int → Int → Option (Bool)
  | 0, _, _, _, _, _, _, _, _ => none
  | k + 1, x3, x13, x14, x15, x37, x103000, x103001, x103002 => if x37 = true then (some false) else (if x3 < 9 then (if x103000 = (wrap64 (Int.tdiv x3 3)) then (if x103002 = 0 then (if x3 ≥ 9 then (if x103002 < 0 then (chart_Right.j3 k x13 x14 x15 true) else (chart_Right.j3 k x13 x14 x15 (decide (x103001 < x103002)))) else (chart_Right.j3 k x13 x14 x15 false)) else (chart_Right.j3 k x13 x14 x15 true)) else (chart_Right.j3 k x13 x14 x15 true)) else (if x3 ≥ 9 then (if x103002 < 0 then (chart_Right.j3 k x13 x14 x15 true) else (chart_Right.j3 k x13 x14 x15 (decide (x103001 < x103002)))) else (chart_Right.j3 k x13 x14 x15 false)))
def chart_Right.j3 : Nat → List (S27) → Int → Int → Bool → Option (Bool)
  | 0, _, _, _, _ => none
  | k + 1, x13, x14, x15, x67 => if x67 = true then (some false) else (chart_Right.l0 k x13 x14 (wrap64 (x15 + 1)))
end
def chart_Right.f (k : Nat) (l0 : List (S27)) : Option (Bool) := if (l0.length : Int) < 9 then (chart_Right.j0 k l0 true) else (chart_Right.j0 k l0 (decide ((l0.length : Int) > 64)))
theorem chart_Right.mono_l : ∀ k, (∀ y0 y1, LeO (chart_Right.j0 k y0 y1) (chart_Right.j0 (k + 1) y0 y1)) ∧ (∀ y0 y1 y2, LeO (chart_Right.l0 k y0 y1 y2) (chart_Right.l0 (k + 1) y0 y1 y2)) ∧ (∀ y0 y1 y2 y3 y4 y5 y6 y7, LeO (chart_Right.j2 k y0 y1 y2 y3 y4 y5 y6 y7) (chart_Right.j2 (k + 1) y0 y1 y2 y3 y4 y5 y6 y7)) ∧ (∀ y0 y1 y2 y3, LeO (chart_Right.j3 k y0 y1 y2 y3) (chart_Right.j3 (k + 1) y0 y1 y2 y3))
  | 0 => ⟨fun _ _ r h => by simp [chart_Right.j0] at h, fun _ _ _ r h => by simp [chart_Right.l0] at h, fun _ _ _ _ _ _ _ _ r h => by simp [chart_Right.j2] at h, fun _ _ _ _ r h => by simp [chart_Right.j3] at h⟩
  | k + 1 => by
    obtain ⟨ih0, ih1, ih2, ih3⟩ := chart_Right.mono_l k
    refine ⟨?_, ?_, ?_, ?_⟩
    · intro y0 y1
      unfold chart_Right.j0
      repeat' first
      | (with_reducible exact ih0 _ _)
      | (with_reducible exact ih1 _ _ _)
      | (with_reducible exact ih2 _ _ _ _ _ _ _ _)
      | (with_reducible exact ih3 _ _ _ _)
      | (with_reducible exact LeO.refl _)
      | (with_reducible exact LeO.none _)
      | (with_reducible refine LeO.ite ?_ ?_)
      | (with_reducible refine LeO.bind ?_ (fun _ => ?_))
      | exact ih0 _ _
      | exact ih1 _ _ _
      | exact ih2 _ _ _ _ _ _ _ _
      | exact ih3 _ _ _ _
      | exact LeO.none _
      | refine LeO.ite ?_ ?_
      | refine LeO.bind ?_ (fun _ => ?_)
    · intro y0 y1 y2
      unfold chart_Right.l0
      repeat' first
      | (with_reducible exact ih0 _ _)
      | (with_reducible exact ih1 _ _ _)
      | (with_reducible exact ih2 _ _ _ _ _ _ _ _)
      | (with_reducible exact ih3 _ _ _ _)
      | (with_reducible exact LeO.refl _)
      | (with_reducible exact LeO.none _)
      | (with_reducible refine LeO.ite ?_ ?_)
      | (with_reducible refine LeO.bind ?_ (fun _ => ?_))
      | exact ih0 _ _
      | exact ih1 _ _ _
      | exact ih2 _ _ _ _ _ _ _ _
      | exact ih3 _ _ _ _
      | exact LeO.none _
      | refine LeO.ite ?_ ?_
      | refine LeO.bind ?_ (fun _ => ?_)
    · intro y0 y1 y2 y3 y4 y5 y6 y7
      unfold chart_Right.j2
      repeat' first
      | (with_reducible exact ih0 _ _)
      | (with_reducible exact ih1 _ _ _)
      | (with_reducible exact ih2 _ _ _ _ _ _ _ _)
      | (with_reducible exact ih3 _ _ _ _)
      | (with_reducible exact LeO.refl _)
      | (with_reducible exact LeO.none _)
      | (with_reducible refine LeO.ite ?_ ?_)
      | (with_reducible refine LeO.bind ?_ (fun _ => ?_))
      | exact ih0 _ _
      | exact ih1 _ _ _
      | exact ih2 _ _ _ _ _ _ _ _
      | exact ih3 _ _ _ _
      | exact LeO.none _
      | refine LeO.ite ?_ ?_
      | refine LeO.bind ?_ (fun _ => ?_)
    · intro y0 y1 y2 y3
      unfold chart_Right.j3
      repeat' first
      | (with_reducible exact ih0 _ _)
      | (with_reducible exact ih1 _ _ _)
      | (with_reducible exact ih2 _ _ _ _ _ _ _ _)
      | (with_reducible exact ih3 _ _ _ _)
      | (with_reducible exact LeO.refl _)
      | (with_reducible exact LeO.none _)
      | (with_reducible refine LeO.ite ?_ ?_)
      | (with_reducible refine LeO.bind ?_ (fun _ => ?_))
      | exact ih0 _ _
      | exact ih1 _ _ _
      | exact ih2 _ _ _ _ _ _ _ _
      | exact ih3 _ _ _ _
      | exact LeO.none _
      | refine LeO.ite ?_ ?_
      | refine LeO.bind ?_ (fun _ => ?_)
theorem chart_Right.mono : ∀ a0 k, LeO (chart_Right.f k a0) (chart_Right.f (k + 1) a0) := by
  intro a0 k
  obtain ⟨ih0, ih1, ih2, ih3⟩ := chart_Right.mono_l k
  unfold chart_Right.f
  repeat' first
      | (with_reducible exact ih0 _ _)
      | (with_reducible exact ih1 _ _ _)
      | (with_reducible exact ih2 _ _ _ _ _ _ _ _)
      | (with_reducible exact ih3 _ _ _ _)
      | (with_reducible exact LeO.refl _)
      | (with_reducible exact LeO.none _)
      | (with_reducible refine LeO.ite ?_ ?_)
      | (with_reducible refine LeO.bind ?_ (fun _ => ?_))
      | exact ih0 _ _
      | exact ih1 _ _ _
      | exact ih2 _ _ _ _ _ _ _ _
      | exact ih3 _ _ _ _
      | exact LeO.none _
      | refine LeO.ite ?_ ?_
      | refine LeO.bind ?_ (fun _ => ?_)
set_option maxHeartbeats 8000000 in
set_option maxRecDepth 100000 in
theorem chart_Right.calls (k : Nat) (A0 : Option Addr) (c0 : Nat) (l0 : List (S27)) (r : Bool) (w : World) (hr0 : Kd.C k27 w A0 l0.length l0) (hc0 : l0.length ≤ c0) (h : chart_Right.f k l0 = some r) :
    Calls Try.prog 11 #[.slice A0 l0.length c0] w fun e w' => e = .returned (.bool r) ∧ Below w.heap.size w w' := by
  have hu27 := Try.underlying27
  have HR0 := Aside0.mk hr0
  have HC0 := Aside0.mk hc0
  clear hr0 hc0
  have HB := Aside0.mk (Below.refl w.heap.size w)
  have H : (if (l0.length : Int) < 9 then (chart_Right.j0 k l0 true) else (chart_Right.j0 k l0 (decide ((l0.length : Int) > 64)))) = some r := h
  clear h
  have HC2 := Aside0.mk H
  clear H
  go_enter Try.func11, Try.ntmps11
  go_upto_region 1 with (fail)
  go_cut [12] (fun v12 wc => ∃ (kq : Nat) (x12_1 : Bool), v12 = .bool x12_1 ∧ Aside0 (chart_Right.j0 kq l0 x12_1 = some r) ∧ Aside0 (kq ≤ k) ∧ Aside0 (Below w.heap.size w wc))
  case first =>
    have H := HC2.out
    clear HC2
    by_cases c3 : (l0.length : Int) < 9
    · rw [if_pos c3] at H
      have c3b0 : decide ((l0.length : Int) < 9) = true := decide_eq_true c3
      have c3b1 : decide (l0.length < 9) = true := decide_eq_true (by omega)
      clear c3
      (first | rw [c3b0] | (simp only [i64_w, i32_w]; rw [c3b0]) | skip)
      have H' := Aside0.mk H
      clear H
      go_wp2
      go_meet
      case rel => exact ⟨_, (true), (by first | rfl | (simp; done) | (simp [*]; done)), H', ⟨by first | omega | exact Nat.le_refl _⟩, ⟨by repeat (first | (with_reducible first | exact HB.out | apply below_alloc | apply pw_below_drewN | apply below_drew1) | exact HB.out)⟩⟩
    · rw [if_neg c3] at H
      have c3b0 : decide ((l0.length : Int) < 9) = false := decide_eq_false c3
      have c3b1 : decide (l0.length < 9) = false := decide_eq_false (by omega)
      clear c3
      (first | rw [c3b0] | (simp only [i64_w, i32_w]; rw [c3b0]) | skip)
      have H' := Aside0.mk H
      clear H
      go_wp2
      go_meet
      case rel => exact ⟨_, (decide ((l0.length : Int) > 64)), (by first | rfl | (simp; done) | (simp [*]; done)), H', ⟨by first | omega | exact Nat.le_refl _⟩, ⟨by repeat (first | (with_reducible first | exact HB.out | apply below_alloc | apply pw_below_drewN | apply below_drew1) | exact HB.out)⟩⟩
  case rest =>
    clear HC2
    try clear c1
    try clear p2
    try clear c3
    try clear c3b0
    try clear c3b1
    obtain ⟨kq, x12_1, rfl, HA, HJ1, HB⟩ := hcut
    cases kq with
    | zero => exact absurd HA.out (by simp [chart_Right.j0])
    | succ kj1 =>
      have H := HA.out
      clear HA
      simp only [chart_Right.j0] at H
      by_cases c4 : x12_1 = true
      · subst c4
        have H1 : (some false) = some r := by rw [if_pos rfl] at H; exact H
        clear H
        have H := H1
        clear H1
        obtain rfl := Option.some.inj H
        go_wp2
        go_ret
        exact ⟨by first | rfl | (simp [errW_none, errW_some] <;> rfl) | (simp [*, errW_none, errW_some] <;> rfl), by repeat (first | (with_reducible first | exact HB.out | apply below_alloc | apply pw_below_drewN | apply below_drew1) | exact HB.out)⟩
      · replace c4 := Bool.eq_false_iff.mpr c4
        subst c4
        have H1 : (chart_Right.l0 kj1 l0 (l0.length : Int) 0) = some r := by rw [if_neg (show ¬ (false = true) by decide)] at H; exact H
        clear H
        have H := H1
        clear H1
        have H' := Aside0.mk H
        clear H
        go_wp2
        go_loopg [15] kj1 (fun kq v15 w' => ∃ (x15_2 : Int), v15 = .int .i64 x15_2 ∧ Aside0 (chart_Right.l0 kq l0 (l0.length : Int) x15_2 = some r) ∧ Aside0 (kq ≤ kj1) ∧ Aside0 (Below w.heap.size w w'))
        case atStart => exact ⟨(0), (by first | rfl | (simp; done) | (simp [*]; done)), H', ⟨Nat.le_refl _⟩, ⟨by repeat (first | (with_reducible first | exact HB.out | apply below_alloc | apply pw_below_drewN | apply below_drew1) | exact HB.out)⟩⟩
        case round =>
          clear H'
          try clear c1
          try clear p2
          try clear c3
          try clear c3b0
          try clear c3b1
          try clear c4
          try clear p2
          obtain ⟨x15_2, rfl, HA, HK2, HB⟩ := hrel
          cases gk with
          | zero => exact absurd HA.out (by simp [chart_Right.l0])
          | succ k2 =>
            have H := HA.out
            clear HA
            simp only [chart_Right.l0] at H
            by_cases c5 : x15_2 < (l0.length : Int)
            · rw [if_pos c5] at H
              have c5b0 : decide (x15_2 < (l0.length : Int)) = true := decide_eq_true c5
              clear c5
              by_cases c6 : 0 ≤ x15_2
              · rw [if_pos c6] at H
                have c6b0 : decide (0 ≤ x15_2) = true := decide_eq_true c6
                clear c6
                by_cases c7 : x15_2 < (l0.length : Int)
                · rw [if_pos c7] at H
                  have c7b0 : decide (x15_2 < (l0.length : Int)) = true := decide_eq_true c7
                  clear c7
                  have HC8 := Aside0.mk H
                  clear H
                  have p101 : 0 ≤ (x15_2 : Int) := of_decide_eq_true (by first | (with_reducible assumption) | assumption)
                  have q101 : x15_2 < (l0.length : Int) := of_decide_eq_true (by first | (with_reducible assumption) | assumption)
                  obtain ⟨ad101, e101, hx101_0, hx101_1, hx101_2⟩ := at_T27 HR0.out x15_2 p101 q101
                  cases e101
                  replace hx101_0 := (HB.out.cell (World.block_lt_of_cell? w _ hx101_0)).trans hx101_0
                  replace hx101_1 := (HB.out.cell (World.block_lt_of_cell? w _ hx101_1)).trans hx101_1
                  replace hx101_2 := (HB.out.cell (World.block_lt_of_cell? w _ hx101_2)).trans hx101_2
                  replace p101 := eq_true p101
                  replace q101 := eq_true q101
                  go_upto_region 6 with (first | ((with_reducible refine gate_dst (N := 4) rfl ?_); (try (refine gate_guard (by rfl) ?_; dsimp only)); refine box_event ?hg (N := 4) ?hd (cs := #[.int .i64 0, .int .i64 0, .int .i64 0]) (t := 27) ?hr ?_; (case hd => rfl); (case hg => rfl); (case hr => first | (go_simp; done) | (go_simp; rfl)); intro gb102 hg w9 hbox hb; have n0_ := Aside0.mk (below_step (by repeat (first | (with_reducible first | exact HB.out | apply below_alloc | apply pw_below_drewN | apply below_drew1) | exact HB.out)) hb); have n1_ := Aside0.mk (hbox); have n2_ := Aside0.mk ((by rw [hg]; exact (below_size (by repeat (first | (with_reducible first | exact HB.out | apply below_alloc | apply pw_below_drewN | apply below_drew1) | exact HB.out))) : w.heap.size ≤ gb102)); have n3_ := Aside0.mk ((by rw [hg]; exact (below_size (by repeat (first | (with_reducible first | exact HB.out | apply below_alloc | apply pw_below_drewN | apply below_drew1) | exact HB.out))) : w.heap.size ≤ gb102)); clear HB; have HB := n0_; have BK102 := n1_; have GW102 := n2_; have GE102 := n3_; clear n0_ n1_ n2_ n3_; clear hb hbox hg; have hcz10_0 : w9.cell? ⟨gb102, 0, none⟩ = some (.int .i64 0) := (blk_cell BK102.out 0).trans rfl; have hcz10_1 : w9.cell? ⟨gb102, 1, none⟩ = some (.int .i64 0) := (blk_cell BK102.out 1).trans rfl; have hcz10_2 : w9.cell? ⟨gb102, 2, none⟩ = some (.int .i64 0) := (blk_cell BK102.out 2).trans rfl; have hfz10_0 := blk_frozen BK102.out 0; have hfz10_1 := blk_frozen BK102.out 1; have hfz10_2 := blk_frozen BK102.out 2))
                  (try simp only [Act.put, List.setIfInBounds_toArray, List.set_cons_zero, List.set_cons_succ])
                  go_cut [37] (fun v37 wc => ∃ (kq : Nat) (x37_7 : Bool), v37 = .bool x37_7 ∧ Aside0 (chart_Right.j2 kq x15_2 l0 (l0.length : Int) x15_2 x37_7 ((rd_T27 l0 x15_2).f0) ((rd_T27 l0 x15_2).f1) ((rd_T27 l0 x15_2).f2) = some r) ∧ Aside0 (kq ≤ k2) ∧ Aside0 (wc.heap[gb102]? = some (.cells #[.int .i64 ((rd_T27 l0 x15_2).f0), .int .i64 ((rd_T27 l0 x15_2).f1), .int .i64 ((rd_T27 l0 x15_2).f2)] 27 (0, 0))) ∧ Aside0 (Below w.heap.size w wc))
                  case first =>
                    have H := HC8.out
                    clear HC8
                    by_cases c11 : ((rd_T27 l0 x15_2).f0) < 0
                    · rw [if_pos c11] at H
                      have c11b0 : decide (((rd_T27 l0 x15_2).f0) < 0) = true := decide_eq_true c11
                      clear c11
                      (first | rw [c11b0] | (simp only [i64_w, i32_w]; rw [c11b0]) | skip)
                      have H' := Aside0.mk H
                      clear H
                      have hcz12_0 : w9.cell? ⟨gb102, 0, none⟩ = some (.int .i64 0) := (blk_cell BK102.out 0).trans rfl
                      have hcz12_1 : w9.cell? ⟨gb102, 1, none⟩ = some (.int .i64 0) := (blk_cell BK102.out 1).trans rfl
                      have hcz12_2 : w9.cell? ⟨gb102, 2, none⟩ = some (.int .i64 0) := (blk_cell BK102.out 2).trans rfl
                      have hfz12_0 := blk_frozen BK102.out 0
                      have hfz12_1 := blk_frozen BK102.out 1
                      have hfz12_2 := blk_frozen BK102.out 2
                      go_wp2
                      go_meet
                      case rel => exact ⟨_, (true), (by first | rfl | (simp; done) | (simp [*]; done)), H', ⟨by have := HJ1.out; have := HK2.out; first | omega | exact Nat.le_refl _⟩, ⟨by (with_reducible repeat (first | refine blk_drewN ?_ _ | refine blk_drew ?_ | refine blk_alloc ?_ _)); refine blk_put (cs := #[.int .i64 ((rd_T27 l0 x15_2).f0), .int .i64 ((rd_T27 l0 x15_2).f1), .int .i64 0]) ?_ 2 _ rfl; (with_reducible repeat (first | refine blk_drewN ?_ _ | refine blk_drew ?_ | refine blk_alloc ?_ _)); refine blk_put (cs := #[.int .i64 ((rd_T27 l0 x15_2).f0), .int .i64 0, .int .i64 0]) ?_ 1 _ rfl; (with_reducible repeat (first | refine blk_drewN ?_ _ | refine blk_drew ?_ | refine blk_alloc ?_ _)); refine blk_put (cs := #[.int .i64 0, .int .i64 0, .int .i64 0]) ?_ 0 _ rfl; (with_reducible repeat (first | refine blk_drewN ?_ _ | refine blk_drew ?_ | refine blk_alloc ?_ _)); exact BK102.out⟩, ⟨by repeat (first | (with_reducible first | exact HB.out | apply below_alloc | apply pw_below_drewN | apply below_drew1 | refine below_set ?_ GE102.out) | exact HB.out)⟩⟩
                    · rw [if_neg c11] at H
                      have c11b0 : decide (((rd_T27 l0 x15_2).f0) < 0) = false := decide_eq_false c11
                      clear c11
                      (first | rw [c11b0] | (simp only [i64_w, i32_w]; rw [c11b0]) | skip)
                      by_cases c13 : ((rd_T27 l0 x15_2).f0) ≥ 3
                      · rw [if_pos c13] at H
                        have c13b0 : decide (3 ≤ ((rd_T27 l0 x15_2).f0)) = true := decide_eq_true c13
                        clear c13
                        have H' := Aside0.mk H
                        clear H
                        have hcz14_0 : w9.cell? ⟨gb102, 0, none⟩ = some (.int .i64 0) := (blk_cell BK102.out 0).trans rfl
                        have hcz14_1 : w9.cell? ⟨gb102, 1, none⟩ = some (.int .i64 0) := (blk_cell BK102.out 1).trans rfl
                        have hcz14_2 : w9.cell? ⟨gb102, 2, none⟩ = some (.int .i64 0) := (blk_cell BK102.out 2).trans rfl
                        have hfz14_0 := blk_frozen BK102.out 0
                        have hfz14_1 := blk_frozen BK102.out 1
                        have hfz14_2 := blk_frozen BK102.out 2
                        go_wp2
                        go_meet
                        case rel => exact ⟨_, (true), (by first | rfl | (simp; done) | (simp [*]; done)), H', ⟨by have := HJ1.out; have := HK2.out; first | omega | exact Nat.le_refl _⟩, ⟨by (with_reducible repeat (first | refine blk_drewN ?_ _ | refine blk_drew ?_ | refine blk_alloc ?_ _)); refine blk_put (cs := #[.int .i64 ((rd_T27 l0 x15_2).f0), .int .i64 ((rd_T27 l0 x15_2).f1), .int .i64 0]) ?_ 2 _ rfl; (with_reducible repeat (first | refine blk_drewN ?_ _ | refine blk_drew ?_ | refine blk_alloc ?_ _)); refine blk_put (cs := #[.int .i64 ((rd_T27 l0 x15_2).f0), .int .i64 0, .int .i64 0]) ?_ 1 _ rfl; (with_reducible repeat (first | refine blk_drewN ?_ _ | refine blk_drew ?_ | refine blk_alloc ?_ _)); refine blk_put (cs := #[.int .i64 0, .int .i64 0, .int .i64 0]) ?_ 0 _ rfl; (with_reducible repeat (first | refine blk_drewN ?_ _ | refine blk_drew ?_ | refine blk_alloc ?_ _)); exact BK102.out⟩, ⟨by repeat (first | (with_reducible first | exact HB.out | apply below_alloc | apply pw_below_drewN | apply below_drew1 | refine below_set ?_ GE102.out) | exact HB.out)⟩⟩
                      · rw [if_neg c13] at H
                        have c13b0 : decide (3 ≤ ((rd_T27 l0 x15_2).f0)) = false := decide_eq_false c13
                        clear c13
                        by_cases c15 : ((rd_T27 l0 x15_2).f1) > 1125899906842624
                        · rw [if_pos c15] at H
                          have c15b0 : decide (1125899906842624 < ((rd_T27 l0 x15_2).f1)) = true := decide_eq_true c15
                          clear c15
                          have H' := Aside0.mk H
                          clear H
                          have hcz16_0 : w9.cell? ⟨gb102, 0, none⟩ = some (.int .i64 0) := (blk_cell BK102.out 0).trans rfl
                          have hcz16_1 : w9.cell? ⟨gb102, 1, none⟩ = some (.int .i64 0) := (blk_cell BK102.out 1).trans rfl
                          have hcz16_2 : w9.cell? ⟨gb102, 2, none⟩ = some (.int .i64 0) := (blk_cell BK102.out 2).trans rfl
                          have hfz16_0 := blk_frozen BK102.out 0
                          have hfz16_1 := blk_frozen BK102.out 1
                          have hfz16_2 := blk_frozen BK102.out 2
                          go_wp2
                          go_meet
                          case rel => exact ⟨_, (true), (by first | rfl | (simp; done) | (simp [*]; done)), H', ⟨by have := HJ1.out; have := HK2.out; first | omega | exact Nat.le_refl _⟩, ⟨by (with_reducible repeat (first | refine blk_drewN ?_ _ | refine blk_drew ?_ | refine blk_alloc ?_ _)); refine blk_put (cs := #[.int .i64 ((rd_T27 l0 x15_2).f0), .int .i64 ((rd_T27 l0 x15_2).f1), .int .i64 0]) ?_ 2 _ rfl; (with_reducible repeat (first | refine blk_drewN ?_ _ | refine blk_drew ?_ | refine blk_alloc ?_ _)); refine blk_put (cs := #[.int .i64 ((rd_T27 l0 x15_2).f0), .int .i64 0, .int .i64 0]) ?_ 1 _ rfl; (with_reducible repeat (first | refine blk_drewN ?_ _ | refine blk_drew ?_ | refine blk_alloc ?_ _)); refine blk_put (cs := #[.int .i64 0, .int .i64 0, .int .i64 0]) ?_ 0 _ rfl; (with_reducible repeat (first | refine blk_drewN ?_ _ | refine blk_drew ?_ | refine blk_alloc ?_ _)); exact BK102.out⟩, ⟨by repeat (first | (with_reducible first | exact HB.out | apply below_alloc | apply pw_below_drewN | apply below_drew1 | refine below_set ?_ GE102.out) | exact HB.out)⟩⟩
                        · rw [if_neg c15] at H
                          have c15b0 : decide (1125899906842624 < ((rd_T27 l0 x15_2).f1)) = false := decide_eq_false c15
                          clear c15
                          have H' := Aside0.mk H
                          clear H
                          have hcz17_0 : w9.cell? ⟨gb102, 0, none⟩ = some (.int .i64 0) := (blk_cell BK102.out 0).trans rfl
                          have hcz17_1 : w9.cell? ⟨gb102, 1, none⟩ = some (.int .i64 0) := (blk_cell BK102.out 1).trans rfl
                          have hcz17_2 : w9.cell? ⟨gb102, 2, none⟩ = some (.int .i64 0) := (blk_cell BK102.out 2).trans rfl
                          have hfz17_0 := blk_frozen BK102.out 0
                          have hfz17_1 := blk_frozen BK102.out 1
                          have hfz17_2 := blk_frozen BK102.out 2
                          go_wp2
                          go_meet
                          case rel => exact ⟨_, (decide (((rd_T27 l0 x15_2).f1) < (-1125899906842624))), (by first | rfl | (simp; done) | (simp [*]; done)), H', ⟨by have := HJ1.out; have := HK2.out; first | omega | exact Nat.le_refl _⟩, ⟨by (with_reducible repeat (first | refine blk_drewN ?_ _ | refine blk_drew ?_ | refine blk_alloc ?_ _)); refine blk_put (cs := #[.int .i64 ((rd_T27 l0 x15_2).f0), .int .i64 ((rd_T27 l0 x15_2).f1), .int .i64 0]) ?_ 2 _ rfl; (with_reducible repeat (first | refine blk_drewN ?_ _ | refine blk_drew ?_ | refine blk_alloc ?_ _)); refine blk_put (cs := #[.int .i64 ((rd_T27 l0 x15_2).f0), .int .i64 0, .int .i64 0]) ?_ 1 _ rfl; (with_reducible repeat (first | refine blk_drewN ?_ _ | refine blk_drew ?_ | refine blk_alloc ?_ _)); refine blk_put (cs := #[.int .i64 0, .int .i64 0, .int .i64 0]) ?_ 0 _ rfl; (with_reducible repeat (first | refine blk_drewN ?_ _ | refine blk_drew ?_ | refine blk_alloc ?_ _)); exact BK102.out⟩, ⟨by repeat (first | (with_reducible first | exact HB.out | apply below_alloc | apply pw_below_drewN | apply below_drew1 | refine below_set ?_ GE102.out) | exact HB.out)⟩⟩
                  case rest =>
                    clear HC8
                    try clear c1
                    try clear p1
                    try clear q1
                    try clear hx1
                    try clear p2
                    try clear c3
                    try clear c3b0
                    try clear c3b1
                    try clear c4
                    try clear c5
                    try clear c5b0
                    try clear c6
                    try clear c6b0
                    try clear c7
                    try clear c7b0
                    try clear p10
                    try clear q10
                    try clear hx10
                    try clear c11
                    try clear c11b0
                    try clear c13
                    try clear c13b0
                    try clear c15
                    try clear c15b0
                    try clear hcz10_0
                    try clear hcz10_1
                    try clear hcz10_2
                    try clear hcz12_0
                    try clear hcz12_1
                    try clear hcz12_2
                    try clear hcz14_0
                    try clear hcz14_1
                    try clear hcz14_2
                    try clear hcz16_0
                    try clear hcz16_1
                    try clear hcz16_2
                    try clear hcz17_0
                    try clear hcz17_1
                    try clear hcz17_2
                    try clear hfz10_0
                    try clear hfz10_1
                    try clear hfz10_2
                    try clear hfz12_0
                    try clear hfz12_1
                    try clear hfz12_2
                    try clear hfz14_0
                    try clear hfz14_1
                    try clear hfz14_2
                    try clear hfz16_0
                    try clear hfz16_1
                    try clear hfz16_2
                    try clear hfz17_0
                    try clear hfz17_1
                    try clear hfz17_2
                    try clear hx101_0
                    try clear hx101_1
                    try clear hx101_2
                    try clear p101
                    try clear p2
                    try clear q101
                    obtain ⟨kq, x37_7, rfl, HA, HJ7, BK102, HB⟩ := hcut
                    cases kq with
                    | zero => exact absurd HA.out (by simp [chart_Right.j2])
                    | succ kj7 =>
                      have H := HA.out
                      clear HA
                      simp only [chart_Right.j2] at H
                      by_cases c18 : x37_7 = true
                      · subst c18
                        have H1 : (some false) = some r := by rw [if_pos rfl] at H; exact H
                        clear H
                        have H := H1
                        clear H1
                        obtain rfl := Option.some.inj H
                        go_wp2
                        go_ret
                        exact ⟨by first | rfl | (simp [errW_none, errW_some] <;> rfl) | (simp [*, errW_none, errW_some] <;> rfl), by repeat (first | (with_reducible first | exact HB.out | apply below_alloc | apply pw_below_drewN | apply below_drew1 | refine below_set ?_ GE102.out) | exact HB.out)⟩
                      · replace c18 := Bool.eq_false_iff.mpr c18
                        subst c18
                        have H1 : (if x15_2 < 9 then (if ((rd_T27 l0 x15_2).f0) = (wrap64 (Int.tdiv x15_2 3)) then (if ((rd_T27 l0 x15_2).f2) = 0 then (if x15_2 ≥ 9 then (if ((rd_T27 l0 x15_2).f2) < 0 then (chart_Right.j3 kj7 l0 (l0.length : Int) x15_2 true) else (chart_Right.j3 kj7 l0 (l0.length : Int) x15_2 (decide (((rd_T27 l0 x15_2).f1) < ((rd_T27 l0 x15_2).f2))))) else (chart_Right.j3 kj7 l0 (l0.length : Int) x15_2 false)) else (chart_Right.j3 kj7 l0 (l0.length : Int) x15_2 true)) else (chart_Right.j3 kj7 l0 (l0.length : Int) x15_2 true)) else (if x15_2 ≥ 9 then (if ((rd_T27 l0 x15_2).f2) < 0 then (chart_Right.j3 kj7 l0 (l0.length : Int) x15_2 true) else (chart_Right.j3 kj7 l0 (l0.length : Int) x15_2 (decide (((rd_T27 l0 x15_2).f1) < ((rd_T27 l0 x15_2).f2))))) else (chart_Right.j3 kj7 l0 (l0.length : Int) x15_2 false))) = some r := by rw [if_neg (show ¬ (false = true) by decide)] at H; exact H
                        clear H
                        have H := H1
                        clear H1
                        have HC19 := Aside0.mk H
                        clear H
                        go_upto_region 8 with (fail)
                        go_cut [67] (fun v67 wc => ∃ (kq : Nat) (x67_18 : Bool), v67 = .bool x67_18 ∧ Aside0 (chart_Right.j3 kq l0 (l0.length : Int) x15_2 x67_18 = some r) ∧ Aside0 (kq ≤ kj7) ∧ Aside0 (wc.heap[gb102]? = some (.cells #[.int .i64 ((rd_T27 l0 x15_2).f0), .int .i64 ((rd_T27 l0 x15_2).f1), .int .i64 ((rd_T27 l0 x15_2).f2)] 27 (0, 0))) ∧ Aside0 (Below w.heap.size w wc))
                        case first =>
                          have H := HC19.out
                          clear HC19
                          by_cases c20 : x15_2 < 9
                          · rw [if_pos c20] at H
                            have c20b0 : decide (x15_2 < 9) = true := decide_eq_true c20
                            clear c20
                            (first | rw [c20b0] | (simp only [i64_w, i32_w]; rw [c20b0]) | skip)
                            by_cases c21 : ((rd_T27 l0 x15_2).f0) = (wrap64 (Int.tdiv x15_2 3))
                            · rw [if_pos c21] at H
                              have c21b0 : (((rd_T27 l0 x15_2).f0) == (wrap64 (Int.tdiv x15_2 3))) = true := beq_iff_eq.mpr c21
                              have c21b1 : (((rd_T27 l0 x15_2).f0) != (wrap64 (Int.tdiv x15_2 3))) = false := bne_eq_false_iff_eq.mpr c21
                              clear c21
                              by_cases c22 : ((rd_T27 l0 x15_2).f2) = 0
                              · rw [if_pos c22] at H
                                have c22b0 : (((rd_T27 l0 x15_2).f2) == 0) = true := beq_iff_eq.mpr c22
                                have c22b1 : (((rd_T27 l0 x15_2).f2) != 0) = false := bne_eq_false_iff_eq.mpr c22
                                clear c22
                                by_cases c23 : x15_2 ≥ 9
                                · rw [if_pos c23] at H
                                  have c23b0 : decide (9 ≤ x15_2) = true := decide_eq_true c23
                                  clear c23
                                  by_cases c24 : ((rd_T27 l0 x15_2).f2) < 0
                                  · rw [if_pos c24] at H
                                    have c24b0 : decide (((rd_T27 l0 x15_2).f2) < 0) = true := decide_eq_true c24
                                    clear c24
                                    have H' := Aside0.mk H
                                    clear H
                                    have hcz25_0 : wc.cell? ⟨gb102, 0, none⟩ = some (.int .i64 ((rd_T27 l0 x15_2).f0)) := (blk_cell BK102.out 0).trans rfl
                                    have hcz25_1 : wc.cell? ⟨gb102, 1, none⟩ = some (.int .i64 ((rd_T27 l0 x15_2).f1)) := (blk_cell BK102.out 1).trans rfl
                                    have hcz25_2 : wc.cell? ⟨gb102, 2, none⟩ = some (.int .i64 ((rd_T27 l0 x15_2).f2)) := (blk_cell BK102.out 2).trans rfl
                                    have hfz25_0 := blk_frozen BK102.out 0
                                    have hfz25_1 := blk_frozen BK102.out 1
                                    have hfz25_2 := blk_frozen BK102.out 2
                                    go_wp2
                                    go_meet
                                    case rel => exact ⟨_, (true), (by first | rfl | (simp; done) | (simp [*]; done)), H', ⟨by have := HJ1.out; have := HK2.out; have := HJ7.out; first | omega | exact Nat.le_refl _⟩, ⟨by (with_reducible repeat (first | refine blk_drewN ?_ _ | refine blk_drew ?_ | refine blk_alloc ?_ _)); exact BK102.out⟩, ⟨by repeat (first | (with_reducible first | exact HB.out | apply below_alloc | apply pw_below_drewN | apply below_drew1 | refine below_set ?_ GE102.out) | exact HB.out)⟩⟩
                                  · rw [if_neg c24] at H
                                    have c24b0 : decide (((rd_T27 l0 x15_2).f2) < 0) = false := decide_eq_false c24
                                    clear c24
                                    have H' := Aside0.mk H
                                    clear H
                                    have hcz26_0 : wc.cell? ⟨gb102, 0, none⟩ = some (.int .i64 ((rd_T27 l0 x15_2).f0)) := (blk_cell BK102.out 0).trans rfl
                                    have hcz26_1 : wc.cell? ⟨gb102, 1, none⟩ = some (.int .i64 ((rd_T27 l0 x15_2).f1)) := (blk_cell BK102.out 1).trans rfl
                                    have hcz26_2 : wc.cell? ⟨gb102, 2, none⟩ = some (.int .i64 ((rd_T27 l0 x15_2).f2)) := (blk_cell BK102.out 2).trans rfl
                                    have hfz26_0 := blk_frozen BK102.out 0
                                    have hfz26_1 := blk_frozen BK102.out 1
                                    have hfz26_2 := blk_frozen BK102.out 2
                                    go_wp2
                                    go_meet
                                    case rel => exact ⟨_, (decide (((rd_T27 l0 x15_2).f1) < ((rd_T27 l0 x15_2).f2))), (by first | rfl | (simp; done) | (simp [*]; done)), H', ⟨by have := HJ1.out; have := HK2.out; have := HJ7.out; first | omega | exact Nat.le_refl _⟩, ⟨by (with_reducible repeat (first | refine blk_drewN ?_ _ | refine blk_drew ?_ | refine blk_alloc ?_ _)); exact BK102.out⟩, ⟨by repeat (first | (with_reducible first | exact HB.out | apply below_alloc | apply pw_below_drewN | apply below_drew1 | refine below_set ?_ GE102.out) | exact HB.out)⟩⟩
                                · rw [if_neg c23] at H
                                  have c23b0 : decide (9 ≤ x15_2) = false := decide_eq_false c23
                                  clear c23
                                  have H' := Aside0.mk H
                                  clear H
                                  have hcz27_0 : wc.cell? ⟨gb102, 0, none⟩ = some (.int .i64 ((rd_T27 l0 x15_2).f0)) := (blk_cell BK102.out 0).trans rfl
                                  have hcz27_1 : wc.cell? ⟨gb102, 1, none⟩ = some (.int .i64 ((rd_T27 l0 x15_2).f1)) := (blk_cell BK102.out 1).trans rfl
                                  have hcz27_2 : wc.cell? ⟨gb102, 2, none⟩ = some (.int .i64 ((rd_T27 l0 x15_2).f2)) := (blk_cell BK102.out 2).trans rfl
                                  have hfz27_0 := blk_frozen BK102.out 0
                                  have hfz27_1 := blk_frozen BK102.out 1
                                  have hfz27_2 := blk_frozen BK102.out 2
                                  go_wp2
                                  go_meet
                                  case rel => exact ⟨_, (false), (by first | rfl | (simp; done) | (simp [*]; done)), H', ⟨by have := HJ1.out; have := HK2.out; have := HJ7.out; first | omega | exact Nat.le_refl _⟩, ⟨by (with_reducible repeat (first | refine blk_drewN ?_ _ | refine blk_drew ?_ | refine blk_alloc ?_ _)); exact BK102.out⟩, ⟨by repeat (first | (with_reducible first | exact HB.out | apply below_alloc | apply pw_below_drewN | apply below_drew1 | refine below_set ?_ GE102.out) | exact HB.out)⟩⟩
                              · rw [if_neg c22] at H
                                have c22b0 : (((rd_T27 l0 x15_2).f2) == 0) = false := beq_eq_false_iff_ne.mpr c22
                                have c22b1 : (((rd_T27 l0 x15_2).f2) != 0) = true := bne_iff_ne.mpr c22
                                have H' := Aside0.mk H
                                clear H
                                have hcz28_0 : wc.cell? ⟨gb102, 0, none⟩ = some (.int .i64 ((rd_T27 l0 x15_2).f0)) := (blk_cell BK102.out 0).trans rfl
                                have hcz28_1 : wc.cell? ⟨gb102, 1, none⟩ = some (.int .i64 ((rd_T27 l0 x15_2).f1)) := (blk_cell BK102.out 1).trans rfl
                                have hcz28_2 : wc.cell? ⟨gb102, 2, none⟩ = some (.int .i64 ((rd_T27 l0 x15_2).f2)) := (blk_cell BK102.out 2).trans rfl
                                have hfz28_0 := blk_frozen BK102.out 0
                                have hfz28_1 := blk_frozen BK102.out 1
                                have hfz28_2 := blk_frozen BK102.out 2
                                go_wp2
                                go_meet
                                case rel => exact ⟨_, (true), (by first | rfl | (simp; done) | (simp [*]; done)), H', ⟨by have := HJ1.out; have := HK2.out; have := HJ7.out; first | omega | exact Nat.le_refl _⟩, ⟨by (with_reducible repeat (first | refine blk_drewN ?_ _ | refine blk_drew ?_ | refine blk_alloc ?_ _)); exact BK102.out⟩, ⟨by repeat (first | (with_reducible first | exact HB.out | apply below_alloc | apply pw_below_drewN | apply below_drew1 | refine below_set ?_ GE102.out) | exact HB.out)⟩⟩
                            · rw [if_neg c21] at H
                              have c21b0 : (((rd_T27 l0 x15_2).f0) == (wrap64 (Int.tdiv x15_2 3))) = false := beq_eq_false_iff_ne.mpr c21
                              have c21b1 : (((rd_T27 l0 x15_2).f0) != (wrap64 (Int.tdiv x15_2 3))) = true := bne_iff_ne.mpr c21
                              have H' := Aside0.mk H
                              clear H
                              have hcz29_0 : wc.cell? ⟨gb102, 0, none⟩ = some (.int .i64 ((rd_T27 l0 x15_2).f0)) := (blk_cell BK102.out 0).trans rfl
                              have hcz29_1 : wc.cell? ⟨gb102, 1, none⟩ = some (.int .i64 ((rd_T27 l0 x15_2).f1)) := (blk_cell BK102.out 1).trans rfl
                              have hcz29_2 : wc.cell? ⟨gb102, 2, none⟩ = some (.int .i64 ((rd_T27 l0 x15_2).f2)) := (blk_cell BK102.out 2).trans rfl
                              have hfz29_0 := blk_frozen BK102.out 0
                              have hfz29_1 := blk_frozen BK102.out 1
                              have hfz29_2 := blk_frozen BK102.out 2
                              go_wp2
                              go_meet
                              case rel => exact ⟨_, (true), (by first | rfl | (simp; done) | (simp [*]; done)), H', ⟨by have := HJ1.out; have := HK2.out; have := HJ7.out; first | omega | exact Nat.le_refl _⟩, ⟨by (with_reducible repeat (first | refine blk_drewN ?_ _ | refine blk_drew ?_ | refine blk_alloc ?_ _)); exact BK102.out⟩, ⟨by repeat (first | (with_reducible first | exact HB.out | apply below_alloc | apply pw_below_drewN | apply below_drew1 | refine below_set ?_ GE102.out) | exact HB.out)⟩⟩
                          · rw [if_neg c20] at H
                            have c20b0 : decide (x15_2 < 9) = false := decide_eq_false c20
                            clear c20
                            (first | rw [c20b0] | (simp only [i64_w, i32_w]; rw [c20b0]) | skip)
                            by_cases c30 : x15_2 ≥ 9
                            · rw [if_pos c30] at H
                              have c30b0 : decide (9 ≤ x15_2) = true := decide_eq_true c30
                              clear c30
                              by_cases c31 : ((rd_T27 l0 x15_2).f2) < 0
                              · rw [if_pos c31] at H
                                have c31b0 : decide (((rd_T27 l0 x15_2).f2) < 0) = true := decide_eq_true c31
                                clear c31
                                have H' := Aside0.mk H
                                clear H
                                have hcz32_0 : wc.cell? ⟨gb102, 0, none⟩ = some (.int .i64 ((rd_T27 l0 x15_2).f0)) := (blk_cell BK102.out 0).trans rfl
                                have hcz32_1 : wc.cell? ⟨gb102, 1, none⟩ = some (.int .i64 ((rd_T27 l0 x15_2).f1)) := (blk_cell BK102.out 1).trans rfl
                                have hcz32_2 : wc.cell? ⟨gb102, 2, none⟩ = some (.int .i64 ((rd_T27 l0 x15_2).f2)) := (blk_cell BK102.out 2).trans rfl
                                have hfz32_0 := blk_frozen BK102.out 0
                                have hfz32_1 := blk_frozen BK102.out 1
                                have hfz32_2 := blk_frozen BK102.out 2
                                go_wp2
                                go_meet
                                case rel => exact ⟨_, (true), (by first | rfl | (simp; done) | (simp [*]; done)), H', ⟨by have := HJ1.out; have := HK2.out; have := HJ7.out; first | omega | exact Nat.le_refl _⟩, ⟨by (with_reducible repeat (first | refine blk_drewN ?_ _ | refine blk_drew ?_ | refine blk_alloc ?_ _)); exact BK102.out⟩, ⟨by repeat (first | (with_reducible first | exact HB.out | apply below_alloc | apply pw_below_drewN | apply below_drew1 | refine below_set ?_ GE102.out) | exact HB.out)⟩⟩
                              · rw [if_neg c31] at H
                                have c31b0 : decide (((rd_T27 l0 x15_2).f2) < 0) = false := decide_eq_false c31
                                clear c31
                                have H' := Aside0.mk H
                                clear H
                                have hcz33_0 : wc.cell? ⟨gb102, 0, none⟩ = some (.int .i64 ((rd_T27 l0 x15_2).f0)) := (blk_cell BK102.out 0).trans rfl
                                have hcz33_1 : wc.cell? ⟨gb102, 1, none⟩ = some (.int .i64 ((rd_T27 l0 x15_2).f1)) := (blk_cell BK102.out 1).trans rfl
                                have hcz33_2 : wc.cell? ⟨gb102, 2, none⟩ = some (.int .i64 ((rd_T27 l0 x15_2).f2)) := (blk_cell BK102.out 2).trans rfl
                                have hfz33_0 := blk_frozen BK102.out 0
                                have hfz33_1 := blk_frozen BK102.out 1
                                have hfz33_2 := blk_frozen BK102.out 2
                                go_wp2
                                go_meet
                                case rel => exact ⟨_, (decide (((rd_T27 l0 x15_2).f1) < ((rd_T27 l0 x15_2).f2))), (by first | rfl | (simp; done) | (simp [*]; done)), H', ⟨by have := HJ1.out; have := HK2.out; have := HJ7.out; first | omega | exact Nat.le_refl _⟩, ⟨by (with_reducible repeat (first | refine blk_drewN ?_ _ | refine blk_drew ?_ | refine blk_alloc ?_ _)); exact BK102.out⟩, ⟨by repeat (first | (with_reducible first | exact HB.out | apply below_alloc | apply pw_below_drewN | apply below_drew1 | refine below_set ?_ GE102.out) | exact HB.out)⟩⟩
                            · rw [if_neg c30] at H
                              have c30b0 : decide (9 ≤ x15_2) = false := decide_eq_false c30
                              clear c30
                              have H' := Aside0.mk H
                              clear H
                              go_wp2
                              go_meet
                              case rel => exact ⟨_, (false), (by first | rfl | (simp; done) | (simp [*]; done)), H', ⟨by have := HJ1.out; have := HK2.out; have := HJ7.out; first | omega | exact Nat.le_refl _⟩, ⟨by (with_reducible repeat (first | refine blk_drewN ?_ _ | refine blk_drew ?_ | refine blk_alloc ?_ _)); exact BK102.out⟩, ⟨by repeat (first | (with_reducible first | exact HB.out | apply below_alloc | apply pw_below_drewN | apply below_drew1 | refine below_set ?_ GE102.out) | exact HB.out)⟩⟩
                        case rest =>
                          clear HC19
                          try clear c1
                          try clear p1
                          try clear q1
                          try clear hx1
                          try clear c2
                          try clear p2
                          try clear c3
                          try clear c3b0
                          try clear c3b1
                          try clear c4
                          try clear c5
                          try clear c5b0
                          try clear c6
                          try clear c6b0
                          try clear p6
                          try clear c7
                          try clear c7b0
                          try clear p10
                          try clear q10
                          try clear hx10
                          try clear c11
                          try clear c11b0
                          try clear c13
                          try clear c13b0
                          try clear c15
                          try clear c15b0
                          try clear c18
                          try clear c20
                          try clear c20b0
                          try clear c21
                          try clear c21b0
                          try clear c21b1
                          try clear c22
                          try clear c22b0
                          try clear c22b1
                          try clear c23
                          try clear c23b0
                          try clear c24
                          try clear c24b0
                          try clear c30
                          try clear c30b0
                          try clear c31
                          try clear c31b0
                          try clear hcz10_0
                          try clear hcz10_1
                          try clear hcz10_2
                          try clear hcz12_0
                          try clear hcz12_1
                          try clear hcz12_2
                          try clear hcz14_0
                          try clear hcz14_1
                          try clear hcz14_2
                          try clear hcz16_0
                          try clear hcz16_1
                          try clear hcz16_2
                          try clear hcz17_0
                          try clear hcz17_1
                          try clear hcz17_2
                          try clear hcz25_0
                          try clear hcz25_1
                          try clear hcz25_2
                          try clear hcz26_0
                          try clear hcz26_1
                          try clear hcz26_2
                          try clear hcz27_0
                          try clear hcz27_1
                          try clear hcz27_2
                          try clear hcz28_0
                          try clear hcz28_1
                          try clear hcz28_2
                          try clear hcz29_0
                          try clear hcz29_1
                          try clear hcz29_2
                          try clear hcz32_0
                          try clear hcz32_1
                          try clear hcz32_2
                          try clear hcz33_0
                          try clear hcz33_1
                          try clear hcz33_2
                          try clear hfz10_0
                          try clear hfz10_1
                          try clear hfz10_2
                          try clear hfz12_0
                          try clear hfz12_1
                          try clear hfz12_2
                          try clear hfz14_0
                          try clear hfz14_1
                          try clear hfz14_2
                          try clear hfz16_0
                          try clear hfz16_1
                          try clear hfz16_2
                          try clear hfz17_0
                          try clear hfz17_1
                          try clear hfz17_2
                          try clear hfz25_0
                          try clear hfz25_1
                          try clear hfz25_2
                          try clear hfz26_0
                          try clear hfz26_1
                          try clear hfz26_2
                          try clear hfz27_0
                          try clear hfz27_1
                          try clear hfz27_2
                          try clear hfz28_0
                          try clear hfz28_1
                          try clear hfz28_2
                          try clear hfz29_0
                          try clear hfz29_1
                          try clear hfz29_2
                          try clear hfz32_0
                          try clear hfz32_1
                          try clear hfz32_2
                          try clear hfz33_0
                          try clear hfz33_1
                          try clear hfz33_2
                          try clear hx101_0
                          try clear hx101_1
                          try clear hx101_2
                          try clear p1
                          try clear p10
                          try clear p101
                          try clear p2
                          try clear q1
                          try clear q10
                          try clear q101
                          obtain ⟨kq, x67_18, rfl, HA, HJ18, BK102, HB⟩ := hcut
                          cases kq with
                          | zero => exact absurd HA.out (by simp [chart_Right.j3])
                          | succ kj18 =>
                            have H := HA.out
                            clear HA
                            simp only [chart_Right.j3] at H
                            by_cases c34 : x67_18 = true
                            · subst c34
                              have H1 : (some false) = some r := by rw [if_pos rfl] at H; exact H
                              clear H
                              have H := H1
                              clear H1
                              obtain rfl := Option.some.inj H
                              go_wp2
                              go_ret
                              exact ⟨by first | rfl | (simp [errW_none, errW_some] <;> rfl) | (simp [*, errW_none, errW_some] <;> rfl), by repeat (first | (with_reducible first | exact HB.out | apply below_alloc | apply pw_below_drewN | apply below_drew1 | refine below_set ?_ GE102.out) | exact HB.out)⟩
                            · replace c34 := Bool.eq_false_iff.mpr c34
                              subst c34
                              have H1 : (chart_Right.l0 kj18 l0 (l0.length : Int) (wrap64 (x15_2 + 1))) = some r := by rw [if_neg (show ¬ (false = true) by decide)] at H; exact H
                              clear H
                              have H := H1
                              clear H1
                              have H' := Aside0.mk H
                              clear H
                              go_wp2
                              go_roundg kj18
                              case measure => have := HJ1.out; have := HK2.out; have := HJ7.out; have := HJ18.out; omega
                              case rel => exact ⟨(wrap64 (x15_2 + 1)), (by first | rfl | (simp; done) | (simp [*]; done)), H', ⟨by have := HJ1.out; have := HK2.out; have := HJ7.out; have := HJ18.out; omega⟩, ⟨by repeat (first | (with_reducible first | exact HB.out | apply below_alloc | apply pw_below_drewN | apply below_drew1 | refine below_set ?_ GE102.out) | exact HB.out)⟩⟩
                · rw [if_neg c7] at H
                  exact absurd H (by simp)
              · rw [if_neg c6] at H
                exact absurd H (by simp)
            · rw [if_neg c5] at H
              have c5b0 : decide (x15_2 < (l0.length : Int)) = false := decide_eq_false c5
              clear c5
              obtain rfl := Option.some.inj H
              go_wp2
              go_ret
              exact ⟨by first | rfl | (simp [errW_none, errW_some] <;> rfl) | (simp [*, errW_none, errW_some] <;> rfl), by repeat (first | (with_reducible first | exact HB.out | apply below_alloc | apply pw_below_drewN | apply below_drew1) | exact HB.out)⟩

end Go.Proofs.Ytajeobncbcpllaa.PAll
