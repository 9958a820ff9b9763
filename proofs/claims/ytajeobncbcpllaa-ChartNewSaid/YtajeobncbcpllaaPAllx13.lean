/- What each Go function computes, as a plain Lean function, and the proof that the machine comes to it; for every input. Laid by wip/tools of this session over the kit's print, with small turns of ours. Not trusted: Lean checks it. -/
import Derived.Test.YtajeobncbcpllaaPAllx0
import Derived.Test.YtajeobncbcpllaaPAllx1
import Derived.Test.YtajeobncbcpllaaPAllx2
import Derived.Test.YtajeobncbcpllaaPAllx3
import Derived.Test.YtajeobncbcpllaaPAllx4
import Derived.Test.YtajeobncbcpllaaPAllx11
namespace Go.Proofs.Ytajeobncbcpllaa.PAll
open Go.Proofs.YtajeobncbcpllaaW
open Go.RowKit Go.Proofs.YtajeobncbcpllaaW.PrintWords Go.Proofs.YtajeobncbcpllaaW.PrintLast Go.Proofs.YtajeobncbcpllaaW.PrintMore
attribute [local go_sem] max2_int min2_int max_two min_two max_three min_three max_four min_four   -- for this text's walks alone
set_option linter.unusedVariables false
set_option linter.unusedSimpArgs false

attribute [local go_sem high] eqA27
/-! ### hawalalaw07_ChartNew: function 8 -/
def hawalalaw07_ChartNew.j0 : Nat → Int → List (S27) → Bool → Option (Bool)
  | 0, _, _, _ => none
  | k + 1, x0, x3, x17 => if x17 = true then (some false) else ((chart_Of.f k x3 (wrap64 (Int.tmod x0 9))).bind fun bt207 => (if 0 ≤ (wrap64 (Int.tmod x0 9)) then (if (wrap64 (Int.tmod x0 9)) < (x3.length : Int) then (if (((rd_T27 x3 (wrap64 (Int.tmod x0 9))).f0) == (wrap64 (Int.tdiv (wrap64 (Int.tmod x0 9)) 3)) && (((rd_T27 x3 (wrap64 (Int.tmod x0 9))).f1) == 0 && (((rd_T27 x3 (wrap64 (Int.tmod x0 9))).f2) == 0))) = true then (if bt207.2 = true then ((chart_Number.f k bt207.1 ((rd_T27 x3 (wrap64 (Int.tmod x0 9))).f0)).bind fun t211 => (if t211 = (wrap64 (Int.tmod x0 9)) then ((chart_IsClient.f k x3 (wrap64 (Int.tmod x0 9))).bind fun t212 => (some (!t212))) else (some false))) else (some false)) else (some false)) else (none)) else (none)))
def hawalalaw07_ChartNew.f (k : Nat) (a0 : Int) : Option (Bool) := (hawalalaw07_awake.f k).bind fun t202 => (if t202 = true then ((chart_New.f k).bind fun t203 => (if (t203.length : Int) = 9 then ((chart_Right.f k t203).bind fun t206 => (hawalalaw07_ChartNew.j0 k a0 t203 (!t206))) else (hawalalaw07_ChartNew.j0 k a0 t203 true))) else (some false))
theorem hawalalaw07_ChartNew.mono_l : ∀ k, (∀ y0 y1 y2, LeO (hawalalaw07_ChartNew.j0 k y0 y1 y2) (hawalalaw07_ChartNew.j0 (k + 1) y0 y1 y2))
  | 0 => fun _ _ _ r h => by simp [hawalalaw07_ChartNew.j0] at h
  | k + 1 => by
    have ih0 := hawalalaw07_ChartNew.mono_l k
    · intro y0 y1 y2
      unfold hawalalaw07_ChartNew.j0
      repeat' first
      | (with_reducible exact ih0 _ _ _)
      | (with_reducible exact chart_IsClient.mono _ _ _)
      | (with_reducible exact chart_New.mono _)
      | (with_reducible exact chart_Number.mono _ _ _)
      | (with_reducible exact chart_Of.mono _ _ _)
      | (with_reducible exact chart_Right.mono _ _)
      | (with_reducible exact hawalalaw07_awake.mono _)
      | (with_reducible exact LeO.refl _)
      | (with_reducible exact LeO.none _)
      | (with_reducible refine LeO.ite ?_ ?_)
      | (with_reducible refine LeO.bind ?_ (fun _ => ?_))
      | exact ih0 _ _ _
      | exact chart_IsClient.mono _ _ _
      | exact chart_New.mono _
      | exact chart_Number.mono _ _ _
      | exact chart_Of.mono _ _ _
      | exact chart_Right.mono _ _
      | exact hawalalaw07_awake.mono _
      | exact LeO.none _
      | refine LeO.ite ?_ ?_
      | refine LeO.bind ?_ (fun _ => ?_)
theorem hawalalaw07_ChartNew.mono : ∀ a0 k, LeO (hawalalaw07_ChartNew.f k a0) (hawalalaw07_ChartNew.f (k + 1) a0) := by
  intro a0 k
  have ih0 := hawalalaw07_ChartNew.mono_l k
  unfold hawalalaw07_ChartNew.f
  repeat' first
      | (with_reducible exact ih0 _ _ _)
      | (with_reducible exact chart_IsClient.mono _ _ _)
      | (with_reducible exact chart_New.mono _)
      | (with_reducible exact chart_Number.mono _ _ _)
      | (with_reducible exact chart_Of.mono _ _ _)
      | (with_reducible exact chart_Right.mono _ _)
      | (with_reducible exact hawalalaw07_awake.mono _)
      | (with_reducible exact LeO.refl _)
      | (with_reducible exact LeO.none _)
      | (with_reducible refine LeO.ite ?_ ?_)
      | (with_reducible refine LeO.bind ?_ (fun _ => ?_))
      | exact ih0 _ _ _
      | exact chart_IsClient.mono _ _ _
      | exact chart_New.mono _
      | exact chart_Number.mono _ _ _
      | exact chart_Of.mono _ _ _
      | exact chart_Right.mono _ _
      | exact hawalalaw07_awake.mono _
      | exact LeO.none _
      | refine LeO.ite ?_ ?_
      | refine LeO.bind ?_ (fun _ => ?_)
set_option maxHeartbeats 8000000 in
set_option maxRecDepth 100000 in
theorem hawalalaw07_ChartNew.calls (k : Nat) (a0 : Int) (r : Bool) (w : World) (h : hawalalaw07_ChartNew.f k a0 = some r) :
    Calls Try.prog 8 #[.int .u8 a0] w fun e w' => e = .returned (.bool r) ∧ Below w.heap.size w w' := by
  have hu27 := Try.underlying27
  have HB := Aside0.mk (Below.refl w.heap.size w)
  have H : ((hawalalaw07_awake.f k).bind fun t202 => (if t202 = true then ((chart_New.f k).bind fun t203 => (if (t203.length : Int) = 9 then ((chart_Right.f k t203).bind fun t206 => (hawalalaw07_ChartNew.j0 k a0 t203 (!t206))) else (hawalalaw07_ChartNew.j0 k a0 t203 true))) else (some false))) = some r := h
  clear h
  replace H := Option.bind_eq_some_iff.mp H
  obtain ⟨t202, A20, H⟩ := H
  replace H : (if t202 = true then ((chart_New.f k).bind fun t203 => (if (t203.length : Int) = 9 then ((chart_Right.f k t203).bind fun t206 => (hawalalaw07_ChartNew.j0 k a0 t203 (!t206))) else (hawalalaw07_ChartNew.j0 k a0 t203 true))) else (some false)) = some r := H
  have A2 := Aside0.mk A20
  clear A20
  by_cases c3 : t202 = true
  · subst c3
    have H1 : ((chart_New.f k).bind fun t203 => (if (t203.length : Int) = 9 then ((chart_Right.f k t203).bind fun t206 => (hawalalaw07_ChartNew.j0 k a0 t203 (!t206))) else (hawalalaw07_ChartNew.j0 k a0 t203 true))) = some r := by rw [if_pos rfl] at H; exact H
    clear H
    have H := H1
    clear H1
    replace H := Option.bind_eq_some_iff.mp H
    obtain ⟨t203, A40, H⟩ := H
    replace H : (if (t203.length : Int) = 9 then ((chart_Right.f k t203).bind fun t206 => (hawalalaw07_ChartNew.j0 k a0 t203 (!t206))) else (hawalalaw07_ChartNew.j0 k a0 t203 true)) = some r := H
    have A4 := Aside0.mk A40
    clear A40
    have HC5 := Aside0.mk H
    clear H
    go_enter Try.func8, Try.ntmps8
    go_upto_region 4 with (first | ((with_reducible refine gate_callee (f := 9) rfl ?_); refine goesL_ (some 7) rfl rfl Try.func9 (by kernel_rfl) rfl #[] rfl (by (try simp only [List.map_toArray, List.map_cons, List.map_nil]); first | done | rfl | (simp only [List.length_drop, List.length_take]; rfl)) ?_; (with_reducible refine (hawalalaw07_awake.calls k  true _ A2.out).mono ?_); rintro e w6 ⟨rfl, hb⟩; refine ⟨_, rfl, ?_⟩; have n0_ := Aside0.mk (below_step (by repeat (first | (with_reducible first | exact HB.out | apply below_alloc | apply pw_below_drewN | apply below_drew1) | exact HB.out)) hb); clear HB; have HB := n0_; clear n0_; (try clear hb); (try clear hb2); (try clear hk); (try clear hi)) | ((with_reducible refine gate_callee (f := 20) rfl ?_); refine goesL_ (some 9) rfl rfl Try.func20 (by kernel_rfl) rfl #[] rfl (by (try simp only [List.map_toArray, List.map_cons, List.map_nil]); first | done | rfl | (simp only [List.length_drop, List.length_take]; rfl)) ?_; (with_reducible refine (chart_New.calls k  t203 _ A4.out).mono ?_); rintro e w7 ⟨v204, rfl, ho0, hb⟩; refine ⟨_, rfl, ?_⟩; have n0_ := Aside0.mk (Kd.R_lower ho0 (below_size (by repeat (first | (with_reducible first | exact HB.out | apply below_alloc | apply pw_below_drewN | apply below_drew1) | exact HB.out)))); have n1_ := Aside0.mk (below_step (by repeat (first | (with_reducible first | exact HB.out | apply below_alloc | apply pw_below_drewN | apply below_drew1) | exact HB.out)) hb); clear HB; have HO205 := n0_; have HB := n1_; clear n0_ n1_; (try clear hb); (try clear hb2); (try clear hk); (try clear hi); (try clear ho0)))
    (try simp only [Act.put, List.setIfInBounds_toArray, List.set_cons_zero, List.set_cons_succ])
    go_cut [17] (fun v17 wc => ∃ (kq : Nat) (x17_4 : Bool), v17 = .bool x17_4 ∧ Aside0 (hawalalaw07_ChartNew.j0 kq a0 t203 x17_4 = some r) ∧ Aside0 (kq ≤ k) ∧ Aside0 (Kd.R k27 27 wc w.heap.size (fun _ => True) v204 t203) ∧ Aside0 (Below w.heap.size w wc))
    case first =>
      have H := HC5.out
      clear HC5
      by_cases c8 : (t203.length : Int) = 9
      · rw [if_pos c8] at H
        have c8b0 : ((t203.length : Int) == 9) = true := beq_iff_eq.mpr c8
        have c8b1 : ((t203.length : Int) != 9) = false := bne_eq_false_iff_eq.mpr c8
        clear c8
        (first | rw [c8b0] | (simp only [i64_w, i32_w]; rw [c8b0]) | skip)
        replace H := Option.bind_eq_some_iff.mp H
        obtain ⟨t206, A90, H⟩ := H
        replace H : (hawalalaw07_ChartNew.j0 k a0 t203 (!t206)) = some r := H
        have A9 := Aside0.mk A90
        clear A90
        have H' := Aside0.mk H
        clear H
        obtain ⟨Ao10, co10, eo10⟩ := Kd.R_slice HO205.out
        subst eo10
        go_wp2_with (first | (go_at_call 11; (with_reducible refine (chart_Right.calls k _ _ t203 t206 _ ?side1 ?side2 A9.out).mono ?_); (case side1 => repeat (first | exact (Kd.R_reads' HO205.out).2.2 | (with_reducible refine Kd.C_alloc ?_ _) | (with_reducible refine Kd.C_drewN ?_ _) | (with_reducible refine Kd.C_drew ?_))); (case side2 => exact (Kd.R_reads' HO205.out).2.1); rintro e w11 ⟨rfl, hb⟩; have n0_ := Aside0.mk (Kd.R_below (by (with_reducible repeat (first | apply Kd.R_alloc | apply Kd.R_drewN | apply Kd.R_drew)); exact HO205.out) hb); have n1_ := Aside0.mk (below_step (by repeat (first | (with_reducible first | exact HB.out | apply below_alloc | apply pw_below_drewN | apply below_drew1) | exact HB.out)) hb); clear HO205; clear HB; have HO205 := n0_; have HB := n1_; clear n0_ n1_; (try clear hb); (try clear hb2); (try clear hk); (try clear hi)))
        go_meet
        case rel => exact ⟨_, (!t206), (by first | rfl | (simp; done) | (simp [*]; done)), H', ⟨by first | omega | exact Nat.le_refl _⟩, ⟨by (with_reducible repeat (first | apply Kd.R_alloc | apply Kd.R_drewN | apply Kd.R_drew)); exact HO205.out⟩, ⟨by repeat (first | (with_reducible first | exact HB.out | apply below_alloc | apply pw_below_drewN | apply below_drew1) | exact HB.out)⟩⟩
      · rw [if_neg c8] at H
        have c8b0 : ((t203.length : Int) == 9) = false := beq_eq_false_iff_ne.mpr c8
        have c8b1 : ((t203.length : Int) != 9) = true := bne_iff_ne.mpr c8
        (first | rw [c8b0] | (simp only [i64_w, i32_w]; rw [c8b0]) | skip)
        have H' := Aside0.mk H
        clear H
        obtain ⟨Ao12, co12, eo12⟩ := Kd.R_slice HO205.out
        subst eo12
        go_wp2
        go_meet
        case rel => exact ⟨_, (true), (by first | rfl | (simp; done) | (simp [*]; done)), H', ⟨by first | omega | exact Nat.le_refl _⟩, ⟨by (with_reducible repeat (first | apply Kd.R_alloc | apply Kd.R_drewN | apply Kd.R_drew)); exact HO205.out⟩, ⟨by repeat (first | (with_reducible first | exact HB.out | apply below_alloc | apply pw_below_drewN | apply below_drew1) | exact HB.out)⟩⟩
    case rest =>
      clear HC5
      try clear c2
      try clear p2
      try clear c3
      try clear c8
      try clear c8b0
      try clear c8b1
      try clear c9
      obtain ⟨kq, x17_4, rfl, HA, HJ4, HO_3, HB⟩ := hcut
      cases kq with
      | zero => exact absurd HA.out (by simp [hawalalaw07_ChartNew.j0])
      | succ kj4 =>
        have H := HA.out
        clear HA
        simp only [hawalalaw07_ChartNew.j0] at H
        by_cases c13 : x17_4 = true
        · subst c13
          have H1 : (some false) = some r := by rw [if_pos rfl] at H; exact H
          clear H
          have H := H1
          clear H1
          obtain rfl := Option.some.inj H
          go_wp2
          go_ret
          exact ⟨by first | rfl | (simp [errW_none, errW_some] <;> rfl) | (simp [*, errW_none, errW_some] <;> rfl), by repeat (first | (with_reducible first | exact HB.out | apply below_alloc | apply pw_below_drewN | apply below_drew1) | exact HB.out)⟩
        · replace c13 := Bool.eq_false_iff.mpr c13
          subst c13
          have H1 : ((chart_Of.f kj4 t203 (wrap64 (Int.tmod a0 9))).bind fun bt207 => (if 0 ≤ (wrap64 (Int.tmod a0 9)) then (if (wrap64 (Int.tmod a0 9)) < (t203.length : Int) then (if (((rd_T27 t203 (wrap64 (Int.tmod a0 9))).f0) == (wrap64 (Int.tdiv (wrap64 (Int.tmod a0 9)) 3)) && (((rd_T27 t203 (wrap64 (Int.tmod a0 9))).f1) == 0 && (((rd_T27 t203 (wrap64 (Int.tmod a0 9))).f2) == 0))) = true then (if bt207.2 = true then ((chart_Number.f kj4 bt207.1 ((rd_T27 t203 (wrap64 (Int.tmod a0 9))).f0)).bind fun t211 => (if t211 = (wrap64 (Int.tmod a0 9)) then ((chart_IsClient.f kj4 t203 (wrap64 (Int.tmod a0 9))).bind fun t212 => (some (!t212))) else (some false))) else (some false)) else (some false)) else (none)) else (none))) = some r := by rw [if_neg (show ¬ (false = true) by decide)] at H; exact H
          clear H
          have H := H1
          clear H1
          replace H := Option.bind_eq_some_iff.mp H
          obtain ⟨⟨t207, t208⟩, A140, H⟩ := H
          replace H : (if 0 ≤ (wrap64 (Int.tmod a0 9)) then (if (wrap64 (Int.tmod a0 9)) < (t203.length : Int) then (if (((rd_T27 t203 (wrap64 (Int.tmod a0 9))).f0) == (wrap64 (Int.tdiv (wrap64 (Int.tmod a0 9)) 3)) && (((rd_T27 t203 (wrap64 (Int.tmod a0 9))).f1) == 0 && (((rd_T27 t203 (wrap64 (Int.tmod a0 9))).f2) == 0))) = true then (if t208 = true then ((chart_Number.f kj4 t207 ((rd_T27 t203 (wrap64 (Int.tmod a0 9))).f0)).bind fun t211 => (if t211 = (wrap64 (Int.tmod a0 9)) then ((chart_IsClient.f kj4 t203 (wrap64 (Int.tmod a0 9))).bind fun t212 => (some (!t212))) else (some false))) else (some false)) else (some false)) else (none)) else (none)) = some r := H
          have A14 := Aside0.mk A140
          clear A140
          obtain ⟨ji15, hji15⟩ : ∃ j_ : Int, (wrap64 (Int.tmod a0 9)) = j_ := ⟨_, rfl⟩
          replace H : (if 0 ≤ (ji15) then (if (ji15) < (t203.length : Int) then (if (((rd_T27 t203 (ji15)).f0) == (wrap64 (Int.tdiv (ji15) 3)) && (((rd_T27 t203 (ji15)).f1) == 0 && (((rd_T27 t203 (ji15)).f2) == 0))) = true then (if t208 = true then ((chart_Number.f kj4 t207 ((rd_T27 t203 (ji15)).f0)).bind fun t211 => (if t211 = (ji15) then ((chart_IsClient.f kj4 t203 (ji15)).bind fun t212 => (some (!t212))) else (some false))) else (some false)) else (some false)) else (none)) else (none)) = some r := by first | (rw [hji15] at H; exact H) | (simp only [hji15] at H ⊢; exact H)
          (try rw [hji15] at A14)
          have hji15w : (IntKind.i64.wrap (Int.tmod a0 9)) = ji15 := (i64_w _).trans hji15
          by_cases c16 : 0 ≤ (ji15)
          · rw [if_pos c16] at H
            have c16b0 : decide (0 ≤ (ji15)) = true := decide_eq_true c16
            clear c16
            by_cases c17 : (ji15) < (t203.length : Int)
            · rw [if_pos c17] at H
              have c17b0 : decide ((ji15) < (t203.length : Int)) = true := decide_eq_true c17
              clear c17
              by_cases c18 : (((rd_T27 t203 (ji15)).f0) == (wrap64 (Int.tdiv (ji15) 3)) && (((rd_T27 t203 (ji15)).f1) == 0 && (((rd_T27 t203 (ji15)).f2) == 0))) = true
              · rw [if_pos c18] at H
                have c18b0 : (((rd_T27 t203 (ji15)).f0) == (wrap64 (Int.tdiv (ji15) 3)) && (((rd_T27 t203 (ji15)).f1) == 0 && (((rd_T27 t203 (ji15)).f2) == 0))) = true := c18
                (try (have c18b1 : decide (((rd_T27 t203 (ji15)).f0) = (wrap64 (Int.tdiv (ji15) 3)) && (((rd_T27 t203 (ji15)).f1) == 0 && (((rd_T27 t203 (ji15)).f2) == 0))) = true := by simpa using c18))
                (try (have c18b2 : (((rd_T27 t203 (ji15)).f0) == (wrap64 (Int.tdiv (ji15) 3)) && (((rd_T27 t203 (ji15)).f1) == 0 && (((rd_T27 t203 (ji15)).f2) == 0))) = true := by simpa using c18))
                clear c18
                by_cases c19 : t208 = true
                · subst c19
                  have H1 : ((chart_Number.f kj4 t207 ((rd_T27 t203 (ji15)).f0)).bind fun t211 => (if t211 = (ji15) then ((chart_IsClient.f kj4 t203 (ji15)).bind fun t212 => (some (!t212))) else (some false))) = some r := by rw [if_pos rfl] at H; exact H
                  clear H
                  have H := H1
                  clear H1
                  replace H := Option.bind_eq_some_iff.mp H
                  obtain ⟨t211, A200, H⟩ := H
                  replace H : (if t211 = (ji15) then ((chart_IsClient.f kj4 t203 (ji15)).bind fun t212 => (some (!t212))) else (some false)) = some r := H
                  have A20 := Aside0.mk A200
                  clear A200
                  by_cases c21 : t211 = (ji15)
                  · rw [if_pos c21] at H
                    have c21b0 : (t211 == (ji15)) = true := beq_iff_eq.mpr c21
                    have c21b1 : (t211 != (ji15)) = false := bne_eq_false_iff_eq.mpr c21
                    clear c21
                    replace H := Option.bind_eq_some_iff.mp H
                    obtain ⟨t212, A220, H⟩ := H
                    replace H : (some (!t212)) = some r := H
                    have A22 := Aside0.mk A220
                    clear A220
                    obtain rfl := Option.some.inj H
                    obtain ⟨Ao23, co23, eo23⟩ := Kd.R_slice HO_3.out
                    subst eo23
                    go_wp2_with (first | ((with_reducible refine gate_callee (f := 17) rfl ?_); refine goesL_ (some 24) rfl rfl Try.func17 (by kernel_rfl) rfl #[.slice Ao23 t203.length co23, .int .i64 ji15] rfl (by (try simp only [List.map_toArray, List.map_cons, List.map_nil]); first | done | (simp only [hji15]; rfl) | rfl | (simp only [List.length_drop, List.length_take]; rfl)) ?_; (with_reducible refine (chart_Of.calls kj4 _ _ t203 ji15 t207 true _ ?side1 ?side2 A14.out).mono ?_); (case side1 => repeat (first | exact (Kd.R_reads' HO_3.out).2.2 | (with_reducible refine Kd.C_alloc ?_ _) | (with_reducible refine Kd.C_drewN ?_ _) | (with_reducible refine Kd.C_drew ?_))); (case side2 => exact (Kd.R_reads' HO_3.out).2.1); rintro e w' ⟨rfl, ⟨nd, rfl⟩⟩; refine ⟨_, rfl, ?_⟩; have p209 : 0 ≤ ((ji15) : Int) := of_decide_eq_true (by first | (with_reducible assumption) | assumption); have q209 : (ji15) < (t203.length : Int) := of_decide_eq_true (by first | (with_reducible assumption) | assumption); obtain ⟨ad209, e209, hx209_0, hx209_1, hx209_2⟩ := at_T27 (Kd.R_reads' HO_3.out).2.2 (ji15) p209 q209; cases e209; replace p209 := eq_true p209; replace q209 := eq_true q209; have p210 : 0 ≤ ((ji15) : Int) := of_decide_eq_true (by first | (with_reducible assumption) | assumption); have q210 : (ji15) < (t203.length : Int) := of_decide_eq_true (by first | (with_reducible assumption) | assumption); obtain ⟨ad210, e210, hx210_0, hx210_1, hx210_2⟩ := at_T27 (Kd.R_reads' HO_3.out).2.2 (ji15) p210 q210; obtain rfl : ad209 = ad210 := (by injection e210); replace p210 := eq_true p210; replace q210 := eq_true q210) | (go_at_call 19; (with_reducible refine (chart_Number.calls kj4 t207 ((rd_T27 t203 (ji15)).f0) t211 _ A20.out).mono ?_); rintro e w' ⟨rfl, ⟨nd, rfl⟩⟩) | (go_at_call 18; (with_reducible refine (chart_IsClient.calls kj4 _ _ t203 ji15 t212 _ ?side1 ?side2 A22.out).mono ?_); (case side1 => repeat (first | exact (Kd.R_reads' HO_3.out).2.2 | (with_reducible refine Kd.C_alloc ?_ _) | (with_reducible refine Kd.C_drewN ?_ _) | (with_reducible refine Kd.C_drew ?_))); (case side2 => exact (Kd.R_reads' HO_3.out).2.1); rintro e w' ⟨rfl, ⟨nd, rfl⟩⟩))
                    go_ret
                    exact ⟨by first | rfl | (simp [errW_none, errW_some] <;> rfl) | (simp only [← hji15]; first | rfl | (simp [errW_none, errW_some] <;> rfl)) | (simp [*, errW_none, errW_some] <;> rfl), by repeat (first | (with_reducible first | exact HB.out | apply below_alloc | apply pw_below_drewN | apply below_drew1) | exact HB.out)⟩
                  · rw [if_neg c21] at H
                    have c21b0 : (t211 == (ji15)) = false := beq_eq_false_iff_ne.mpr c21
                    have c21b1 : (t211 != (ji15)) = true := bne_iff_ne.mpr c21
                    obtain rfl := Option.some.inj H
                    obtain ⟨Ao24, co24, eo24⟩ := Kd.R_slice HO_3.out
                    subst eo24
                    go_wp2_with (first | ((with_reducible refine gate_callee (f := 17) rfl ?_); refine goesL_ (some 24) rfl rfl Try.func17 (by kernel_rfl) rfl #[.slice Ao24 t203.length co24, .int .i64 ji15] rfl (by (try simp only [List.map_toArray, List.map_cons, List.map_nil]); first | done | (simp only [hji15]; rfl) | rfl | (simp only [List.length_drop, List.length_take]; rfl)) ?_; (with_reducible refine (chart_Of.calls kj4 _ _ t203 ji15 t207 true _ ?side1 ?side2 A14.out).mono ?_); (case side1 => repeat (first | exact (Kd.R_reads' HO_3.out).2.2 | (with_reducible refine Kd.C_alloc ?_ _) | (with_reducible refine Kd.C_drewN ?_ _) | (with_reducible refine Kd.C_drew ?_))); (case side2 => exact (Kd.R_reads' HO_3.out).2.1); rintro e w' ⟨rfl, ⟨nd, rfl⟩⟩; refine ⟨_, rfl, ?_⟩; have p209 : 0 ≤ ((ji15) : Int) := of_decide_eq_true (by first | (with_reducible assumption) | assumption); have q209 : (ji15) < (t203.length : Int) := of_decide_eq_true (by first | (with_reducible assumption) | assumption); obtain ⟨ad209, e209, hx209_0, hx209_1, hx209_2⟩ := at_T27 (Kd.R_reads' HO_3.out).2.2 (ji15) p209 q209; cases e209; replace p209 := eq_true p209; replace q209 := eq_true q209; have p210 : 0 ≤ ((ji15) : Int) := of_decide_eq_true (by first | (with_reducible assumption) | assumption); have q210 : (ji15) < (t203.length : Int) := of_decide_eq_true (by first | (with_reducible assumption) | assumption); obtain ⟨ad210, e210, hx210_0, hx210_1, hx210_2⟩ := at_T27 (Kd.R_reads' HO_3.out).2.2 (ji15) p210 q210; obtain rfl : ad209 = ad210 := (by injection e210); replace p210 := eq_true p210; replace q210 := eq_true q210) | (go_at_call 19; (with_reducible refine (chart_Number.calls kj4 t207 ((rd_T27 t203 (ji15)).f0) t211 _ A20.out).mono ?_); rintro e w' ⟨rfl, ⟨nd, rfl⟩⟩))
                    go_ret
                    exact ⟨by first | rfl | (simp [errW_none, errW_some] <;> rfl) | (simp only [← hji15]; first | rfl | (simp [errW_none, errW_some] <;> rfl)) | (simp [*, errW_none, errW_some] <;> rfl), by repeat (first | (with_reducible first | exact HB.out | apply below_alloc | apply pw_below_drewN | apply below_drew1) | exact HB.out)⟩
                · replace c19 := Bool.eq_false_iff.mpr c19
                  subst c19
                  have H1 : (some false) = some r := by rw [if_neg (show ¬ (false = true) by decide)] at H; exact H
                  clear H
                  have H := H1
                  clear H1
                  obtain rfl := Option.some.inj H
                  obtain ⟨Ao25, co25, eo25⟩ := Kd.R_slice HO_3.out
                  subst eo25
                  go_wp2_with (first | ((with_reducible refine gate_callee (f := 17) rfl ?_); refine goesL_ (some 24) rfl rfl Try.func17 (by kernel_rfl) rfl #[.slice Ao25 t203.length co25, .int .i64 ji15] rfl (by (try simp only [List.map_toArray, List.map_cons, List.map_nil]); first | done | (simp only [hji15]; rfl) | rfl | (simp only [List.length_drop, List.length_take]; rfl)) ?_; (with_reducible refine (chart_Of.calls kj4 _ _ t203 ji15 t207 false _ ?side1 ?side2 A14.out).mono ?_); (case side1 => repeat (first | exact (Kd.R_reads' HO_3.out).2.2 | (with_reducible refine Kd.C_alloc ?_ _) | (with_reducible refine Kd.C_drewN ?_ _) | (with_reducible refine Kd.C_drew ?_))); (case side2 => exact (Kd.R_reads' HO_3.out).2.1); rintro e w' ⟨rfl, ⟨nd, rfl⟩⟩; refine ⟨_, rfl, ?_⟩; have p209 : 0 ≤ ((ji15) : Int) := of_decide_eq_true (by first | (with_reducible assumption) | assumption); have q209 : (ji15) < (t203.length : Int) := of_decide_eq_true (by first | (with_reducible assumption) | assumption); obtain ⟨ad209, e209, hx209_0, hx209_1, hx209_2⟩ := at_T27 (Kd.R_reads' HO_3.out).2.2 (ji15) p209 q209; cases e209; replace p209 := eq_true p209; replace q209 := eq_true q209))
                  go_ret
                  exact ⟨by first | rfl | (simp [errW_none, errW_some] <;> rfl) | (simp only [← hji15]; first | rfl | (simp [errW_none, errW_some] <;> rfl)) | (simp [*, errW_none, errW_some] <;> rfl), by repeat (first | (with_reducible first | exact HB.out | apply below_alloc | apply pw_below_drewN | apply below_drew1) | exact HB.out)⟩
              · rw [if_neg c18] at H
                have c18b0 : (((rd_T27 t203 (ji15)).f0) == (wrap64 (Int.tdiv (ji15) 3)) && (((rd_T27 t203 (ji15)).f1) == 0 && (((rd_T27 t203 (ji15)).f2) == 0))) = false := by simpa using c18
                (try (have c18b1 : decide (((rd_T27 t203 (ji15)).f0) = (wrap64 (Int.tdiv (ji15) 3)) && (((rd_T27 t203 (ji15)).f1) == 0 && (((rd_T27 t203 (ji15)).f2) == 0))) = false := by simpa using c18))
                (try (have c18b2 : (((rd_T27 t203 (ji15)).f0) == (wrap64 (Int.tdiv (ji15) 3)) && (((rd_T27 t203 (ji15)).f1) == 0 && (((rd_T27 t203 (ji15)).f2) == 0))) = false := by simpa using c18))
                (try (have c18b3 : ¬ (((rd_T27 t203 (ji15)).f0) = (wrap64 (Int.tdiv (ji15) 3)) && (((rd_T27 t203 (ji15)).f1) == 0 && (((rd_T27 t203 (ji15)).f2) == 0))) := by simpa using c18))
                clear c18
                obtain rfl := Option.some.inj H
                obtain ⟨Ao26, co26, eo26⟩ := Kd.R_slice HO_3.out
                subst eo26
                go_wp2_with (first | ((with_reducible refine gate_callee (f := 17) rfl ?_); refine goesL_ (some 24) rfl rfl Try.func17 (by kernel_rfl) rfl #[.slice Ao26 t203.length co26, .int .i64 ji15] rfl (by (try simp only [List.map_toArray, List.map_cons, List.map_nil]); first | done | (simp only [hji15]; rfl) | rfl | (simp only [List.length_drop, List.length_take]; rfl)) ?_; (with_reducible refine (chart_Of.calls kj4 _ _ t203 ji15 t207 t208 _ ?side1 ?side2 A14.out).mono ?_); (case side1 => repeat (first | exact (Kd.R_reads' HO_3.out).2.2 | (with_reducible refine Kd.C_alloc ?_ _) | (with_reducible refine Kd.C_drewN ?_ _) | (with_reducible refine Kd.C_drew ?_))); (case side2 => exact (Kd.R_reads' HO_3.out).2.1); rintro e w' ⟨rfl, ⟨nd, rfl⟩⟩; refine ⟨_, rfl, ?_⟩; have p209 : 0 ≤ ((ji15) : Int) := of_decide_eq_true (by first | (with_reducible assumption) | assumption); have q209 : (ji15) < (t203.length : Int) := of_decide_eq_true (by first | (with_reducible assumption) | assumption); obtain ⟨ad209, e209, hx209_0, hx209_1, hx209_2⟩ := at_T27 (Kd.R_reads' HO_3.out).2.2 (ji15) p209 q209; cases e209; replace p209 := eq_true p209; replace q209 := eq_true q209))
                go_ret
                exact ⟨by first | rfl | (simp [errW_none, errW_some] <;> rfl) | (simp only [← hji15]; first | rfl | (simp [errW_none, errW_some] <;> rfl)) | (simp [*, errW_none, errW_some] <;> rfl), by repeat (first | (with_reducible first | exact HB.out | apply below_alloc | apply pw_below_drewN | apply below_drew1) | exact HB.out)⟩
            · rw [if_neg c17] at H
              exact absurd H (by simp)
          · rw [if_neg c16] at H
            exact absurd H (by simp)
  · replace c3 := Bool.eq_false_iff.mpr c3
    subst c3
    have H1 : (some false) = some r := by rw [if_neg (show ¬ (false = true) by decide)] at H; exact H
    clear H
    have H := H1
    clear H1
    obtain rfl := Option.some.inj H
    go_enter Try.func8, Try.ntmps8
    go_wp2_with (first | ((with_reducible refine gate_callee (f := 9) rfl ?_); refine goesL_ (some 7) rfl rfl Try.func9 (by kernel_rfl) rfl #[] rfl (by (try simp only [List.map_toArray, List.map_cons, List.map_nil]); first | done | rfl | (simp only [List.length_drop, List.length_take]; rfl)) ?_; (with_reducible refine (hawalalaw07_awake.calls k  false _ A2.out).mono ?_); rintro e w27 ⟨rfl, hb⟩; refine ⟨_, rfl, ?_⟩; have n0_ := Aside0.mk (below_step (by repeat (first | (with_reducible first | exact HB.out | apply below_alloc | apply pw_below_drewN | apply below_drew1) | exact HB.out)) hb); clear HB; have HB := n0_; clear n0_; (try clear hb); (try clear hb2); (try clear hk); (try clear hi)))
    go_ret
    exact ⟨by first | rfl | (simp [errW_none, errW_some] <;> rfl) | (simp [*, errW_none, errW_some] <;> rfl), by repeat (first | (with_reducible first | exact HB.out | apply below_alloc | apply pw_below_drewN | apply below_drew1) | exact HB.out)⟩

/-- THE ONE PURE STATEMENT of hawalalaw07_ChartNew: yours. -/
def hawalalaw07_ChartNew.Pure : Prop := ∀ (a0 : Int), (Lit.int .u8 a0).wf = true → ∃ k, hawalalaw07_ChartNew.f k a0 = some true

end Go.Proofs.Ytajeobncbcpllaa.PAll
