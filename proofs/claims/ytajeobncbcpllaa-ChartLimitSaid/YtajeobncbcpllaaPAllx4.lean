/- What each Go function computes, as a plain Lean function, and the proof that the machine comes to it; for every input. Laid by wip/tools of this session over the kit's print, with small turns of ours. Not trusted: Lean checks it. -/
import Derived.Test.YtajeobncbcpllaaPAllx0
import Derived.Test.YtajeobncbcpllaaPAllx2
import Derived.Test.YtajeobncbcpllaaPAllx3
namespace Go.Proofs.Ytajeobncbcpllaa.PAll
open Go.Proofs.YtajeobncbcpllaaW
open Go.RowKit Go.Proofs.YtajeobncbcpllaaW.PrintWords Go.Proofs.YtajeobncbcpllaaW.PrintLast Go.Proofs.YtajeobncbcpllaaW.PrintMore
attribute [local go_sem] max2_int min2_int max_two min_two max_three min_three max_four min_four   -- for this text's walks alone
set_option linter.unusedVariables false
set_option linter.unusedSimpArgs false

/-! ### hawalalaw07_awake: function 9 -/
def hawalalaw07_awake.f (k : Nat)  : Option (Bool) := (chart_New.f k).bind fun t106 => (if (t106.length : Int) = 9 then (if 5 < (t106.length : Int) then (if ((rd_T27 t106 5).f0) = 1 then ((chart_Number.f k 2 1).bind fun t110 => (if t110 = 5 then ((chart_Right.f k t106).bind fun t111 => (some t111)) else (some false))) else (some false)) else (none)) else (some false))
theorem hawalalaw07_awake.mono : ∀ k, LeO (hawalalaw07_awake.f k ) (hawalalaw07_awake.f (k + 1) ) := by
  intro  k
  unfold hawalalaw07_awake.f
  repeat' first
      | (with_reducible exact chart_New.mono _)
      | (with_reducible exact chart_Number.mono _ _ _)
      | (with_reducible exact chart_Right.mono _ _)
      | (with_reducible exact LeO.refl _)
      | (with_reducible exact LeO.none _)
      | (with_reducible refine LeO.ite ?_ ?_)
      | (with_reducible refine LeO.bind ?_ (fun _ => ?_))
      | exact chart_New.mono _
      | exact chart_Number.mono _ _ _
      | exact chart_Right.mono _ _
      | exact LeO.none _
      | refine LeO.ite ?_ ?_
      | refine LeO.bind ?_ (fun _ => ?_)
set_option maxHeartbeats 8000000 in
set_option maxRecDepth 100000 in
theorem hawalalaw07_awake.calls (k : Nat)  (r : Bool) (w : World) (h : hawalalaw07_awake.f k  = some r) :
    Calls Try.prog 9 #[] w fun e w' => e = .returned (.bool r) ∧ Below w.heap.size w w' := by
  have HB := Aside0.mk (Below.refl w.heap.size w)
  have H : ((chart_New.f k).bind fun t106 => (if (t106.length : Int) = 9 then (if 5 < (t106.length : Int) then (if ((rd_T27 t106 5).f0) = 1 then ((chart_Number.f k 2 1).bind fun t110 => (if t110 = 5 then ((chart_Right.f k t106).bind fun t111 => (some t111)) else (some false))) else (some false)) else (none)) else (some false))) = some r := h
  clear h
  replace H := Option.bind_eq_some_iff.mp H
  obtain ⟨t106, A10, H⟩ := H
  replace H : (if (t106.length : Int) = 9 then (if 5 < (t106.length : Int) then (if ((rd_T27 t106 5).f0) = 1 then ((chart_Number.f k 2 1).bind fun t110 => (if t110 = 5 then ((chart_Right.f k t106).bind fun t111 => (some t111)) else (some false))) else (some false)) else (none)) else (some false)) = some r := H
  have A1 := Aside0.mk A10
  clear A10
  by_cases c2 : (t106.length : Int) = 9
  · rw [if_pos c2] at H
    have c2b0 : ((t106.length : Int) == 9) = true := beq_iff_eq.mpr c2
    have c2b1 : ((t106.length : Int) != 9) = false := bne_eq_false_iff_eq.mpr c2
    clear c2
    by_cases c3 : 5 < (t106.length : Int)
    · rw [if_pos c3] at H
      have c3b0 : decide (5 < (t106.length : Int)) = true := decide_eq_true c3
      have c3b1 : decide (5 < t106.length) = true := decide_eq_true (by omega)
      clear c3
      by_cases c4 : ((rd_T27 t106 5).f0) = 1
      · rw [if_pos c4] at H
        have c4b0 : (((rd_T27 t106 5).f0) == 1) = true := beq_iff_eq.mpr c4
        have c4b1 : (((rd_T27 t106 5).f0) != 1) = false := bne_eq_false_iff_eq.mpr c4
        clear c4
        replace H := Option.bind_eq_some_iff.mp H
        obtain ⟨t110, A50, H⟩ := H
        replace H : (if t110 = 5 then ((chart_Right.f k t106).bind fun t111 => (some t111)) else (some false)) = some r := H
        have A5 := Aside0.mk A50
        clear A50
        by_cases c6 : t110 = 5
        · rw [if_pos c6] at H
          have c6b0 : (t110 == 5) = true := beq_iff_eq.mpr c6
          have c6b1 : (t110 != 5) = false := bne_eq_false_iff_eq.mpr c6
          clear c6
          replace H := Option.bind_eq_some_iff.mp H
          obtain ⟨t111, A70, H⟩ := H
          replace H : (some t111) = some r := H
          have A7 := Aside0.mk A70
          clear A70
          obtain rfl := Option.some.inj H
          go_enter Try.func9, Try.ntmps9
          go_wp2_with (first | ((with_reducible refine gate_callee (f := 20) rfl ?_); refine goesL_ (some 2) rfl rfl Try.func20 (by kernel_rfl) rfl #[] rfl (by (try simp only [List.map_toArray, List.map_cons, List.map_nil]); first | done | rfl | (simp only [List.length_drop, List.length_take]; rfl)) ?_; (with_reducible refine (chart_New.calls k  t106 _ A1.out).mono ?_); rintro e w8 ⟨v107, rfl, ho0, hb⟩; refine ⟨_, rfl, ?_⟩; have n0_ := Aside0.mk (Kd.R_lower ho0 (below_size (by repeat (first | (with_reducible first | exact HB.out | apply below_alloc | apply pw_below_drewN | apply below_drew1) | exact HB.out)))); have n1_ := Aside0.mk (below_step (by repeat (first | (with_reducible first | exact HB.out | apply below_alloc | apply pw_below_drewN | apply below_drew1) | exact HB.out)) hb); clear HB; have HO108 := n0_; have HB := n1_; clear n0_ n1_; (try clear hb); (try clear hb2); (try clear hk); (try clear hi); (try clear ho0); obtain ⟨Ao9, co9, eo9⟩ := Kd.R_slice HO108.out; subst eo9; have p109 : 0 ≤ (5 : Int) := (by omega); have q109 : 5 < (t106.length : Int) := of_decide_eq_true (by first | (with_reducible assumption) | assumption); obtain ⟨ad109, e109, hx109_0, hx109_1, hx109_2⟩ := at_T27 (Kd.R_reads' HO108.out).2.2 5 p109 q109; cases e109; (try simp only [show (5 : Int).toNat = 5 from rfl, Nat.reduceMul, Nat.reduceEqDiff, Go.Addr.add, ↓reduceIte] at hx109_0); (try simp only [show (5 : Int).toNat = 5 from rfl, Nat.reduceMul, Nat.reduceEqDiff, Go.Addr.add, ↓reduceIte] at hx109_1); (try simp only [show (5 : Int).toNat = 5 from rfl, Nat.reduceMul, Nat.reduceEqDiff, Go.Addr.add, ↓reduceIte] at hx109_2); have qi109 : (5 < t106.length) = True := eq_true (by omega); (try rw [show ((5 : Int)).toNat = 5 from rfl] at hx109_0); (try rw [show 5 * 3 = 15 from rfl] at hx109_0); (try rw [show ((5 : Int)).toNat = 5 from rfl] at hx109_1); (try rw [show 5 * 3 = 15 from rfl] at hx109_1); (try rw [show ((5 : Int)).toNat = 5 from rfl] at hx109_2); (try rw [show 5 * 3 = 15 from rfl] at hx109_2); replace p109 := eq_true p109; replace q109 := eq_true q109) | (go_at_call 19; (with_reducible refine (chart_Number.calls k 2 1 t110 _ A5.out).mono ?_); rintro e w' ⟨rfl, ⟨nd, rfl⟩⟩) | (go_at_call 11; (with_reducible refine (chart_Right.calls k _ _ t106 t111 _ ?side1 ?side2 A7.out).mono ?_); (case side1 => repeat (first | exact (Kd.R_reads' HO108.out).2.2 | (with_reducible refine Kd.C_alloc ?_ _) | (with_reducible refine Kd.C_drewN ?_ _) | (with_reducible refine Kd.C_drew ?_))); (case side2 => exact (Kd.R_reads' HO108.out).2.1); rintro e w10 ⟨rfl, hb⟩; have n0_ := Aside0.mk (Kd.R_below (by (with_reducible repeat (first | apply Kd.R_alloc | apply Kd.R_drewN | apply Kd.R_drew)); exact HO108.out) hb); have n1_ := Aside0.mk (below_step (by repeat (first | (with_reducible first | exact HB.out | apply below_alloc | apply pw_below_drewN | apply below_drew1) | exact HB.out)) hb); clear HO108; clear HB; have HO108 := n0_; have HB := n1_; clear n0_ n1_; (try clear hb); (try clear hb2); (try clear hk); (try clear hi)))
          go_ret
          exact ⟨by first | rfl | (simp [errW_none, errW_some] <;> rfl) | (simp [*, errW_none, errW_some] <;> rfl), by repeat (first | (with_reducible first | exact HB.out | apply below_alloc | apply pw_below_drewN | apply below_drew1) | exact HB.out)⟩
        · rw [if_neg c6] at H
          have c6b0 : (t110 == 5) = false := beq_eq_false_iff_ne.mpr c6
          have c6b1 : (t110 != 5) = true := bne_iff_ne.mpr c6
          obtain rfl := Option.some.inj H
          go_enter Try.func9, Try.ntmps9
          go_wp2_with (first | ((with_reducible refine gate_callee (f := 20) rfl ?_); refine goesL_ (some 2) rfl rfl Try.func20 (by kernel_rfl) rfl #[] rfl (by (try simp only [List.map_toArray, List.map_cons, List.map_nil]); first | done | rfl | (simp only [List.length_drop, List.length_take]; rfl)) ?_; (with_reducible refine (chart_New.calls k  t106 _ A1.out).mono ?_); rintro e w11 ⟨v107, rfl, ho0, hb⟩; refine ⟨_, rfl, ?_⟩; have n0_ := Aside0.mk (Kd.R_lower ho0 (below_size (by repeat (first | (with_reducible first | exact HB.out | apply below_alloc | apply pw_below_drewN | apply below_drew1) | exact HB.out)))); have n1_ := Aside0.mk (below_step (by repeat (first | (with_reducible first | exact HB.out | apply below_alloc | apply pw_below_drewN | apply below_drew1) | exact HB.out)) hb); clear HB; have HO108 := n0_; have HB := n1_; clear n0_ n1_; (try clear hb); (try clear hb2); (try clear hk); (try clear hi); (try clear ho0); obtain ⟨Ao12, co12, eo12⟩ := Kd.R_slice HO108.out; subst eo12; have p109 : 0 ≤ (5 : Int) := (by omega); have q109 : 5 < (t106.length : Int) := of_decide_eq_true (by first | (with_reducible assumption) | assumption); obtain ⟨ad109, e109, hx109_0, hx109_1, hx109_2⟩ := at_T27 (Kd.R_reads' HO108.out).2.2 5 p109 q109; cases e109; (try simp only [show (5 : Int).toNat = 5 from rfl, Nat.reduceMul, Nat.reduceEqDiff, Go.Addr.add, ↓reduceIte] at hx109_0); (try simp only [show (5 : Int).toNat = 5 from rfl, Nat.reduceMul, Nat.reduceEqDiff, Go.Addr.add, ↓reduceIte] at hx109_1); (try simp only [show (5 : Int).toNat = 5 from rfl, Nat.reduceMul, Nat.reduceEqDiff, Go.Addr.add, ↓reduceIte] at hx109_2); have qi109 : (5 < t106.length) = True := eq_true (by omega); (try rw [show ((5 : Int)).toNat = 5 from rfl] at hx109_0); (try rw [show 5 * 3 = 15 from rfl] at hx109_0); (try rw [show ((5 : Int)).toNat = 5 from rfl] at hx109_1); (try rw [show 5 * 3 = 15 from rfl] at hx109_1); (try rw [show ((5 : Int)).toNat = 5 from rfl] at hx109_2); (try rw [show 5 * 3 = 15 from rfl] at hx109_2); replace p109 := eq_true p109; replace q109 := eq_true q109) | (go_at_call 19; (with_reducible refine (chart_Number.calls k 2 1 t110 _ A5.out).mono ?_); rintro e w' ⟨rfl, ⟨nd, rfl⟩⟩))
          go_ret
          exact ⟨by first | rfl | (simp [errW_none, errW_some] <;> rfl) | (simp [*, errW_none, errW_some] <;> rfl), by repeat (first | (with_reducible first | exact HB.out | apply below_alloc | apply pw_below_drewN | apply below_drew1) | exact HB.out)⟩
      · rw [if_neg c4] at H
        have c4b0 : (((rd_T27 t106 5).f0) == 1) = false := beq_eq_false_iff_ne.mpr c4
        have c4b1 : (((rd_T27 t106 5).f0) != 1) = true := bne_iff_ne.mpr c4
        obtain rfl := Option.some.inj H
        go_enter Try.func9, Try.ntmps9
        go_wp2_with (first | ((with_reducible refine gate_callee (f := 20) rfl ?_); refine goesL_ (some 2) rfl rfl Try.func20 (by kernel_rfl) rfl #[] rfl (by (try simp only [List.map_toArray, List.map_cons, List.map_nil]); first | done | rfl | (simp only [List.length_drop, List.length_take]; rfl)) ?_; (with_reducible refine (chart_New.calls k  t106 _ A1.out).mono ?_); rintro e w13 ⟨v107, rfl, ho0, hb⟩; refine ⟨_, rfl, ?_⟩; have n0_ := Aside0.mk (Kd.R_lower ho0 (below_size (by repeat (first | (with_reducible first | exact HB.out | apply below_alloc | apply pw_below_drewN | apply below_drew1) | exact HB.out)))); have n1_ := Aside0.mk (below_step (by repeat (first | (with_reducible first | exact HB.out | apply below_alloc | apply pw_below_drewN | apply below_drew1) | exact HB.out)) hb); clear HB; have HO108 := n0_; have HB := n1_; clear n0_ n1_; (try clear hb); (try clear hb2); (try clear hk); (try clear hi); (try clear ho0); obtain ⟨Ao14, co14, eo14⟩ := Kd.R_slice HO108.out; subst eo14; have p109 : 0 ≤ (5 : Int) := (by omega); have q109 : 5 < (t106.length : Int) := of_decide_eq_true (by first | (with_reducible assumption) | assumption); obtain ⟨ad109, e109, hx109_0, hx109_1, hx109_2⟩ := at_T27 (Kd.R_reads' HO108.out).2.2 5 p109 q109; cases e109; (try simp only [show (5 : Int).toNat = 5 from rfl, Nat.reduceMul, Nat.reduceEqDiff, Go.Addr.add, ↓reduceIte] at hx109_0); (try simp only [show (5 : Int).toNat = 5 from rfl, Nat.reduceMul, Nat.reduceEqDiff, Go.Addr.add, ↓reduceIte] at hx109_1); (try simp only [show (5 : Int).toNat = 5 from rfl, Nat.reduceMul, Nat.reduceEqDiff, Go.Addr.add, ↓reduceIte] at hx109_2); have qi109 : (5 < t106.length) = True := eq_true (by omega); (try rw [show ((5 : Int)).toNat = 5 from rfl] at hx109_0); (try rw [show 5 * 3 = 15 from rfl] at hx109_0); (try rw [show ((5 : Int)).toNat = 5 from rfl] at hx109_1); (try rw [show 5 * 3 = 15 from rfl] at hx109_1); (try rw [show ((5 : Int)).toNat = 5 from rfl] at hx109_2); (try rw [show 5 * 3 = 15 from rfl] at hx109_2); replace p109 := eq_true p109; replace q109 := eq_true q109))
        go_ret
        exact ⟨by first | rfl | (simp [errW_none, errW_some] <;> rfl) | (simp [*, errW_none, errW_some] <;> rfl), by repeat (first | (with_reducible first | exact HB.out | apply below_alloc | apply pw_below_drewN | apply below_drew1) | exact HB.out)⟩
    · rw [if_neg c3] at H
      exact absurd H (by simp)
  · rw [if_neg c2] at H
    have c2b0 : ((t106.length : Int) == 9) = false := beq_eq_false_iff_ne.mpr c2
    have c2b1 : ((t106.length : Int) != 9) = true := bne_iff_ne.mpr c2
    obtain rfl := Option.some.inj H
    go_enter Try.func9, Try.ntmps9
    go_wp2_with (first | ((with_reducible refine gate_callee (f := 20) rfl ?_); refine goesL_ (some 2) rfl rfl Try.func20 (by kernel_rfl) rfl #[] rfl (by (try simp only [List.map_toArray, List.map_cons, List.map_nil]); first | done | rfl | (simp only [List.length_drop, List.length_take]; rfl)) ?_; (with_reducible refine (chart_New.calls k  t106 _ A1.out).mono ?_); rintro e w15 ⟨v107, rfl, ho0, hb⟩; refine ⟨_, rfl, ?_⟩; have n0_ := Aside0.mk (Kd.R_lower ho0 (below_size (by repeat (first | (with_reducible first | exact HB.out | apply below_alloc | apply pw_below_drewN | apply below_drew1) | exact HB.out)))); have n1_ := Aside0.mk (below_step (by repeat (first | (with_reducible first | exact HB.out | apply below_alloc | apply pw_below_drewN | apply below_drew1) | exact HB.out)) hb); clear HB; have HO108 := n0_; have HB := n1_; clear n0_ n1_; (try clear hb); (try clear hb2); (try clear hk); (try clear hi); (try clear ho0); obtain ⟨Ao16, co16, eo16⟩ := Kd.R_slice HO108.out; subst eo16))
    go_ret
    exact ⟨by first | rfl | (simp [errW_none, errW_some] <;> rfl) | (simp [*, errW_none, errW_some] <;> rfl), by repeat (first | (with_reducible first | exact HB.out | apply below_alloc | apply pw_below_drewN | apply below_drew1) | exact HB.out)⟩

end Go.Proofs.Ytajeobncbcpllaa.PAll
