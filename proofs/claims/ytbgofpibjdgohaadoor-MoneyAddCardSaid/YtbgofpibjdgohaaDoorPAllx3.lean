/- What each Go function computes, as a plain Lean function, and the proof that the machine comes to it; for every input. Laid by wip/tools of this session over the kit's print, with small turns of ours. Not trusted: Lean checks it. -/
import Derived.Test.YtbgofpibjdgohaaDoorPAllx0
import Derived.Test.YtbgofpibjdgohaaDoorPAllx1
import Derived.Test.YtbgofpibjdgohaaDoorPAllx2
namespace Go.Proofs.YtbgofpibjdgohaaDoor.PAll
open Go.Proofs.YtbgofpibjdgohaaDoorW
open Go.RowKit Go.Proofs.YtbgofpibjdgohaaDoorW.PrintWords Go.Proofs.YtbgofpibjdgohaaDoorW.PrintLast Go.Proofs.YtbgofpibjdgohaaDoorW.PrintMore
attribute [local go_sem] max2_int min2_int max_two min_two max_three min_three max_four min_four   -- for this text's walks alone
set_option linter.unusedVariables false
set_option linter.unusedSimpArgs false

/-! ### hawalalaw01_MoneyAdd: function 3 -/
def hawalalaw01_MoneyAdd.j0 : Nat → Int → Int → Int → Option Int → Bool → Option (Bool)
  | 0, _, _, _, _, _ => none
  | k + 1, x0, x1, x5, x6, x29 => if x29 = true then (if x5 = 0 then ((api_Number.f x6).bind fun t121 => (if t121 = 4 then ((money_May.f x0).bind fun t122 => ((hawalalaw01_may.f x0).bind fun t123 => (some (t122 == t123)))) else (some false))) else (some false)) else (if x5 = (wrap64 (x0 + x1)) then (if x6.isNone = true then ((money_May.f x5).bind fun t125 => (some t125)) else (some false)) else (some false))
def hawalalaw01_MoneyAdd.f (k : Nat) (a0 : Int) (a1 : Int) : Option (Bool) := (hawalalaw01_awake.f k).bind fun t115 => (if t115 = true then ((money_Add.f k a0 a1).bind fun bt116 => ((hawalalaw01_may.f a0).bind fun t118 => (if t118 = true then ((hawalalaw01_may.f a1).bind fun t119 => (if t119 = true then ((hawalalaw01_may.f (wrap64 (a0 + a1))).bind fun t120 => (hawalalaw01_MoneyAdd.j0 k a0 a1 bt116.1 bt116.2 (!t120))) else (hawalalaw01_MoneyAdd.j0 k a0 a1 bt116.1 bt116.2 true))) else (hawalalaw01_MoneyAdd.j0 k a0 a1 bt116.1 bt116.2 true)))) else (some false))
theorem hawalalaw01_MoneyAdd.mono_l : ∀ k, (∀ y0 y1 y2 y3 y4, LeO (hawalalaw01_MoneyAdd.j0 k y0 y1 y2 y3 y4) (hawalalaw01_MoneyAdd.j0 (k + 1) y0 y1 y2 y3 y4))
  | 0 => fun _ _ _ _ _ r h => by simp [hawalalaw01_MoneyAdd.j0] at h
  | k + 1 => by
    have ih0 := hawalalaw01_MoneyAdd.mono_l k
    · intro y0 y1 y2 y3 y4
      unfold hawalalaw01_MoneyAdd.j0
      repeat' first
      | (with_reducible exact ih0 _ _ _ _ _)
      | (with_reducible exact hawalalaw01_awake.mono _)
      | (with_reducible exact money_Add.mono _ _ _)
      | (with_reducible exact LeO.refl _)
      | (with_reducible exact LeO.none _)
      | (with_reducible refine LeO.ite ?_ ?_)
      | (with_reducible refine LeO.bind ?_ (fun _ => ?_))
      | exact ih0 _ _ _ _ _
      | exact hawalalaw01_awake.mono _
      | exact money_Add.mono _ _ _
      | exact LeO.none _
      | refine LeO.ite ?_ ?_
      | refine LeO.bind ?_ (fun _ => ?_)
theorem hawalalaw01_MoneyAdd.mono : ∀ a0 a1 k, LeO (hawalalaw01_MoneyAdd.f k a0 a1) (hawalalaw01_MoneyAdd.f (k + 1) a0 a1) := by
  intro a0 a1 k
  have ih0 := hawalalaw01_MoneyAdd.mono_l k
  unfold hawalalaw01_MoneyAdd.f
  repeat' first
      | (with_reducible exact ih0 _ _ _ _ _)
      | (with_reducible exact hawalalaw01_awake.mono _)
      | (with_reducible exact money_Add.mono _ _ _)
      | (with_reducible exact LeO.refl _)
      | (with_reducible exact LeO.none _)
      | (with_reducible refine LeO.ite ?_ ?_)
      | (with_reducible refine LeO.bind ?_ (fun _ => ?_))
      | exact ih0 _ _ _ _ _
      | exact hawalalaw01_awake.mono _
      | exact money_Add.mono _ _ _
      | exact LeO.none _
      | refine LeO.ite ?_ ?_
      | refine LeO.bind ?_ (fun _ => ?_)
set_option maxHeartbeats 8000000 in
set_option maxRecDepth 100000 in
theorem hawalalaw01_MoneyAdd.calls (k : Nat) (a0 : Int) (a1 : Int) (r : Bool) (w : World) (hgz : As.GH w) (h : hawalalaw01_MoneyAdd.f k a0 a1 = some r) :
    Calls Tryd.prog 3 #[.int .i64 a0, .int .i64 a1] w fun e w' => e = .returned (.bool r) ∧ Below w.heap.size w w' := by
  have hu24 := Tryd.underlying24
  have hu28 := Tryd.underlying28
  have HG0 := Aside0.mk hgz
  clear hgz
  have HB := Aside0.mk (Below.refl w.heap.size w)
  have H : ((hawalalaw01_awake.f k).bind fun t115 => (if t115 = true then ((money_Add.f k a0 a1).bind fun bt116 => ((hawalalaw01_may.f a0).bind fun t118 => (if t118 = true then ((hawalalaw01_may.f a1).bind fun t119 => (if t119 = true then ((hawalalaw01_may.f (wrap64 (a0 + a1))).bind fun t120 => (hawalalaw01_MoneyAdd.j0 k a0 a1 bt116.1 bt116.2 (!t120))) else (hawalalaw01_MoneyAdd.j0 k a0 a1 bt116.1 bt116.2 true))) else (hawalalaw01_MoneyAdd.j0 k a0 a1 bt116.1 bt116.2 true)))) else (some false))) = some r := h
  clear h
  replace H := Option.bind_eq_some_iff.mp H
  obtain ⟨t115, A30, H⟩ := H
  replace H : (if t115 = true then ((money_Add.f k a0 a1).bind fun bt116 => ((hawalalaw01_may.f a0).bind fun t118 => (if t118 = true then ((hawalalaw01_may.f a1).bind fun t119 => (if t119 = true then ((hawalalaw01_may.f (wrap64 (a0 + a1))).bind fun t120 => (hawalalaw01_MoneyAdd.j0 k a0 a1 bt116.1 bt116.2 (!t120))) else (hawalalaw01_MoneyAdd.j0 k a0 a1 bt116.1 bt116.2 true))) else (hawalalaw01_MoneyAdd.j0 k a0 a1 bt116.1 bt116.2 true)))) else (some false)) = some r := H
  have A3 := Aside0.mk A30
  clear A30
  by_cases c4 : t115 = true
  · subst c4
    have H1 : ((money_Add.f k a0 a1).bind fun bt116 => ((hawalalaw01_may.f a0).bind fun t118 => (if t118 = true then ((hawalalaw01_may.f a1).bind fun t119 => (if t119 = true then ((hawalalaw01_may.f (wrap64 (a0 + a1))).bind fun t120 => (hawalalaw01_MoneyAdd.j0 k a0 a1 bt116.1 bt116.2 (!t120))) else (hawalalaw01_MoneyAdd.j0 k a0 a1 bt116.1 bt116.2 true))) else (hawalalaw01_MoneyAdd.j0 k a0 a1 bt116.1 bt116.2 true)))) = some r := by rw [if_pos rfl] at H; exact H
    clear H
    have H := H1
    clear H1
    replace H := Option.bind_eq_some_iff.mp H
    obtain ⟨⟨t116, t117⟩, A50, H⟩ := H
    replace H : ((hawalalaw01_may.f a0).bind fun t118 => (if t118 = true then ((hawalalaw01_may.f a1).bind fun t119 => (if t119 = true then ((hawalalaw01_may.f (wrap64 (a0 + a1))).bind fun t120 => (hawalalaw01_MoneyAdd.j0 k a0 a1 t116 t117 (!t120))) else (hawalalaw01_MoneyAdd.j0 k a0 a1 t116 t117 true))) else (hawalalaw01_MoneyAdd.j0 k a0 a1 t116 t117 true))) = some r := H
    have A5 := Aside0.mk A50
    clear A50
    have HC6 := Aside0.mk H
    clear H
    go_enter Tryd.func3, Tryd.ntmps3
    go_upto_region 4 with (first | ((with_reducible refine gate_callee (f := 9) rfl ?_); refine goesL_ (some 7) rfl rfl Tryd.func9 (by kernel_rfl) rfl #[] rfl (by (try simp only [List.map_toArray, List.map_cons, List.map_nil]); first | done | rfl | (simp only [List.length_drop, List.length_take]; rfl)) ?_; (with_reducible refine (hawalalaw01_awake.calls k  true _ ?side1 A3.out).mono ?_); (case side1 => exact As.GH.step HG0.out (by repeat (first | (with_reducible first | exact HB.out | apply below_alloc | apply pw_below_drewN | apply below_drew1) | exact HB.out))); rintro e w7 ⟨rfl, hb⟩; refine ⟨_, rfl, ?_⟩; have n0_ := Aside0.mk (below_step (by repeat (first | (with_reducible first | exact HB.out | apply below_alloc | apply pw_below_drewN | apply below_drew1) | exact HB.out)) hb); clear HB; have HB := n0_; clear n0_; (try clear hb); (try clear hb2); (try clear hk); (try clear hi)) | ((with_reducible refine gate_callee (f := 10) rfl ?_); refine goesL_ (some 12) rfl rfl Tryd.func10 (by kernel_rfl) rfl #[.int .i64 a0, .int .i64 a1] rfl (by (try simp only [List.map_toArray, List.map_cons, List.map_nil]); first | done | rfl | (simp only [List.length_drop, List.length_take]; rfl)) ?_; (with_reducible refine (money_Add.calls k a0 a1 t116 t117 _ A5.out).mono ?_); rintro e w' ⟨rfl, ⟨nd, rfl⟩⟩; refine ⟨_, rfl, ?_⟩; (try simp only [errW_none, errW_some])))
    (try simp only [Act.put, List.setIfInBounds_toArray, List.set_cons_zero, List.set_cons_succ])
    go_cut [29] (fun v29 wc => ∃ (kq : Nat) (x29_5 : Bool), v29 = .bool x29_5 ∧ Aside0 (hawalalaw01_MoneyAdd.j0 kq a0 a1 t116 t117 x29_5 = some r) ∧ Aside0 (kq ≤ k) ∧ Aside0 (Below w.heap.size w wc))
    case first =>
      have H := HC6.out
      clear HC6
      replace H := Option.bind_eq_some_iff.mp H
      obtain ⟨t118, A80, H⟩ := H
      replace H : (if t118 = true then ((hawalalaw01_may.f a1).bind fun t119 => (if t119 = true then ((hawalalaw01_may.f (wrap64 (a0 + a1))).bind fun t120 => (hawalalaw01_MoneyAdd.j0 k a0 a1 t116 t117 (!t120))) else (hawalalaw01_MoneyAdd.j0 k a0 a1 t116 t117 true))) else (hawalalaw01_MoneyAdd.j0 k a0 a1 t116 t117 true)) = some r := H
      have A8 := Aside0.mk A80
      clear A80
      by_cases c9 : t118 = true
      · subst c9
        have H1 : ((hawalalaw01_may.f a1).bind fun t119 => (if t119 = true then ((hawalalaw01_may.f (wrap64 (a0 + a1))).bind fun t120 => (hawalalaw01_MoneyAdd.j0 k a0 a1 t116 t117 (!t120))) else (hawalalaw01_MoneyAdd.j0 k a0 a1 t116 t117 true))) = some r := by rw [if_pos rfl] at H; exact H
        clear H
        have H := H1
        clear H1
        replace H := Option.bind_eq_some_iff.mp H
        obtain ⟨t119, A100, H⟩ := H
        replace H : (if t119 = true then ((hawalalaw01_may.f (wrap64 (a0 + a1))).bind fun t120 => (hawalalaw01_MoneyAdd.j0 k a0 a1 t116 t117 (!t120))) else (hawalalaw01_MoneyAdd.j0 k a0 a1 t116 t117 true)) = some r := H
        have A10 := Aside0.mk A100
        clear A100
        by_cases c11 : t119 = true
        · subst c11
          have H1 : ((hawalalaw01_may.f (wrap64 (a0 + a1))).bind fun t120 => (hawalalaw01_MoneyAdd.j0 k a0 a1 t116 t117 (!t120))) = some r := by rw [if_pos rfl] at H; exact H
          clear H
          have H := H1
          clear H1
          replace H := Option.bind_eq_some_iff.mp H
          obtain ⟨t120, A120, H⟩ := H
          replace H : (hawalalaw01_MoneyAdd.j0 k a0 a1 t116 t117 (!t120)) = some r := H
          have A12 := Aside0.mk A120
          clear A120
          have H' := Aside0.mk H
          clear H
          go_wp2_with (first | ((with_reducible refine gate_callee (f := 11) rfl ?_); refine goesL_ (some 16) rfl rfl Tryd.func11 (by kernel_rfl) rfl #[.int .i64 a0] rfl (by (try simp only [List.map_toArray, List.map_cons, List.map_nil]); first | done | rfl | (simp only [List.length_drop, List.length_take]; rfl)) ?_; (with_reducible refine (hawalalaw01_may.calls a0 true _ A8.out).mono ?_); rintro e w' ⟨rfl, ⟨nd, rfl⟩⟩; refine ⟨_, rfl, ?_⟩) | (go_at_call 11; (with_reducible refine (hawalalaw01_may.calls a1 true _ A10.out).mono ?_); rintro e w' ⟨rfl, ⟨nd, rfl⟩⟩) | (go_at_call 11; (with_reducible refine (hawalalaw01_may.calls (wrap64 (a0 + a1)) t120 _ A12.out).mono ?_); rintro e w' ⟨rfl, ⟨nd, rfl⟩⟩))
          go_meet
          case rel => exact ⟨_, (!t120), (by first | rfl | (simp; done) | (simp [*]; done)), H', ⟨by first | omega | exact Nat.le_refl _⟩, ⟨by repeat (first | (with_reducible first | exact HB.out | apply below_alloc | apply pw_below_drewN | apply below_drew1) | exact HB.out)⟩⟩
        · replace c11 := Bool.eq_false_iff.mpr c11
          subst c11
          have H1 : (hawalalaw01_MoneyAdd.j0 k a0 a1 t116 t117 true) = some r := by rw [if_neg (show ¬ (false = true) by decide)] at H; exact H
          clear H
          have H := H1
          clear H1
          have H' := Aside0.mk H
          clear H
          go_wp2_with (first | ((with_reducible refine gate_callee (f := 11) rfl ?_); refine goesL_ (some 16) rfl rfl Tryd.func11 (by kernel_rfl) rfl #[.int .i64 a0] rfl (by (try simp only [List.map_toArray, List.map_cons, List.map_nil]); first | done | rfl | (simp only [List.length_drop, List.length_take]; rfl)) ?_; (with_reducible refine (hawalalaw01_may.calls a0 true _ A8.out).mono ?_); rintro e w' ⟨rfl, ⟨nd, rfl⟩⟩; refine ⟨_, rfl, ?_⟩) | (go_at_call 11; (with_reducible refine (hawalalaw01_may.calls a1 false _ A10.out).mono ?_); rintro e w' ⟨rfl, ⟨nd, rfl⟩⟩))
          go_meet
          case rel => exact ⟨_, (true), (by first | rfl | (simp; done) | (simp [*]; done)), H', ⟨by first | omega | exact Nat.le_refl _⟩, ⟨by repeat (first | (with_reducible first | exact HB.out | apply below_alloc | apply pw_below_drewN | apply below_drew1) | exact HB.out)⟩⟩
      · replace c9 := Bool.eq_false_iff.mpr c9
        subst c9
        have H1 : (hawalalaw01_MoneyAdd.j0 k a0 a1 t116 t117 true) = some r := by rw [if_neg (show ¬ (false = true) by decide)] at H; exact H
        clear H
        have H := H1
        clear H1
        have H' := Aside0.mk H
        clear H
        go_wp2_with (first | ((with_reducible refine gate_callee (f := 11) rfl ?_); refine goesL_ (some 16) rfl rfl Tryd.func11 (by kernel_rfl) rfl #[.int .i64 a0] rfl (by (try simp only [List.map_toArray, List.map_cons, List.map_nil]); first | done | rfl | (simp only [List.length_drop, List.length_take]; rfl)) ?_; (with_reducible refine (hawalalaw01_may.calls a0 false _ A8.out).mono ?_); rintro e w' ⟨rfl, ⟨nd, rfl⟩⟩; refine ⟨_, rfl, ?_⟩))
        go_meet
        case rel => exact ⟨_, (true), (by first | rfl | (simp; done) | (simp [*]; done)), H', ⟨by first | omega | exact Nat.le_refl _⟩, ⟨by repeat (first | (with_reducible first | exact HB.out | apply below_alloc | apply pw_below_drewN | apply below_drew1) | exact HB.out)⟩⟩
    case rest =>
      clear HC6
      try clear c1
      try clear p2
      try clear c3
      try clear c4
      try clear p6
      try clear c9
      try clear c10
      try clear c11
      obtain ⟨kq, x29_5, rfl, HA, HJ5, HB⟩ := hcut
      cases kq with
      | zero => exact absurd HA.out (by simp [hawalalaw01_MoneyAdd.j0])
      | succ kj5 =>
        have H := HA.out
        clear HA
        simp only [hawalalaw01_MoneyAdd.j0] at H
        by_cases c13 : x29_5 = true
        · subst c13
          have H1 : (if t116 = 0 then ((api_Number.f t117).bind fun t121 => (if t121 = 4 then ((money_May.f a0).bind fun t122 => ((hawalalaw01_may.f a0).bind fun t123 => (some (t122 == t123)))) else (some false))) else (some false)) = some r := by rw [if_pos rfl] at H; exact H
          clear H
          have H := H1
          clear H1
          by_cases c14 : t116 = 0
          · rw [if_pos c14] at H
            have c14b0 : (t116 == 0) = true := beq_iff_eq.mpr c14
            have c14b1 : (t116 != 0) = false := bne_eq_false_iff_eq.mpr c14
            clear c14
            replace H := Option.bind_eq_some_iff.mp H
            obtain ⟨t121, A150, H⟩ := H
            replace H : (if t121 = 4 then ((money_May.f a0).bind fun t122 => ((hawalalaw01_may.f a0).bind fun t123 => (some (t122 == t123)))) else (some false)) = some r := H
            have A15 := Aside0.mk A150
            clear A150
            by_cases c16 : t121 = 4
            · rw [if_pos c16] at H
              have c16b0 : (t121 == 4) = true := beq_iff_eq.mpr c16
              have c16b1 : (t121 != 4) = false := bne_eq_false_iff_eq.mpr c16
              clear c16
              replace H := Option.bind_eq_some_iff.mp H
              obtain ⟨t122, A170, H⟩ := H
              replace H : ((hawalalaw01_may.f a0).bind fun t123 => (some (t122 == t123))) = some r := H
              have A17 := Aside0.mk A170
              clear A170
              replace H := Option.bind_eq_some_iff.mp H
              obtain ⟨t123, A180, H⟩ := H
              replace H : (some (t122 == t123)) = some r := H
              have A18 := Aside0.mk A180
              clear A180
              obtain rfl := Option.some.inj H
              have CA15 := fun W (hg_ : As.GH W) => api_Number.calls t117 t121 W hg_ A15.out
              try simp only [errW_none, errW_some] at CA15
              go_wp2_with (first | (go_at_call 12; (with_reducible refine (CA15 _ ?side1).mono ?_); (case side1 => exact As.GH.step HG0.out (by repeat (first | (with_reducible first | exact HB.out | apply below_alloc | apply pw_below_drewN | apply below_drew1) | exact HB.out))); rintro e w19 ⟨rfl, hb⟩; have n0_ := Aside0.mk (below_step (by repeat (first | (with_reducible first | exact HB.out | apply below_alloc | apply pw_below_drewN | apply below_drew1) | exact HB.out)) hb); clear HB; have HB := n0_; clear n0_; (try clear hb); (try clear hb2); (try clear hk); (try clear hi)) | (go_at_call 13; (with_reducible refine (money_May.calls a0 t122 _ A17.out).mono ?_); rintro e w' ⟨rfl, ⟨nd, rfl⟩⟩) | (go_at_call 11; (with_reducible refine (hawalalaw01_may.calls a0 t123 _ A18.out).mono ?_); rintro e w' ⟨rfl, ⟨nd, rfl⟩⟩))
              go_ret
              exact ⟨by first | rfl | (simp [errW_none, errW_some] <;> rfl) | (simp [*, errW_none, errW_some] <;> rfl), by repeat (first | (with_reducible first | exact HB.out | apply below_alloc | apply pw_below_drewN | apply below_drew1) | exact HB.out)⟩
            · rw [if_neg c16] at H
              have c16b0 : (t121 == 4) = false := beq_eq_false_iff_ne.mpr c16
              have c16b1 : (t121 != 4) = true := bne_iff_ne.mpr c16
              obtain rfl := Option.some.inj H
              have CA15 := fun W (hg_ : As.GH W) => api_Number.calls t117 t121 W hg_ A15.out
              try simp only [errW_none, errW_some] at CA15
              go_wp2_with (first | (go_at_call 12; (with_reducible refine (CA15 _ ?side1).mono ?_); (case side1 => exact As.GH.step HG0.out (by repeat (first | (with_reducible first | exact HB.out | apply below_alloc | apply pw_below_drewN | apply below_drew1) | exact HB.out))); rintro e w20 ⟨rfl, hb⟩; have n0_ := Aside0.mk (below_step (by repeat (first | (with_reducible first | exact HB.out | apply below_alloc | apply pw_below_drewN | apply below_drew1) | exact HB.out)) hb); clear HB; have HB := n0_; clear n0_; (try clear hb); (try clear hb2); (try clear hk); (try clear hi)))
              go_ret
              exact ⟨by first | rfl | (simp [errW_none, errW_some] <;> rfl) | (simp [*, errW_none, errW_some] <;> rfl), by repeat (first | (with_reducible first | exact HB.out | apply below_alloc | apply pw_below_drewN | apply below_drew1) | exact HB.out)⟩
          · rw [if_neg c14] at H
            have c14b0 : (t116 == 0) = false := beq_eq_false_iff_ne.mpr c14
            have c14b1 : (t116 != 0) = true := bne_iff_ne.mpr c14
            obtain rfl := Option.some.inj H
            go_wp2
            go_ret
            exact ⟨by first | rfl | (simp [errW_none, errW_some] <;> rfl) | (simp [*, errW_none, errW_some] <;> rfl), by repeat (first | (with_reducible first | exact HB.out | apply below_alloc | apply pw_below_drewN | apply below_drew1) | exact HB.out)⟩
        · replace c13 := Bool.eq_false_iff.mpr c13
          subst c13
          have H1 : (if t116 = (wrap64 (a0 + a1)) then (if t117.isNone = true then ((money_May.f t116).bind fun t125 => (some t125)) else (some false)) else (some false)) = some r := by rw [if_neg (show ¬ (false = true) by decide)] at H; exact H
          clear H
          have H := H1
          clear H1
          by_cases c21 : t116 = (wrap64 (a0 + a1))
          · rw [if_pos c21] at H
            have c21b0 : (t116 == (wrap64 (a0 + a1))) = true := beq_iff_eq.mpr c21
            have c21b1 : (t116 != (wrap64 (a0 + a1))) = false := bne_eq_false_iff_eq.mpr c21
            clear c21
            rcases t117 with _ | q124
            · have H1 : ((money_May.f t116).bind fun t125 => (some t125)) = some r := by rw [if_pos (show (none : Option Int).isNone = true by rfl)] at H; exact H
              clear H
              have H := H1
              clear H1
              try simp only [errW_none, errW_some]
              replace H := Option.bind_eq_some_iff.mp H
              obtain ⟨t125, A220, H⟩ := H
              replace H : (some t125) = some r := H
              have A22 := Aside0.mk A220
              clear A220
              obtain rfl := Option.some.inj H
              go_wp2_with (first | (go_at_call 13; (with_reducible refine (money_May.calls t116 t125 _ A22.out).mono ?_); rintro e w' ⟨rfl, ⟨nd, rfl⟩⟩))
              go_ret
              exact ⟨by first | rfl | (simp [errW_none, errW_some] <;> rfl) | (simp [*, errW_none, errW_some] <;> rfl), by repeat (first | (with_reducible first | exact HB.out | apply below_alloc | apply pw_below_drewN | apply below_drew1) | exact HB.out)⟩
            · have H1 : (some false) = some r := by rw [if_neg (show ¬ (some q124).isNone = true by simp)] at H; exact H
              clear H
              have H := H1
              clear H1
              try simp only [errW_none, errW_some]
              obtain rfl := Option.some.inj H
              go_wp2
              go_ret
              exact ⟨by first | rfl | (simp [errW_none, errW_some] <;> rfl) | (simp [*, errW_none, errW_some] <;> rfl), by repeat (first | (with_reducible first | exact HB.out | apply below_alloc | apply pw_below_drewN | apply below_drew1) | exact HB.out)⟩
          · rw [if_neg c21] at H
            have c21b0 : (t116 == (wrap64 (a0 + a1))) = false := beq_eq_false_iff_ne.mpr c21
            have c21b1 : (t116 != (wrap64 (a0 + a1))) = true := bne_iff_ne.mpr c21
            obtain rfl := Option.some.inj H
            go_wp2
            go_ret
            exact ⟨by first | rfl | (simp [errW_none, errW_some] <;> rfl) | (simp [*, errW_none, errW_some] <;> rfl), by repeat (first | (with_reducible first | exact HB.out | apply below_alloc | apply pw_below_drewN | apply below_drew1) | exact HB.out)⟩
  · replace c4 := Bool.eq_false_iff.mpr c4
    subst c4
    have H1 : (some false) = some r := by rw [if_neg (show ¬ (false = true) by decide)] at H; exact H
    clear H
    have H := H1
    clear H1
    obtain rfl := Option.some.inj H
    go_enter Tryd.func3, Tryd.ntmps3
    go_wp2_with (first | ((with_reducible refine gate_callee (f := 9) rfl ?_); refine goesL_ (some 7) rfl rfl Tryd.func9 (by kernel_rfl) rfl #[] rfl (by (try simp only [List.map_toArray, List.map_cons, List.map_nil]); first | done | rfl | (simp only [List.length_drop, List.length_take]; rfl)) ?_; (with_reducible refine (hawalalaw01_awake.calls k  false _ ?side1 A3.out).mono ?_); (case side1 => exact As.GH.step HG0.out (by repeat (first | (with_reducible first | exact HB.out | apply below_alloc | apply pw_below_drewN | apply below_drew1) | exact HB.out))); rintro e w23 ⟨rfl, hb⟩; refine ⟨_, rfl, ?_⟩; have n0_ := Aside0.mk (below_step (by repeat (first | (with_reducible first | exact HB.out | apply below_alloc | apply pw_below_drewN | apply below_drew1) | exact HB.out)) hb); clear HB; have HB := n0_; clear n0_; (try clear hb); (try clear hb2); (try clear hk); (try clear hi)))
    go_ret
    exact ⟨by first | rfl | (simp [errW_none, errW_some] <;> rfl) | (simp [*, errW_none, errW_some] <;> rfl), by repeat (first | (with_reducible first | exact HB.out | apply below_alloc | apply pw_below_drewN | apply below_drew1) | exact HB.out)⟩

/-- THE ONE PURE STATEMENT of hawalalaw01_MoneyAdd: yours. -/
def hawalalaw01_MoneyAdd.Pure : Prop := ∀ (a0 : Int) (a1 : Int), (Lit.int .i64 a0).wf = true → (Lit.int .i64 a1).wf = true → ∃ k, hawalalaw01_MoneyAdd.f k a0 a1 = some true

end Go.Proofs.YtbgofpibjdgohaaDoor.PAll
