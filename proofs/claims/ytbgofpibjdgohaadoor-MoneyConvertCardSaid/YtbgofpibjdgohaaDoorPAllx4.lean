/- What each Go function computes, as a plain Lean function, and the proof that the machine comes to it; for every input. Laid by wip/tools of this session over the kit's print, with small turns of ours. Not trusted: Lean checks it. -/
import Derived.Test.YtbgofpibjdgohaaDoorPAllx0
import Derived.Test.YtbgofpibjdgohaaDoorPAllx1
import Derived.Test.YtbgofpibjdgohaaDoorPAllx2
namespace Go.Proofs.YtbgofpibjdgohaaDoor.PAll
open Go.Proofs.YtbgofpibjdgohaaDoorW
open Go.RowKit Go.Proofs.YtbgofpibjdgohaaDoorW.PrintWords Go.Proofs.YtbgofpibjdgohaaDoorW.PrintLast Go.Proofs.YtbgofpibjdgohaaDoorW.PrintMore
attribute [local go_sem] max2_int min2_int max_two min_two max_three min_three max_four min_four   -- for this text's walks alone
set_option linter.unusedVariables false
set_option linter.unusedSimpArgs false

/-! ### hawalalaw01_MoneyConvert: function 4 -/
def hawalalaw01_MoneyConvert.j0 : Nat → Int → Int → Int → Int → Int → Option Int → Bool → Option (Bool)
  | 0, _, _, _, _, _, _, _ => none
  | k + 1, x0, x1, x2, x7, x8, x9, x42 => if x42 = true then (if x7 = 0 then (if x8 = 0 then ((api_Number.f x9).bind fun t130 => (if t130 = 13 then ((money_Amount.f x0).bind fun t131 => (if x0 ≥ 1 then (some (t131 == (decide (x0 ≤ 1099511627776)))) else (some (t131 == false)))) else (some false))) else (some false)) else (some false)) else (if x2 = 0 then (none) else (if (wrap64 (Int.tdiv (wrap64 (x0 * x1)) x2)) > 1099511627776 then (if x7 = 0 then (if x8 = 0 then ((api_Number.f x9).bind fun t132 => (some (t132 == 4))) else (some false)) else (some false)) else (if x9.isNone = true then (if x8 ≥ 0 then (if x8 < x2 then (some ((wrap64 ((wrap64 (x7 * x2)) + x8)) == (wrap64 (x0 * x1)))) else (some false)) else (some false)) else (some false))))
def hawalalaw01_MoneyConvert.f (k : Nat) (a0 : Int) (a1 : Int) (a2 : Int) : Option (Bool) := (hawalalaw01_awake.f k).bind fun t126 => (if t126 = true then ((money_Convert.f k a0 a1 a2).bind fun bt127 => (if a0 < 1 then (hawalalaw01_MoneyConvert.j0 k a0 a1 a2 bt127.1 bt127.2.1 bt127.2.2 true) else (if a0 > 1099511627776 then (hawalalaw01_MoneyConvert.j0 k a0 a1 a2 bt127.1 bt127.2.1 bt127.2.2 true) else (if a1 < 1 then (hawalalaw01_MoneyConvert.j0 k a0 a1 a2 bt127.1 bt127.2.1 bt127.2.2 true) else (if a1 > 1024 then (hawalalaw01_MoneyConvert.j0 k a0 a1 a2 bt127.1 bt127.2.1 bt127.2.2 true) else (if a2 < 1 then (hawalalaw01_MoneyConvert.j0 k a0 a1 a2 bt127.1 bt127.2.1 bt127.2.2 true) else (hawalalaw01_MoneyConvert.j0 k a0 a1 a2 bt127.1 bt127.2.1 bt127.2.2 (decide (a2 > 1024))))))))) else (some false))
theorem hawalalaw01_MoneyConvert.mono_l : ∀ k, (∀ y0 y1 y2 y3 y4 y5 y6, LeO (hawalalaw01_MoneyConvert.j0 k y0 y1 y2 y3 y4 y5 y6) (hawalalaw01_MoneyConvert.j0 (k + 1) y0 y1 y2 y3 y4 y5 y6))
  | 0 => fun _ _ _ _ _ _ _ r h => by simp [hawalalaw01_MoneyConvert.j0] at h
  | k + 1 => by
    have ih0 := hawalalaw01_MoneyConvert.mono_l k
    · intro y0 y1 y2 y3 y4 y5 y6
      unfold hawalalaw01_MoneyConvert.j0
      repeat' first
      | (with_reducible exact ih0 _ _ _ _ _ _ _)
      | (with_reducible exact hawalalaw01_awake.mono _)
      | (with_reducible exact money_Convert.mono _ _ _ _)
      | (with_reducible exact LeO.refl _)
      | (with_reducible exact LeO.none _)
      | (with_reducible refine LeO.ite ?_ ?_)
      | (with_reducible refine LeO.bind ?_ (fun _ => ?_))
      | exact ih0 _ _ _ _ _ _ _
      | exact hawalalaw01_awake.mono _
      | exact money_Convert.mono _ _ _ _
      | exact LeO.none _
      | refine LeO.ite ?_ ?_
      | refine LeO.bind ?_ (fun _ => ?_)
theorem hawalalaw01_MoneyConvert.mono : ∀ a0 a1 a2 k, LeO (hawalalaw01_MoneyConvert.f k a0 a1 a2) (hawalalaw01_MoneyConvert.f (k + 1) a0 a1 a2) := by
  intro a0 a1 a2 k
  have ih0 := hawalalaw01_MoneyConvert.mono_l k
  unfold hawalalaw01_MoneyConvert.f
  repeat' first
      | (with_reducible exact ih0 _ _ _ _ _ _ _)
      | (with_reducible exact hawalalaw01_awake.mono _)
      | (with_reducible exact money_Convert.mono _ _ _ _)
      | (with_reducible exact LeO.refl _)
      | (with_reducible exact LeO.none _)
      | (with_reducible refine LeO.ite ?_ ?_)
      | (with_reducible refine LeO.bind ?_ (fun _ => ?_))
      | exact ih0 _ _ _ _ _ _ _
      | exact hawalalaw01_awake.mono _
      | exact money_Convert.mono _ _ _ _
      | exact LeO.none _
      | refine LeO.ite ?_ ?_
      | refine LeO.bind ?_ (fun _ => ?_)
set_option maxHeartbeats 8000000 in
set_option maxRecDepth 100000 in
theorem hawalalaw01_MoneyConvert.calls (k : Nat) (a0 : Int) (a1 : Int) (a2 : Int) (r : Bool) (w : World) (hgz : As.GH w) (h : hawalalaw01_MoneyConvert.f k a0 a1 a2 = some r) :
    Calls Tryd.prog 4 #[.int .i64 a0, .int .i64 a1, .int .i64 a2] w fun e w' => e = .returned (.bool r) ∧ Below w.heap.size w w' := by
  have hu34 := Tryd.underlying34
  have hu24 := Tryd.underlying24
  have hu28 := Tryd.underlying28
  have HG0 := Aside0.mk hgz
  clear hgz
  have HB := Aside0.mk (Below.refl w.heap.size w)
  have H : ((hawalalaw01_awake.f k).bind fun t126 => (if t126 = true then ((money_Convert.f k a0 a1 a2).bind fun bt127 => (if a0 < 1 then (hawalalaw01_MoneyConvert.j0 k a0 a1 a2 bt127.1 bt127.2.1 bt127.2.2 true) else (if a0 > 1099511627776 then (hawalalaw01_MoneyConvert.j0 k a0 a1 a2 bt127.1 bt127.2.1 bt127.2.2 true) else (if a1 < 1 then (hawalalaw01_MoneyConvert.j0 k a0 a1 a2 bt127.1 bt127.2.1 bt127.2.2 true) else (if a1 > 1024 then (hawalalaw01_MoneyConvert.j0 k a0 a1 a2 bt127.1 bt127.2.1 bt127.2.2 true) else (if a2 < 1 then (hawalalaw01_MoneyConvert.j0 k a0 a1 a2 bt127.1 bt127.2.1 bt127.2.2 true) else (hawalalaw01_MoneyConvert.j0 k a0 a1 a2 bt127.1 bt127.2.1 bt127.2.2 (decide (a2 > 1024))))))))) else (some false))) = some r := h
  clear h
  replace H := Option.bind_eq_some_iff.mp H
  obtain ⟨t126, A40, H⟩ := H
  replace H : (if t126 = true then ((money_Convert.f k a0 a1 a2).bind fun bt127 => (if a0 < 1 then (hawalalaw01_MoneyConvert.j0 k a0 a1 a2 bt127.1 bt127.2.1 bt127.2.2 true) else (if a0 > 1099511627776 then (hawalalaw01_MoneyConvert.j0 k a0 a1 a2 bt127.1 bt127.2.1 bt127.2.2 true) else (if a1 < 1 then (hawalalaw01_MoneyConvert.j0 k a0 a1 a2 bt127.1 bt127.2.1 bt127.2.2 true) else (if a1 > 1024 then (hawalalaw01_MoneyConvert.j0 k a0 a1 a2 bt127.1 bt127.2.1 bt127.2.2 true) else (if a2 < 1 then (hawalalaw01_MoneyConvert.j0 k a0 a1 a2 bt127.1 bt127.2.1 bt127.2.2 true) else (hawalalaw01_MoneyConvert.j0 k a0 a1 a2 bt127.1 bt127.2.1 bt127.2.2 (decide (a2 > 1024))))))))) else (some false)) = some r := H
  have A4 := Aside0.mk A40
  clear A40
  by_cases c5 : t126 = true
  · subst c5
    have H1 : ((money_Convert.f k a0 a1 a2).bind fun bt127 => (if a0 < 1 then (hawalalaw01_MoneyConvert.j0 k a0 a1 a2 bt127.1 bt127.2.1 bt127.2.2 true) else (if a0 > 1099511627776 then (hawalalaw01_MoneyConvert.j0 k a0 a1 a2 bt127.1 bt127.2.1 bt127.2.2 true) else (if a1 < 1 then (hawalalaw01_MoneyConvert.j0 k a0 a1 a2 bt127.1 bt127.2.1 bt127.2.2 true) else (if a1 > 1024 then (hawalalaw01_MoneyConvert.j0 k a0 a1 a2 bt127.1 bt127.2.1 bt127.2.2 true) else (if a2 < 1 then (hawalalaw01_MoneyConvert.j0 k a0 a1 a2 bt127.1 bt127.2.1 bt127.2.2 true) else (hawalalaw01_MoneyConvert.j0 k a0 a1 a2 bt127.1 bt127.2.1 bt127.2.2 (decide (a2 > 1024))))))))) = some r := by rw [if_pos rfl] at H; exact H
    clear H
    have H := H1
    clear H1
    replace H := Option.bind_eq_some_iff.mp H
    obtain ⟨⟨t127, t128, t129⟩, A60, H⟩ := H
    replace H : (if a0 < 1 then (hawalalaw01_MoneyConvert.j0 k a0 a1 a2 t127 t128 t129 true) else (if a0 > 1099511627776 then (hawalalaw01_MoneyConvert.j0 k a0 a1 a2 t127 t128 t129 true) else (if a1 < 1 then (hawalalaw01_MoneyConvert.j0 k a0 a1 a2 t127 t128 t129 true) else (if a1 > 1024 then (hawalalaw01_MoneyConvert.j0 k a0 a1 a2 t127 t128 t129 true) else (if a2 < 1 then (hawalalaw01_MoneyConvert.j0 k a0 a1 a2 t127 t128 t129 true) else (hawalalaw01_MoneyConvert.j0 k a0 a1 a2 t127 t128 t129 (decide (a2 > 1024)))))))) = some r := H
    have A6 := Aside0.mk A60
    clear A60
    have HC7 := Aside0.mk H
    clear H
    go_enter Tryd.func4, Tryd.ntmps4
    go_upto_region 4 with (first | ((with_reducible refine gate_callee (f := 9) rfl ?_); refine goesL_ (some 10) rfl rfl Tryd.func9 (by kernel_rfl) rfl #[] rfl (by (try simp only [List.map_toArray, List.map_cons, List.map_nil]); first | done | rfl | (simp only [List.length_drop, List.length_take]; rfl)) ?_; (with_reducible refine (hawalalaw01_awake.calls k  true _ ?side1 A4.out).mono ?_); (case side1 => exact As.GH.step HG0.out (by repeat (first | (with_reducible first | exact HB.out | apply below_alloc | apply pw_below_drewN | apply below_drew1) | exact HB.out))); rintro e w8 ⟨rfl, hb⟩; refine ⟨_, rfl, ?_⟩; have n0_ := Aside0.mk (below_step (by repeat (first | (with_reducible first | exact HB.out | apply below_alloc | apply pw_below_drewN | apply below_drew1) | exact HB.out)) hb); clear HB; have HB := n0_; clear n0_; (try clear hb); (try clear hb2); (try clear hk); (try clear hi)) | ((with_reducible refine gate_callee (f := 14) rfl ?_); refine goesL_ (some 17) rfl rfl Tryd.func14 (by kernel_rfl) rfl #[.int .i64 a0, .agg #[.int .i64 a1, .int .i64 a2]] rfl (by (try simp only [List.map_toArray, List.map_cons, List.map_nil]); first | done | rfl | (simp only [List.length_drop, List.length_take]; rfl)) ?_; (with_reducible refine (money_Convert.calls k a0 a1 a2 t127 t128 t129 _ A6.out).mono ?_); rintro e w9 ⟨rfl, hb⟩; refine ⟨_, rfl, ?_⟩; have n0_ := Aside0.mk (below_step (by repeat (first | (with_reducible first | exact HB.out | apply below_alloc | apply pw_below_drewN | apply below_drew1) | exact HB.out)) hb); clear HB; have HB := n0_; clear n0_; (try clear hb); (try clear hb2); (try clear hk); (try clear hi); (try simp only [errW_none, errW_some])))
    (try simp only [Act.put, List.setIfInBounds_toArray, List.set_cons_zero, List.set_cons_succ])
    go_cut [42] (fun v42 wc => ∃ (kq : Nat) (x42_6 : Bool), v42 = .bool x42_6 ∧ Aside0 (hawalalaw01_MoneyConvert.j0 kq a0 a1 a2 t127 t128 t129 x42_6 = some r) ∧ Aside0 (kq ≤ k) ∧ Aside0 (Below w.heap.size w wc))
    case first =>
      have H := HC7.out
      clear HC7
      by_cases c10 : a0 < 1
      · rw [if_pos c10] at H
        have c10b0 : decide (a0 < 1) = true := decide_eq_true c10
        clear c10
        (first | rw [c10b0] | (simp only [i64_w, i32_w]; rw [c10b0]) | skip)
        have H' := Aside0.mk H
        clear H
        go_wp2
        go_meet
        case rel => exact ⟨_, (true), (by first | rfl | (simp; done) | (simp [*]; done)), H', ⟨by first | omega | exact Nat.le_refl _⟩, ⟨by repeat (first | (with_reducible first | exact HB.out | apply below_alloc | apply pw_below_drewN | apply below_drew1) | exact HB.out)⟩⟩
      · rw [if_neg c10] at H
        have c10b0 : decide (a0 < 1) = false := decide_eq_false c10
        clear c10
        (first | rw [c10b0] | (simp only [i64_w, i32_w]; rw [c10b0]) | skip)
        by_cases c11 : a0 > 1099511627776
        · rw [if_pos c11] at H
          have c11b0 : decide (1099511627776 < a0) = true := decide_eq_true c11
          clear c11
          have H' := Aside0.mk H
          clear H
          go_wp2
          go_meet
          case rel => exact ⟨_, (true), (by first | rfl | (simp; done) | (simp [*]; done)), H', ⟨by first | omega | exact Nat.le_refl _⟩, ⟨by repeat (first | (with_reducible first | exact HB.out | apply below_alloc | apply pw_below_drewN | apply below_drew1) | exact HB.out)⟩⟩
        · rw [if_neg c11] at H
          have c11b0 : decide (1099511627776 < a0) = false := decide_eq_false c11
          clear c11
          by_cases c12 : a1 < 1
          · rw [if_pos c12] at H
            have c12b0 : decide (a1 < 1) = true := decide_eq_true c12
            clear c12
            have H' := Aside0.mk H
            clear H
            go_wp2
            go_meet
            case rel => exact ⟨_, (true), (by first | rfl | (simp; done) | (simp [*]; done)), H', ⟨by first | omega | exact Nat.le_refl _⟩, ⟨by repeat (first | (with_reducible first | exact HB.out | apply below_alloc | apply pw_below_drewN | apply below_drew1) | exact HB.out)⟩⟩
          · rw [if_neg c12] at H
            have c12b0 : decide (a1 < 1) = false := decide_eq_false c12
            clear c12
            by_cases c13 : a1 > 1024
            · rw [if_pos c13] at H
              have c13b0 : decide (1024 < a1) = true := decide_eq_true c13
              clear c13
              have H' := Aside0.mk H
              clear H
              go_wp2
              go_meet
              case rel => exact ⟨_, (true), (by first | rfl | (simp; done) | (simp [*]; done)), H', ⟨by first | omega | exact Nat.le_refl _⟩, ⟨by repeat (first | (with_reducible first | exact HB.out | apply below_alloc | apply pw_below_drewN | apply below_drew1) | exact HB.out)⟩⟩
            · rw [if_neg c13] at H
              have c13b0 : decide (1024 < a1) = false := decide_eq_false c13
              clear c13
              by_cases c14 : a2 < 1
              · rw [if_pos c14] at H
                have c14b0 : decide (a2 < 1) = true := decide_eq_true c14
                clear c14
                have H' := Aside0.mk H
                clear H
                go_wp2
                go_meet
                case rel => exact ⟨_, (true), (by first | rfl | (simp; done) | (simp [*]; done)), H', ⟨by first | omega | exact Nat.le_refl _⟩, ⟨by repeat (first | (with_reducible first | exact HB.out | apply below_alloc | apply pw_below_drewN | apply below_drew1) | exact HB.out)⟩⟩
              · rw [if_neg c14] at H
                have c14b0 : decide (a2 < 1) = false := decide_eq_false c14
                clear c14
                have H' := Aside0.mk H
                clear H
                go_wp2
                go_meet
                case rel => exact ⟨_, (decide (a2 > 1024)), (by first | rfl | (simp; done) | (simp [*]; done)), H', ⟨by first | omega | exact Nat.le_refl _⟩, ⟨by repeat (first | (with_reducible first | exact HB.out | apply below_alloc | apply pw_below_drewN | apply below_drew1) | exact HB.out)⟩⟩
    case rest =>
      clear HC7
      try clear c1
      try clear p2
      try clear c4
      try clear c5
      try clear c9
      try clear c10
      try clear c10b0
      try clear c11
      try clear c11b0
      try clear c12
      try clear c12b0
      try clear c13
      try clear c13b0
      try clear c14
      try clear c14b0
      obtain ⟨kq, x42_6, rfl, HA, HJ6, HB⟩ := hcut
      cases kq with
      | zero => exact absurd HA.out (by simp [hawalalaw01_MoneyConvert.j0])
      | succ kj6 =>
        have H := HA.out
        clear HA
        simp only [hawalalaw01_MoneyConvert.j0] at H
        by_cases c15 : x42_6 = true
        · subst c15
          have H1 : (if t127 = 0 then (if t128 = 0 then ((api_Number.f t129).bind fun t130 => (if t130 = 13 then ((money_Amount.f a0).bind fun t131 => (if a0 ≥ 1 then (some (t131 == (decide (a0 ≤ 1099511627776)))) else (some (t131 == false)))) else (some false))) else (some false)) else (some false)) = some r := by rw [if_pos rfl] at H; exact H
          clear H
          have H := H1
          clear H1
          by_cases c16 : t127 = 0
          · rw [if_pos c16] at H
            have c16b0 : (t127 == 0) = true := beq_iff_eq.mpr c16
            have c16b1 : (t127 != 0) = false := bne_eq_false_iff_eq.mpr c16
            clear c16
            by_cases c17 : t128 = 0
            · rw [if_pos c17] at H
              have c17b0 : (t128 == 0) = true := beq_iff_eq.mpr c17
              have c17b1 : (t128 != 0) = false := bne_eq_false_iff_eq.mpr c17
              clear c17
              replace H := Option.bind_eq_some_iff.mp H
              obtain ⟨t130, A180, H⟩ := H
              replace H : (if t130 = 13 then ((money_Amount.f a0).bind fun t131 => (if a0 ≥ 1 then (some (t131 == (decide (a0 ≤ 1099511627776)))) else (some (t131 == false)))) else (some false)) = some r := H
              have A18 := Aside0.mk A180
              clear A180
              by_cases c19 : t130 = 13
              · rw [if_pos c19] at H
                have c19b0 : (t130 == 13) = true := beq_iff_eq.mpr c19
                have c19b1 : (t130 != 13) = false := bne_eq_false_iff_eq.mpr c19
                clear c19
                replace H := Option.bind_eq_some_iff.mp H
                obtain ⟨t131, A200, H⟩ := H
                replace H : (if a0 ≥ 1 then (some (t131 == (decide (a0 ≤ 1099511627776)))) else (some (t131 == false))) = some r := H
                have A20 := Aside0.mk A200
                clear A200
                by_cases c21 : a0 ≥ 1
                · rw [if_pos c21] at H
                  have c21b0 : decide (1 ≤ a0) = true := decide_eq_true c21
                  clear c21
                  obtain rfl := Option.some.inj H
                  have CA18 := fun W (hg_ : As.GH W) => api_Number.calls t129 t130 W hg_ A18.out
                  try simp only [errW_none, errW_some] at CA18
                  go_wp2_with (first | (go_at_call 12; (with_reducible refine (CA18 _ ?side1).mono ?_); (case side1 => exact As.GH.step HG0.out (by repeat (first | (with_reducible first | exact HB.out | apply below_alloc | apply pw_below_drewN | apply below_drew1) | exact HB.out))); rintro e w22 ⟨rfl, hb⟩; have n0_ := Aside0.mk (below_step (by repeat (first | (with_reducible first | exact HB.out | apply below_alloc | apply pw_below_drewN | apply below_drew1) | exact HB.out)) hb); clear HB; have HB := n0_; clear n0_; (try clear hb); (try clear hb2); (try clear hk); (try clear hi)) | (go_at_call 15; (with_reducible refine (money_Amount.calls a0 t131 _ A20.out).mono ?_); rintro e w' ⟨rfl, ⟨nd, rfl⟩⟩))
                  go_ret
                  exact ⟨by first | rfl | (simp [errW_none, errW_some] <;> rfl) | (simp [*, errW_none, errW_some] <;> rfl), by repeat (first | (with_reducible first | exact HB.out | apply below_alloc | apply pw_below_drewN | apply below_drew1) | exact HB.out)⟩
                · rw [if_neg c21] at H
                  have c21b0 : decide (1 ≤ a0) = false := decide_eq_false c21
                  clear c21
                  obtain rfl := Option.some.inj H
                  have CA18 := fun W (hg_ : As.GH W) => api_Number.calls t129 t130 W hg_ A18.out
                  try simp only [errW_none, errW_some] at CA18
                  go_wp2_with (first | (go_at_call 12; (with_reducible refine (CA18 _ ?side1).mono ?_); (case side1 => exact As.GH.step HG0.out (by repeat (first | (with_reducible first | exact HB.out | apply below_alloc | apply pw_below_drewN | apply below_drew1) | exact HB.out))); rintro e w23 ⟨rfl, hb⟩; have n0_ := Aside0.mk (below_step (by repeat (first | (with_reducible first | exact HB.out | apply below_alloc | apply pw_below_drewN | apply below_drew1) | exact HB.out)) hb); clear HB; have HB := n0_; clear n0_; (try clear hb); (try clear hb2); (try clear hk); (try clear hi)) | (go_at_call 15; (with_reducible refine (money_Amount.calls a0 t131 _ A20.out).mono ?_); rintro e w' ⟨rfl, ⟨nd, rfl⟩⟩))
                  go_ret
                  exact ⟨by first | rfl | (simp [errW_none, errW_some] <;> rfl) | (simp [*, errW_none, errW_some] <;> rfl), by repeat (first | (with_reducible first | exact HB.out | apply below_alloc | apply pw_below_drewN | apply below_drew1) | exact HB.out)⟩
              · rw [if_neg c19] at H
                have c19b0 : (t130 == 13) = false := beq_eq_false_iff_ne.mpr c19
                have c19b1 : (t130 != 13) = true := bne_iff_ne.mpr c19
                obtain rfl := Option.some.inj H
                have CA18 := fun W (hg_ : As.GH W) => api_Number.calls t129 t130 W hg_ A18.out
                try simp only [errW_none, errW_some] at CA18
                go_wp2_with (first | (go_at_call 12; (with_reducible refine (CA18 _ ?side1).mono ?_); (case side1 => exact As.GH.step HG0.out (by repeat (first | (with_reducible first | exact HB.out | apply below_alloc | apply pw_below_drewN | apply below_drew1) | exact HB.out))); rintro e w24 ⟨rfl, hb⟩; have n0_ := Aside0.mk (below_step (by repeat (first | (with_reducible first | exact HB.out | apply below_alloc | apply pw_below_drewN | apply below_drew1) | exact HB.out)) hb); clear HB; have HB := n0_; clear n0_; (try clear hb); (try clear hb2); (try clear hk); (try clear hi)))
                go_ret
                exact ⟨by first | rfl | (simp [errW_none, errW_some] <;> rfl) | (simp [*, errW_none, errW_some] <;> rfl), by repeat (first | (with_reducible first | exact HB.out | apply below_alloc | apply pw_below_drewN | apply below_drew1) | exact HB.out)⟩
            · rw [if_neg c17] at H
              have c17b0 : (t128 == 0) = false := beq_eq_false_iff_ne.mpr c17
              have c17b1 : (t128 != 0) = true := bne_iff_ne.mpr c17
              obtain rfl := Option.some.inj H
              go_wp2
              go_ret
              exact ⟨by first | rfl | (simp [errW_none, errW_some] <;> rfl) | (simp [*, errW_none, errW_some] <;> rfl), by repeat (first | (with_reducible first | exact HB.out | apply below_alloc | apply pw_below_drewN | apply below_drew1) | exact HB.out)⟩
          · rw [if_neg c16] at H
            have c16b0 : (t127 == 0) = false := beq_eq_false_iff_ne.mpr c16
            have c16b1 : (t127 != 0) = true := bne_iff_ne.mpr c16
            obtain rfl := Option.some.inj H
            go_wp2
            go_ret
            exact ⟨by first | rfl | (simp [errW_none, errW_some] <;> rfl) | (simp [*, errW_none, errW_some] <;> rfl), by repeat (first | (with_reducible first | exact HB.out | apply below_alloc | apply pw_below_drewN | apply below_drew1) | exact HB.out)⟩
        · replace c15 := Bool.eq_false_iff.mpr c15
          subst c15
          have H1 : (if a2 = 0 then (none) else (if (wrap64 (Int.tdiv (wrap64 (a0 * a1)) a2)) > 1099511627776 then (if t127 = 0 then (if t128 = 0 then ((api_Number.f t129).bind fun t132 => (some (t132 == 4))) else (some false)) else (some false)) else (if t129.isNone = true then (if t128 ≥ 0 then (if t128 < a2 then (some ((wrap64 ((wrap64 (t127 * a2)) + t128)) == (wrap64 (a0 * a1)))) else (some false)) else (some false)) else (some false)))) = some r := by rw [if_neg (show ¬ (false = true) by decide)] at H; exact H
          clear H
          have H := H1
          clear H1
          by_cases c25 : a2 = 0
          · rw [if_pos c25] at H
            exact absurd H (by simp)
          · rw [if_neg c25] at H
            have c25b0 : (a2 == 0) = false := beq_eq_false_iff_ne.mpr c25
            have c25b1 : (a2 != 0) = true := bne_iff_ne.mpr c25
            by_cases c26 : (wrap64 (Int.tdiv (wrap64 (a0 * a1)) a2)) > 1099511627776
            · rw [if_pos c26] at H
              have c26b0 : decide (1099511627776 < (wrap64 (Int.tdiv (wrap64 (a0 * a1)) a2))) = true := decide_eq_true c26
              clear c26
              by_cases c27 : t127 = 0
              · rw [if_pos c27] at H
                have c27b0 : (t127 == 0) = true := beq_iff_eq.mpr c27
                have c27b1 : (t127 != 0) = false := bne_eq_false_iff_eq.mpr c27
                clear c27
                by_cases c28 : t128 = 0
                · rw [if_pos c28] at H
                  have c28b0 : (t128 == 0) = true := beq_iff_eq.mpr c28
                  have c28b1 : (t128 != 0) = false := bne_eq_false_iff_eq.mpr c28
                  clear c28
                  replace H := Option.bind_eq_some_iff.mp H
                  obtain ⟨t132, A290, H⟩ := H
                  replace H : (some (t132 == 4)) = some r := H
                  have A29 := Aside0.mk A290
                  clear A290
                  obtain rfl := Option.some.inj H
                  have CA29 := fun W (hg_ : As.GH W) => api_Number.calls t129 t132 W hg_ A29.out
                  try simp only [errW_none, errW_some] at CA29
                  go_wp2_with (first | (go_at_call 12; (with_reducible refine (CA29 _ ?side1).mono ?_); (case side1 => exact As.GH.step HG0.out (by repeat (first | (with_reducible first | exact HB.out | apply below_alloc | apply pw_below_drewN | apply below_drew1) | exact HB.out))); rintro e w30 ⟨rfl, hb⟩; have n0_ := Aside0.mk (below_step (by repeat (first | (with_reducible first | exact HB.out | apply below_alloc | apply pw_below_drewN | apply below_drew1) | exact HB.out)) hb); clear HB; have HB := n0_; clear n0_; (try clear hb); (try clear hb2); (try clear hk); (try clear hi)))
                  go_ret
                  exact ⟨by first | rfl | (simp [errW_none, errW_some] <;> rfl) | (simp [*, errW_none, errW_some] <;> rfl), by repeat (first | (with_reducible first | exact HB.out | apply below_alloc | apply pw_below_drewN | apply below_drew1) | exact HB.out)⟩
                · rw [if_neg c28] at H
                  have c28b0 : (t128 == 0) = false := beq_eq_false_iff_ne.mpr c28
                  have c28b1 : (t128 != 0) = true := bne_iff_ne.mpr c28
                  obtain rfl := Option.some.inj H
                  go_wp2
                  go_ret
                  exact ⟨by first | rfl | (simp [errW_none, errW_some] <;> rfl) | (simp [*, errW_none, errW_some] <;> rfl), by repeat (first | (with_reducible first | exact HB.out | apply below_alloc | apply pw_below_drewN | apply below_drew1) | exact HB.out)⟩
              · rw [if_neg c27] at H
                have c27b0 : (t127 == 0) = false := beq_eq_false_iff_ne.mpr c27
                have c27b1 : (t127 != 0) = true := bne_iff_ne.mpr c27
                obtain rfl := Option.some.inj H
                go_wp2
                go_ret
                exact ⟨by first | rfl | (simp [errW_none, errW_some] <;> rfl) | (simp [*, errW_none, errW_some] <;> rfl), by repeat (first | (with_reducible first | exact HB.out | apply below_alloc | apply pw_below_drewN | apply below_drew1) | exact HB.out)⟩
            · rw [if_neg c26] at H
              have c26b0 : decide (1099511627776 < (wrap64 (Int.tdiv (wrap64 (a0 * a1)) a2))) = false := decide_eq_false c26
              clear c26
              rcases t129 with _ | q133
              · have H1 : (if t128 ≥ 0 then (if t128 < a2 then (some ((wrap64 ((wrap64 (t127 * a2)) + t128)) == (wrap64 (a0 * a1)))) else (some false)) else (some false)) = some r := by rw [if_pos (show (none : Option Int).isNone = true by rfl)] at H; exact H
                clear H
                have H := H1
                clear H1
                try simp only [errW_none, errW_some]
                by_cases c31 : t128 ≥ 0
                · rw [if_pos c31] at H
                  have c31b0 : decide (0 ≤ t128) = true := decide_eq_true c31
                  clear c31
                  by_cases c32 : t128 < a2
                  · rw [if_pos c32] at H
                    have c32b0 : decide (t128 < a2) = true := decide_eq_true c32
                    clear c32
                    obtain rfl := Option.some.inj H
                    go_wp2
                    go_ret
                    exact ⟨by first | rfl | (simp [errW_none, errW_some] <;> rfl) | (simp [*, errW_none, errW_some] <;> rfl), by repeat (first | (with_reducible first | exact HB.out | apply below_alloc | apply pw_below_drewN | apply below_drew1) | exact HB.out)⟩
                  · rw [if_neg c32] at H
                    have c32b0 : decide (t128 < a2) = false := decide_eq_false c32
                    clear c32
                    obtain rfl := Option.some.inj H
                    go_wp2
                    go_ret
                    exact ⟨by first | rfl | (simp [errW_none, errW_some] <;> rfl) | (simp [*, errW_none, errW_some] <;> rfl), by repeat (first | (with_reducible first | exact HB.out | apply below_alloc | apply pw_below_drewN | apply below_drew1) | exact HB.out)⟩
                · rw [if_neg c31] at H
                  have c31b0 : decide (0 ≤ t128) = false := decide_eq_false c31
                  clear c31
                  obtain rfl := Option.some.inj H
                  go_wp2
                  go_ret
                  exact ⟨by first | rfl | (simp [errW_none, errW_some] <;> rfl) | (simp [*, errW_none, errW_some] <;> rfl), by repeat (first | (with_reducible first | exact HB.out | apply below_alloc | apply pw_below_drewN | apply below_drew1) | exact HB.out)⟩
              · have H1 : (some false) = some r := by rw [if_neg (show ¬ (some q133).isNone = true by simp)] at H; exact H
                clear H
                have H := H1
                clear H1
                try simp only [errW_none, errW_some]
                obtain rfl := Option.some.inj H
                go_wp2
                go_ret
                exact ⟨by first | rfl | (simp [errW_none, errW_some] <;> rfl) | (simp [*, errW_none, errW_some] <;> rfl), by repeat (first | (with_reducible first | exact HB.out | apply below_alloc | apply pw_below_drewN | apply below_drew1) | exact HB.out)⟩
  · replace c5 := Bool.eq_false_iff.mpr c5
    subst c5
    have H1 : (some false) = some r := by rw [if_neg (show ¬ (false = true) by decide)] at H; exact H
    clear H
    have H := H1
    clear H1
    obtain rfl := Option.some.inj H
    go_enter Tryd.func4, Tryd.ntmps4
    go_wp2_with (first | ((with_reducible refine gate_callee (f := 9) rfl ?_); refine goesL_ (some 10) rfl rfl Tryd.func9 (by kernel_rfl) rfl #[] rfl (by (try simp only [List.map_toArray, List.map_cons, List.map_nil]); first | done | rfl | (simp only [List.length_drop, List.length_take]; rfl)) ?_; (with_reducible refine (hawalalaw01_awake.calls k  false _ ?side1 A4.out).mono ?_); (case side1 => exact As.GH.step HG0.out (by repeat (first | (with_reducible first | exact HB.out | apply below_alloc | apply pw_below_drewN | apply below_drew1) | exact HB.out))); rintro e w33 ⟨rfl, hb⟩; refine ⟨_, rfl, ?_⟩; have n0_ := Aside0.mk (below_step (by repeat (first | (with_reducible first | exact HB.out | apply below_alloc | apply pw_below_drewN | apply below_drew1) | exact HB.out)) hb); clear HB; have HB := n0_; clear n0_; (try clear hb); (try clear hb2); (try clear hk); (try clear hi)))
    go_ret
    exact ⟨by first | rfl | (simp [errW_none, errW_some] <;> rfl) | (simp [*, errW_none, errW_some] <;> rfl), by repeat (first | (with_reducible first | exact HB.out | apply below_alloc | apply pw_below_drewN | apply below_drew1) | exact HB.out)⟩

/-- THE ONE PURE STATEMENT of hawalalaw01_MoneyConvert: yours. -/
def hawalalaw01_MoneyConvert.Pure : Prop := ∀ (a0 : Int) (a1 : Int) (a2 : Int), (Lit.int .i64 a0).wf = true → (Lit.int .i64 a1).wf = true → (Lit.int .i64 a2).wf = true → ∃ k, hawalalaw01_MoneyConvert.f k a0 a1 a2 = some true

end Go.Proofs.YtbgofpibjdgohaaDoor.PAll
