/- What each Go function computes, as a plain Lean function, and the proof that the machine comes to it; for every input. Laid by wip/tools of this session over the kit's print, with small turns of ours. Not trusted: Lean checks it. -/
import Derived.Test.YtdnaeganhnnffaaPAllx0
import Derived.Test.YtdnaeganhnnffaaPAllx1
namespace Go.Proofs.Ytdnaeganhnnffaa.PAll
open Go.RowKit Go.Proofs.YtdnaeganhnnffaaW.PrintWords Go.Proofs.YtdnaeganhnnffaaW.PrintLast Go.Proofs.YtdnaeganhnnffaaW.PrintMore
attribute [local go_sem] max2_int min2_int max_two min_two max_three min_three max_four min_four   -- for this text's walks alone
set_option linter.unusedVariables false
set_option linter.unusedSimpArgs false

/-! ### hawalalaw03_CrcTurned: function 4 -/
def hawalalaw03_CrcTurned.f (k : Nat) (l0 : List Int) (a1 : Int) (a2 : Int) : Option (Bool) := (hawalalaw03_awake.f k).bind fun t111 => (if t111 = true then (if (l0.length : Int) = 0 then ((crc_Sum.f k l0).bind fun t112 => (some (t112 == 0))) else (if ([] : List Int).length + l0.length < 140737488355328 then ((some (([] : List Int) ++ l0 : List Int)).bind fun y113 => (if (y113.length : Int) = 0 then (none) else (if 0 ≤ (Int.tmod (wrap64 (a1)) (y113.length : Int)) then (if (Int.tmod (wrap64 (a1)) (y113.length : Int)) < (y113.length : Int) then ((crc_Sum.f k l0).bind fun t118 => ((crc_Sum.f k (y113.set ((Int.tmod (wrap64 (a1)) (y113.length : Int)) : Int).toNat (Go.bits .xor .u8 (rd y113 (Int.tmod (wrap64 (a1)) (y113.length : Int))) a2))).bind fun t119 => (some ((t118 == t119) == (a2 == 0))))) else (none)) else (none)))) else (none))) else (some false))
theorem hawalalaw03_CrcTurned.mono : ∀ a0 a1 a2 k, LeO (hawalalaw03_CrcTurned.f k a0 a1 a2) (hawalalaw03_CrcTurned.f (k + 1) a0 a1 a2) := by
  intro a0 a1 a2 k
  unfold hawalalaw03_CrcTurned.f
  repeat' first
      | (with_reducible exact crc_Sum.mono _ _)
      | (with_reducible exact hawalalaw03_awake.mono _)
      | (with_reducible exact LeO.refl _)
      | (with_reducible exact LeO.none _)
      | (with_reducible refine LeO.ite ?_ ?_)
      | (with_reducible refine LeO.bind ?_ (fun _ => ?_))
      | exact crc_Sum.mono _ _
      | exact hawalalaw03_awake.mono _
      | exact LeO.none _
      | refine LeO.ite ?_ ?_
      | refine LeO.bind ?_ (fun _ => ?_)
set_option maxHeartbeats 8000000 in
set_option maxRecDepth 100000 in
theorem hawalalaw03_CrcTurned.calls (k : Nat) (A0 : Option Addr) (c0 : Nat) (l0 : List Int) (a1 : Int) (a2 : Int) (r : Bool) (w : World) (hr0 : Kd.C (Kd.int .u8) w A0 l0.length l0) (hc0 : l0.length ≤ c0) (h : hawalalaw03_CrcTurned.f k l0 a1 a2 = some r) :
    Calls Try.prog 4 #[.slice A0 l0.length c0, .int .u16 a1, .int .u8 a2] w fun e w' => e = .returned (.bool r) ∧ Below w.heap.size w w' := by
  have HR0 := Aside0.mk hr0
  have HC0 := Aside0.mk hc0
  clear hr0 hc0
  have HB := Aside0.mk (Below.refl w.heap.size w)
  have H : ((hawalalaw03_awake.f k).bind fun t111 => (if t111 = true then (if (l0.length : Int) = 0 then ((crc_Sum.f k l0).bind fun t112 => (some (t112 == 0))) else (if ([] : List Int).length + l0.length < 140737488355328 then ((some (([] : List Int) ++ l0 : List Int)).bind fun y113 => (if (y113.length : Int) = 0 then (none) else (if 0 ≤ (Int.tmod (wrap64 (a1)) (y113.length : Int)) then (if (Int.tmod (wrap64 (a1)) (y113.length : Int)) < (y113.length : Int) then ((crc_Sum.f k l0).bind fun t118 => ((crc_Sum.f k (y113.set ((Int.tmod (wrap64 (a1)) (y113.length : Int)) : Int).toNat (Go.bits .xor .u8 (rd y113 (Int.tmod (wrap64 (a1)) (y113.length : Int))) a2))).bind fun t119 => (some ((t118 == t119) == (a2 == 0))))) else (none)) else (none)))) else (none))) else (some false))) = some r := h
  clear h
  replace H := Option.bind_eq_some_iff.mp H
  obtain ⟨t111, A40, H⟩ := H
  replace H : (if t111 = true then (if (l0.length : Int) = 0 then ((crc_Sum.f k l0).bind fun t112 => (some (t112 == 0))) else (if ([] : List Int).length + l0.length < 140737488355328 then ((some (([] : List Int) ++ l0 : List Int)).bind fun y113 => (if (y113.length : Int) = 0 then (none) else (if 0 ≤ (Int.tmod (wrap64 (a1)) (y113.length : Int)) then (if (Int.tmod (wrap64 (a1)) (y113.length : Int)) < (y113.length : Int) then ((crc_Sum.f k l0).bind fun t118 => ((crc_Sum.f k (y113.set ((Int.tmod (wrap64 (a1)) (y113.length : Int)) : Int).toNat (Go.bits .xor .u8 (rd y113 (Int.tmod (wrap64 (a1)) (y113.length : Int))) a2))).bind fun t119 => (some ((t118 == t119) == (a2 == 0))))) else (none)) else (none)))) else (none))) else (some false)) = some r := H
  have A4 := Aside0.mk A40
  clear A40
  by_cases c5 : t111 = true
  · subst c5
    have H1 : (if (l0.length : Int) = 0 then ((crc_Sum.f k l0).bind fun t112 => (some (t112 == 0))) else (if ([] : List Int).length + l0.length < 140737488355328 then ((some (([] : List Int) ++ l0 : List Int)).bind fun y113 => (if (y113.length : Int) = 0 then (none) else (if 0 ≤ (Int.tmod (wrap64 (a1)) (y113.length : Int)) then (if (Int.tmod (wrap64 (a1)) (y113.length : Int)) < (y113.length : Int) then ((crc_Sum.f k l0).bind fun t118 => ((crc_Sum.f k (y113.set ((Int.tmod (wrap64 (a1)) (y113.length : Int)) : Int).toNat (Go.bits .xor .u8 (rd y113 (Int.tmod (wrap64 (a1)) (y113.length : Int))) a2))).bind fun t119 => (some ((t118 == t119) == (a2 == 0))))) else (none)) else (none)))) else (none))) = some r := by rw [if_pos rfl] at H; exact H
    clear H
    have H := H1
    clear H1
    by_cases c6 : (l0.length : Int) = 0
    · rw [if_pos c6] at H
      have c6b0 : ((l0.length : Int) == 0) = true := beq_iff_eq.mpr c6
      have c6b1 : ((l0.length : Int) != 0) = false := bne_eq_false_iff_eq.mpr c6
      clear c6
      replace H := Option.bind_eq_some_iff.mp H
      obtain ⟨t112, A70, H⟩ := H
      replace H : (some (t112 == 0)) = some r := H
      have A7 := Aside0.mk A70
      clear A70
      obtain rfl := Option.some.inj H
      go_enter Try.func4, Try.ntmps4
      go_wp2_with (first | ((with_reducible refine gate_callee (f := 9) rfl ?_); refine goesL_ (some 9) rfl rfl Try.func9 (by kernel_rfl) rfl #[] rfl (by (try simp only [List.map_toArray, List.map_cons, List.map_nil]); first | done | rfl | (simp only [List.length_drop, List.length_take]; rfl)) ?_; (with_reducible refine (hawalalaw03_awake.calls k  true _ A4.out).mono ?_); rintro e w8 ⟨rfl, hb⟩; refine ⟨_, rfl, ?_⟩; have n0_ := Aside0.mk (below_step (by repeat (first | (with_reducible first | exact HB.out | apply below_alloc | apply pw_below_drewN | apply below_drew1) | exact HB.out)) hb); clear HB; have HB := n0_; clear n0_; (try clear hb); (try clear hb2); (try clear hk); (try clear hi)) | ((with_reducible refine gate_callee (f := 10) rfl ?_); refine goesL_ (some 15) rfl rfl Try.func10 (by kernel_rfl) rfl #[.slice A0 l0.length c0] rfl (by (try simp only [List.map_toArray, List.map_cons, List.map_nil]); first | done | rfl | (simp only [List.length_drop, List.length_take]; rfl)) ?_; (with_reducible refine (crc_Sum.calls k _ _ l0 t112 _ ?side1 ?side2 A7.out).mono ?_); (case side1 => repeat (first | exact (Kd.C_below HR0.out HB.out) | (with_reducible refine Kd.C_alloc ?_ _) | (with_reducible refine Kd.C_drewN ?_ _) | (with_reducible refine Kd.C_drew ?_))); (case side2 => exact HC0.out); rintro e w' ⟨rfl, ⟨nd, rfl⟩⟩; refine ⟨_, rfl, ?_⟩))
      go_ret
      exact ⟨by first | rfl | (simp [errW_none, errW_some] <;> rfl) | (simp [*, errW_none, errW_some] <;> rfl), by repeat (first | (with_reducible first | exact HB.out | apply below_alloc | apply pw_below_drewN | apply below_drew1) | exact HB.out)⟩
    · rw [if_neg c6] at H
      have c6b0 : ((l0.length : Int) == 0) = false := beq_eq_false_iff_ne.mpr c6
      have c6b1 : ((l0.length : Int) != 0) = true := bne_iff_ne.mpr c6
      have c6b2 : ¬ (l0 = []) := fun h_ => c6 (by rw [h_]; rfl)
      by_cases c9 : ([] : List Int).length + l0.length < 140737488355328
      · rw [if_pos c9] at H
        have LMc9 := Aside0.mk c9
        clear c9
        obtain ⟨y113, hy113⟩ : ∃ y_ : List Int, y_ = (([] : List Int) ++ l0) := ⟨_, rfl⟩
        replace H : (if (y113.length : Int) = 0 then (none) else (if 0 ≤ (Int.tmod (wrap64 (a1)) (y113.length : Int)) then (if (Int.tmod (wrap64 (a1)) (y113.length : Int)) < (y113.length : Int) then ((crc_Sum.f k l0).bind fun t118 => ((crc_Sum.f k (y113.set ((Int.tmod (wrap64 (a1)) (y113.length : Int)) : Int).toNat (Go.bits .xor .u8 (rd y113 (Int.tmod (wrap64 (a1)) (y113.length : Int))) a2))).bind fun t119 => (some ((t118 == t119) == (a2 == 0))))) else (none)) else (none))) = some r := by first | (rw [hy113]; with_reducible exact H) | (have H2_ := (Option.bind_some _ _).symm.trans H; rw [hy113]; with_reducible exact H2_) | (have H2_ := (Option.bind_some _ _).symm.trans H; with_reducible exact H2_) | with_reducible exact H | (rw [hy113]; exact H) | exact H
        have Ny113 := Aside0.mk hy113
        clear hy113
        by_cases c10 : (y113.length : Int) = 0
        · rw [if_pos c10] at H
          exact absurd H (by simp)
        · rw [if_neg c10] at H
          have c10b0 : ((y113.length : Int) == 0) = false := beq_eq_false_iff_ne.mpr c10
          have c10b1 : ((y113.length : Int) != 0) = true := bne_iff_ne.mpr c10
          have c10b2 : ¬ (y113 = []) := fun h_ => c10 (by rw [h_]; rfl)
          obtain ⟨ji11, hji11⟩ : ∃ j_ : Int, (Int.tmod (wrap64 (a1)) (y113.length : Int)) = j_ := ⟨_, rfl⟩
          replace H : (if 0 ≤ (ji11) then (if (ji11) < (y113.length : Int) then ((crc_Sum.f k l0).bind fun t118 => ((crc_Sum.f k (y113.set ((ji11) : Int).toNat (Go.bits .xor .u8 (rd y113 (ji11)) a2))).bind fun t119 => (some ((t118 == t119) == (a2 == 0))))) else (none)) else (none)) = some r := by first | (rw [hji11] at H; exact H) | (simp only [hji11] at H ⊢; exact H)
          (try rw [hji11] at A4)
          by_cases c12 : 0 ≤ (ji11)
          · rw [if_pos c12] at H
            have c12b0 : decide (0 ≤ (ji11)) = true := decide_eq_true c12
            clear c12
            by_cases c13 : (ji11) < (y113.length : Int)
            · rw [if_pos c13] at H
              have c13b0 : decide ((ji11) < (y113.length : Int)) = true := decide_eq_true c13
              clear c13
              obtain ⟨y117, hy117⟩ : ∃ y_ : List Int, y_ = (y113.set ((ji11) : Int).toNat (Go.bits .xor .u8 (rd y113 (ji11)) a2)) := ⟨_, rfl⟩
              replace H : ((crc_Sum.f k l0).bind fun t118 => ((crc_Sum.f k y117).bind fun t119 => (some ((t118 == t119) == (a2 == 0))))) = some r := by first | (rw [hy117]; with_reducible exact H) | (have H2_ := (Option.bind_some _ _).symm.trans H; rw [hy117]; with_reducible exact H2_) | (have H2_ := (Option.bind_some _ _).symm.trans H; with_reducible exact H2_) | with_reducible exact H | (rw [hy117]; exact H) | exact H
              have Ny117 := Aside0.mk hy117
              clear hy117
              replace H := Option.bind_eq_some_iff.mp H
              obtain ⟨t118, A150, H⟩ := H
              replace H : ((crc_Sum.f k y117).bind fun t119 => (some ((t118 == t119) == (a2 == 0)))) = some r := H
              have A15 := Aside0.mk A150
              clear A150
              replace H := Option.bind_eq_some_iff.mp H
              obtain ⟨t119, A160, H⟩ := H
              replace H : (some ((t118 == t119) == (a2 == 0))) = some r := H
              have A16 := Aside0.mk A160
              clear A160
              obtain rfl := Option.some.inj H
              go_enter Try.func4, Try.ntmps4
              go_wp2_with (first | ((with_reducible refine gate_callee (f := 9) rfl ?_); refine goesL_ (some 9) rfl rfl Try.func9 (by kernel_rfl) rfl #[] rfl (by (try simp only [List.map_toArray, List.map_cons, List.map_nil]); first | done | rfl | (simp only [List.length_drop, List.length_take]; rfl)) ?_; (with_reducible refine (hawalalaw03_awake.calls k  true _ A4.out).mono ?_); rintro e w17 ⟨rfl, hb⟩; refine ⟨_, rfl, ?_⟩; have n0_ := Aside0.mk (below_step (by repeat (first | (with_reducible first | exact HB.out | apply below_alloc | apply pw_below_drewN | apply below_drew1) | exact HB.out)) hb); clear HB; have HB := n0_; clear n0_; (try clear hb); (try clear hb2); (try clear hk); (try clear hi)) | ((with_reducible refine gate_builtin (b := .append) (xs := #[.const (.slice none 0 0), .tmp 17]) rfl ?_); at_builtin; refine Kd.R_append_rows (Kd.int .u8) (w0 := w) w.heap.size rfl (.const (.slice none 0 0)) (.tmp 17) 22 5 (.int .u8 0) 1 rfl Try.underlying22 info5 rfl (by decide) (by omega) (.slice none 0 0) ([] : List Int) l0 _ _ _ (fun _ => True) (fun _ => False) rfl rfl ?aO ?aR (fun _ _ h => h) (fun _ h => h.elim) ?aF ?aB ?aS ?aL ?_; (case aR => repeat (first | exact (Kd.C_below HR0.out HB.out) | (with_reducible refine Kd.C_alloc ?_ _) | (with_reducible refine Kd.C_drewN ?_ _) | (with_reducible refine Kd.C_drew ?_))); (case aB => exact (by repeat (first | (with_reducible first | exact HB.out | apply below_alloc | apply pw_below_drewN | apply below_drew1) | exact HB.out))); (case aF => exact (fun _ _ => trivial)); (case aO => exact ((Kd.R_nil _ _ _ _ (fun _ => True)))); (case aS => exact (below_size (by repeat (first | (with_reducible first | exact HB.out | apply below_alloc | apply pw_below_drewN | apply below_drew1) | exact HB.out)))); (case aL => have := LMc9.out; omega); intro v114 w18 ho hb hg hat; rw [← Ny113.out] at ho; have n0_ := Aside0.mk (hb); have n1_ := Aside0.mk (ho); clear HB; have HB := n0_; have HO115 := n1_; clear n0_ n1_; clear ho hb hg hat; obtain ⟨Ao19, co19, eo19⟩ := Kd.R_slice HO115.out; subst eo19; have p116 : 0 ≤ ((ji11) : Int) := of_decide_eq_true (by first | (with_reducible assumption) | assumption); have q116 : (ji11) < (y113.length : Int) := of_decide_eq_true (by first | (with_reducible assumption) | assumption); obtain ⟨ad116, e116, hx116_0⟩ := Kd.at_int (Kd.R_reads' HO115.out).2.2 (ji11) p116 q116; cases e116; replace p116 := eq_true p116; replace q116 := eq_true q116; have p14 : 0 ≤ ((ji11) : Int) := of_decide_eq_true (by first | (with_reducible assumption) | assumption); have q14 : ((ji11) : Int) < ((y113.length : Int) : Int) := of_decide_eq_true (by first | (with_reducible assumption) | assumption); obtain ⟨go14, co14, eo14, gb14, gl14, cl14, HG14⟩ := Kd.R_form HO115.out (by omega); (first | cases eo14 | (injection eo14 with ea_ en_ ec_; (first | subst ea_ | (injection ea_ with ea_; subst ea_)); subst ec_; clear en_)); have GB14 := Aside0.mk gb14; have GG14 := Aside0.mk HG14; clear gb14 gl14 HG14; (first | simp only [add_plain] at hx116_0 | skip); obtain ⟨hx14_0, hf14_0⟩ := Kd.R_celln 0 HO115.out ((ji11) : Int) p14 q14; replace p14 := eq_true p14; replace q14 := eq_true q14; obtain ⟨hy20_, hz20_⟩ := Kd.R_celln 0 HO115.out ((ji11) : Int) (of_decide_eq_true (by first | (with_reducible assumption) | assumption)) (of_decide_eq_true (by first | (with_reducible assumption) | assumption)); have HP20 := Kd.R_putg HO115.out ((ji11) : Int) (Go.bits .xor .u8 (rd y113 (ji11)) a2)) | ((with_reducible refine gate_store (t := 5) (p := 32) rfl ?_); refine store_event (t := 5) (p := 32) (v := ?vo_w21) (w1 := (w18.setCell ⟨go14, ((ji11) : Int).toNat, none⟩ (.int .u8 (Go.bits .xor .u8 (rd y113 (ji11)) a2)))) ?hg ?ho ?hn ?hr ?_; (case ho => rfl); (case hg => rfl); (case hn => rfl); (case hr => first | (go_simp; done) | (go_simp; rfl)); intro w21 hw; have hg : w18.grownBy w21 (some go14) := (by rw [hw]; exact HP20.2); have hp_ : Kd.R (Kd.int .u8) 5 w21 w.heap.size (fun _ => True) (.slice (some ⟨go14, 0, none⟩) y113.length co19) y117 := (by rw [hw, Ny117.out]; exact HP20.1); clear HP20; have n0_ := Aside0.mk (hp_); have n1_ := Aside0.mk ((by rw [hw]; exact below_set (HB.out) GB14.out : Below w.heap.size w w21)); clear HO115; clear HB; have HO115 := n0_; have HB := n1_; clear n0_ n1_; clear hg hw hp_) | ((with_reducible refine gate_callee (f := 10) rfl ?_); refine goesL_ (some 34) rfl rfl Try.func10 (by kernel_rfl) rfl #[.slice A0 l0.length c0] rfl (by (try simp only [List.map_toArray, List.map_cons, List.map_nil]); first | done | rfl | (simp only [List.length_drop, List.length_take]; rfl)) ?_; (with_reducible refine (crc_Sum.calls k _ _ l0 t118 _ ?side1 ?side2 A15.out).mono ?_); (case side1 => repeat (first | exact (Kd.C_below HR0.out HB.out) | (with_reducible refine Kd.C_alloc ?_ _) | (with_reducible refine Kd.C_drewN ?_ _) | (with_reducible refine Kd.C_drew ?_))); (case side2 => exact HC0.out); rintro e w' ⟨rfl, ⟨nd, rfl⟩⟩; refine ⟨_, rfl, ?_⟩) | ((with_reducible refine gate_callee (f := 10) rfl ?_); refine goesL_ (some 36) rfl rfl Try.func10 (by kernel_rfl) rfl #[.slice (some ⟨go14, 0, none⟩) y117.length co19] rfl (by (try simp only [List.map_toArray, List.map_cons, List.map_nil]); first | done | (rw [show y117.length = y113.length from (Kd.R_reads' HO115.out).1.symm] <;> rfl) | rfl | (simp only [List.length_drop, List.length_take]; rfl)) ?_; (with_reducible refine (crc_Sum.calls k _ _ y117 t119 _ ?side1 ?side2 A16.out).mono ?_); (case side1 => repeat (first | exact (Kd.R_reads' HO115.out).2.2 | (with_reducible refine Kd.C_alloc ?_ _) | (with_reducible refine Kd.C_drewN ?_ _) | (with_reducible refine Kd.C_drew ?_))); (case side2 => rw [show y117.length = y113.length from (Kd.R_reads' HO115.out).1.symm]; exact (Kd.R_reads' HO115.out).2.1); rintro e w' ⟨rfl, ⟨nd, rfl⟩⟩; refine ⟨_, rfl, ?_⟩))
              go_ret
              exact ⟨by first | rfl | (simp [errW_none, errW_some] <;> rfl) | (simp only [← hji11]; first | rfl | (simp [errW_none, errW_some] <;> rfl)) | (simp [*, errW_none, errW_some] <;> rfl), by repeat (first | (with_reducible first | exact HB.out | apply below_alloc | apply pw_below_drewN | apply below_drew1) | exact HB.out)⟩
            · rw [if_neg c13] at H
              exact absurd H (by simp)
          · rw [if_neg c12] at H
            exact absurd H (by simp)
      · rw [if_neg c9] at H
        exact absurd H (by simp)
  · replace c5 := Bool.eq_false_iff.mpr c5
    subst c5
    have H1 : (some false) = some r := by rw [if_neg (show ¬ (false = true) by decide)] at H; exact H
    clear H
    have H := H1
    clear H1
    obtain rfl := Option.some.inj H
    go_enter Try.func4, Try.ntmps4
    go_wp2_with (first | ((with_reducible refine gate_callee (f := 9) rfl ?_); refine goesL_ (some 9) rfl rfl Try.func9 (by kernel_rfl) rfl #[] rfl (by (try simp only [List.map_toArray, List.map_cons, List.map_nil]); first | done | rfl | (simp only [List.length_drop, List.length_take]; rfl)) ?_; (with_reducible refine (hawalalaw03_awake.calls k  false _ A4.out).mono ?_); rintro e w22 ⟨rfl, hb⟩; refine ⟨_, rfl, ?_⟩; have n0_ := Aside0.mk (below_step (by repeat (first | (with_reducible first | exact HB.out | apply below_alloc | apply pw_below_drewN | apply below_drew1) | exact HB.out)) hb); clear HB; have HB := n0_; clear n0_; (try clear hb); (try clear hb2); (try clear hk); (try clear hi)))
    go_ret
    exact ⟨by first | rfl | (simp [errW_none, errW_some] <;> rfl) | (simp [*, errW_none, errW_some] <;> rfl), by repeat (first | (with_reducible first | exact HB.out | apply below_alloc | apply pw_below_drewN | apply below_drew1) | exact HB.out)⟩

/-- THE ONE PURE STATEMENT of hawalalaw03_CrcTurned: yours. -/
def hawalalaw03_CrcTurned.Pure : Prop := ∀ (l0 : List Int) (a1 : Int) (a2 : Int), (l0.length ≤ maxLen ∧ l0.length * 1 ≤ 140737488351232 ∧ ∀ x_ ∈ l0, (Lit.int .u8 x_).wf = true) → (Lit.int .u16 a1).wf = true → (Lit.int .u8 a2).wf = true → ∃ k, hawalalaw03_CrcTurned.f k l0 a1 a2 = some true

end Go.Proofs.Ytdnaeganhnnffaa.PAll
