/- What each Go function computes, as a plain Lean function, and the proof that the machine comes to it; for every input. Laid by wip/tools of this session over the kit's print, with small turns of ours. Not trusted: Lean checks it. -/
import Derived.Test.YtfbbcdkbgnmmcaaPAllx0
namespace Go.Proofs.Ytfbbcdkbgnmmcaa.PAll
open Go.Proofs.YtfbbcdkbgnmmcaaW
open Go.RowKit Go.Proofs.YtfbbcdkbgnmmcaaW.PrintWords Go.Proofs.YtfbbcdkbgnmmcaaW.PrintLast Go.Proofs.YtfbbcdkbgnmmcaaW.PrintMore
attribute [local go_sem] max2_int min2_int max_two min_two max_three min_three max_four min_four   -- for this text's walks alone
set_option linter.unusedVariables false
set_option linter.unusedSimpArgs false

/-! ### varint_Get: function 11 -/
mutual
def varint_Get.l0 : Nat → List Int → Int → Int → Option (Int × List Int × Bool)
  | 0, _, _, _ => none
  | k + 1, x0, x5, x6 => if x6 < (x0.length : Int) then (varint_Get.j1 k x0 x5 x6 (decide (x6 < 10))) else (varint_Get.j1 k x0 x5 x6 false)
def varint_Get.j1 : Nat → List Int → Int → Int → Bool → Option (Int × List Int × Bool)
  | 0, _, _, _, _ => none
  | k + 1, x0, x5, x6, x16 => if x16 = true then (if 0 ≤ x6 then (if x6 < (x0.length : Int) then (if x6 = 9 then (varint_Get.j2 k x0 x5 x6 (rd x0 x6) (decide ((rd x0 x6) > 1))) else (varint_Get.j2 k x0 x5 x6 (rd x0 x6) false)) else (none)) else (none)) else (some (0, ([] : List Int), false))
def varint_Get.j2 : Nat → List Int → Int → Int → Int → Bool → Option (Int × List Int × Bool)
  | 0, _, _, _, _, _ => none
  | k + 1, x0, x5, x6, x7, x28 => if x28 = true then (some (0, ([] : List Int), false)) else (if 0 ≤ (wrap64 (7 * x6)) then (if x7 ≥ 128 then (varint_Get.l0 k x0 (Go.bits .or .u64 x5 (shl .u64 (IntKind.u64.wrap (Go.bits .and .u8 x7 127)) (wrap64 (7 * x6)))) (wrap64 (x6 + 1))) else (if x6 > 0 then (varint_Get.j3 k x0 (Go.bits .or .u64 x5 (shl .u64 (IntKind.u64.wrap (Go.bits .and .u8 x7 127)) (wrap64 (7 * x6)))) x6 (x7 == 0)) else (varint_Get.j3 k x0 (Go.bits .or .u64 x5 (shl .u64 (IntKind.u64.wrap (Go.bits .and .u8 x7 127)) (wrap64 (7 * x6)))) x6 false))) else (none))
def varint_Get.j3 : Nat → List Int → Int → Int → Bool → Option (Int × List Int × Bool)
  | 0, _, _, _, _ => none
  | k + 1, x0, x5, x6, x44 => if x44 = true then (some (0, ([] : List Int), false)) else (if (Go.bits .and .u64 x5 1) = 1 then (if 0 ≤ (wrap64 (x6 + 1)) then (if (wrap64 (x6 + 1)) ≤ (x0.length : Int) then (some (Go.bits .xor .i64 (-1) (wrap64 (x5 / 2)), (x0.drop ((wrap64 (x6 + 1)) : Int).toNat), true)) else (none)) else (none)) else (if 0 ≤ (wrap64 (x6 + 1)) then (if (wrap64 (x6 + 1)) ≤ (x0.length : Int) then (some (wrap64 (x5 / 2), (x0.drop ((wrap64 (x6 + 1)) : Int).toNat), true)) else (none)) else (none)))
end
def varint_Get.f (k : Nat) (l0 : List Int) : Option (Int × List Int × Bool) := varint_Get.l0 k l0 0 0
theorem varint_Get.mono_l : ∀ k, (∀ y0 y1 y2, LeO (varint_Get.l0 k y0 y1 y2) (varint_Get.l0 (k + 1) y0 y1 y2)) ∧ (∀ y0 y1 y2 y3, LeO (varint_Get.j1 k y0 y1 y2 y3) (varint_Get.j1 (k + 1) y0 y1 y2 y3)) ∧ (∀ y0 y1 y2 y3 y4, LeO (varint_Get.j2 k y0 y1 y2 y3 y4) (varint_Get.j2 (k + 1) y0 y1 y2 y3 y4)) ∧ (∀ y0 y1 y2 y3, LeO (varint_Get.j3 k y0 y1 y2 y3) (varint_Get.j3 (k + 1) y0 y1 y2 y3))
  | 0 => ⟨fun _ _ _ r h => by simp [varint_Get.l0] at h, fun _ _ _ _ r h => by simp [varint_Get.j1] at h, fun _ _ _ _ _ r h => by simp [varint_Get.j2] at h, fun _ _ _ _ r h => by simp [varint_Get.j3] at h⟩
  | k + 1 => by
    obtain ⟨ih0, ih1, ih2, ih3⟩ := varint_Get.mono_l k
    refine ⟨?_, ?_, ?_, ?_⟩
    · intro y0 y1 y2
      unfold varint_Get.l0
      repeat' first
      | (with_reducible exact ih0 _ _ _)
      | (with_reducible exact ih1 _ _ _ _)
      | (with_reducible exact ih2 _ _ _ _ _)
      | (with_reducible exact ih3 _ _ _ _)
      | (with_reducible exact LeO.refl _)
      | (with_reducible exact LeO.none _)
      | (with_reducible refine LeO.ite ?_ ?_)
      | (with_reducible refine LeO.bind ?_ (fun _ => ?_))
      | exact ih0 _ _ _
      | exact ih1 _ _ _ _
      | exact ih2 _ _ _ _ _
      | exact ih3 _ _ _ _
      | exact LeO.none _
      | refine LeO.ite ?_ ?_
      | refine LeO.bind ?_ (fun _ => ?_)
    · intro y0 y1 y2 y3
      unfold varint_Get.j1
      repeat' first
      | (with_reducible exact ih0 _ _ _)
      | (with_reducible exact ih1 _ _ _ _)
      | (with_reducible exact ih2 _ _ _ _ _)
      | (with_reducible exact ih3 _ _ _ _)
      | (with_reducible exact LeO.refl _)
      | (with_reducible exact LeO.none _)
      | (with_reducible refine LeO.ite ?_ ?_)
      | (with_reducible refine LeO.bind ?_ (fun _ => ?_))
      | exact ih0 _ _ _
      | exact ih1 _ _ _ _
      | exact ih2 _ _ _ _ _
      | exact ih3 _ _ _ _
      | exact LeO.none _
      | refine LeO.ite ?_ ?_
      | refine LeO.bind ?_ (fun _ => ?_)
    · intro y0 y1 y2 y3 y4
      unfold varint_Get.j2
      repeat' first
      | (with_reducible exact ih0 _ _ _)
      | (with_reducible exact ih1 _ _ _ _)
      | (with_reducible exact ih2 _ _ _ _ _)
      | (with_reducible exact ih3 _ _ _ _)
      | (with_reducible exact LeO.refl _)
      | (with_reducible exact LeO.none _)
      | (with_reducible refine LeO.ite ?_ ?_)
      | (with_reducible refine LeO.bind ?_ (fun _ => ?_))
      | exact ih0 _ _ _
      | exact ih1 _ _ _ _
      | exact ih2 _ _ _ _ _
      | exact ih3 _ _ _ _
      | exact LeO.none _
      | refine LeO.ite ?_ ?_
      | refine LeO.bind ?_ (fun _ => ?_)
    · intro y0 y1 y2 y3
      unfold varint_Get.j3
      repeat' first
      | (with_reducible exact ih0 _ _ _)
      | (with_reducible exact ih1 _ _ _ _)
      | (with_reducible exact ih2 _ _ _ _ _)
      | (with_reducible exact ih3 _ _ _ _)
      | (with_reducible exact LeO.refl _)
      | (with_reducible exact LeO.none _)
      | (with_reducible refine LeO.ite ?_ ?_)
      | (with_reducible refine LeO.bind ?_ (fun _ => ?_))
      | exact ih0 _ _ _
      | exact ih1 _ _ _ _
      | exact ih2 _ _ _ _ _
      | exact ih3 _ _ _ _
      | exact LeO.none _
      | refine LeO.ite ?_ ?_
      | refine LeO.bind ?_ (fun _ => ?_)
theorem varint_Get.mono : ∀ a0 k, LeO (varint_Get.f k a0) (varint_Get.f (k + 1) a0) := by
  intro a0 k
  obtain ⟨ih0, ih1, ih2, ih3⟩ := varint_Get.mono_l k
  unfold varint_Get.f
  repeat' first
      | (with_reducible exact ih0 _ _ _)
      | (with_reducible exact ih1 _ _ _ _)
      | (with_reducible exact ih2 _ _ _ _ _)
      | (with_reducible exact ih3 _ _ _ _)
      | (with_reducible exact LeO.refl _)
      | (with_reducible exact LeO.none _)
      | (with_reducible refine LeO.ite ?_ ?_)
      | (with_reducible refine LeO.bind ?_ (fun _ => ?_))
      | exact ih0 _ _ _
      | exact ih1 _ _ _ _
      | exact ih2 _ _ _ _ _
      | exact ih3 _ _ _ _
      | exact LeO.none _
      | refine LeO.ite ?_ ?_
      | refine LeO.bind ?_ (fun _ => ?_)
set_option maxHeartbeats 8000000 in
set_option maxRecDepth 100000 in
theorem varint_Get.calls (k : Nat) (P0_ : Nat → Prop) (A0 : Option Addr) (c0 : Nat) (l0 : List Int) (r1 : Int) (r2 : List Int) (r3 : Bool) (w : World) (hs0 : Kd.V (Kd.int .u8) 5 w w.heap.size (fun k_ => P0_ k_) (.slice A0 l0.length c0) l0) (h : varint_Get.f k l0 = some (r1, r2, r3)) :
    Calls Try.prog 11 #[.slice A0 l0.length c0] w fun e w' => ∃ v1_ : Value, e = .returned (.tuple #[.int .i64 r1, v1_, .bool r3]) ∧ Kd.V (Kd.int .u8) 5 w' w.heap.size (fun k_ => (P0_ k_ ∨ w.heap.size ≤ k_)) v1_ r2 ∧ Below w.heap.size w w' := by
  have HO0 := Aside0.mk (show Kd.V (Kd.int .u8) 5 w w.heap.size (fun k_ => (P0_ k_ ∨ w.heap.size ≤ k_)) (.slice A0 l0.length c0) l0 from Kd.V_mono hs0 (fun k_ hk => .inl hk))
  have HB := Aside0.mk (Below.refl w.heap.size w)
  have H : (varint_Get.l0 k l0 0 0) = some (r1, r2, r3) := h
  clear h
  have H' := Aside0.mk H
  clear H
  go_enter Try.func11, Try.ntmps11
  go_wp2
  repeat (go_quiet (fail); try go_wp2)
  go_loopg [5, 6] k (fun kq v5 v6 w' => ∃ (x5_1 : Int) (x6_1 : Int), v5 = .int .u64 x5_1 ∧ v6 = .int .i64 x6_1 ∧ Aside0 (varint_Get.l0 kq l0 x5_1 x6_1 = some (r1, r2, r3)) ∧ Aside0 (kq ≤ k) ∧ Aside0 (Kd.V (Kd.int .u8) 5 w' w.heap.size (fun k_ => (P0_ k_ ∨ w.heap.size ≤ k_)) (.slice A0 l0.length c0) l0) ∧ Aside0 (Below w.heap.size w w'))
  case atStart => exact ⟨(0), (0), (by first | rfl | (simp; done) | (simp [*]; done)), (by first | rfl | (simp; done) | (simp [*]; done)), H', ⟨Nat.le_refl _⟩, ⟨by (with_reducible repeat (first | apply Kd.V_alloc | apply Kd.V_drewN | apply Kd.V_drew)); exact HO0.out⟩, ⟨by repeat (first | (with_reducible first | exact HB.out | apply below_alloc | apply pw_below_drewN | apply below_drew1) | exact HB.out)⟩⟩
  case round =>
    clear H'
    try clear c1
    obtain ⟨x5_1, x6_1, rfl, rfl, HA, HK1, HO_0, HB⟩ := hrel
    cases gk with
    | zero => exact absurd HA.out (by simp [varint_Get.l0])
    | succ k1 =>
      have H := HA.out
      clear HA
      simp only [varint_Get.l0] at H
      have HC2 := Aside0.mk H
      clear H
      go_upto_region 3 with (fail)
      repeat (go_quiet (fail); go_upto_region 3 with (fail))
      go_cut [16] (fun v16 wc => ∃ (kq : Nat) (x16_1 : Bool), v16 = .bool x16_1 ∧ Aside0 (varint_Get.j1 kq l0 x5_1 x6_1 x16_1 = some (r1, r2, r3)) ∧ Aside0 (kq ≤ k1) ∧ Aside0 (Kd.V (Kd.int .u8) 5 wc w.heap.size (fun k_ => (P0_ k_ ∨ w.heap.size ≤ k_)) (.slice A0 l0.length c0) l0) ∧ Aside0 (Below w.heap.size w wc))
      case first =>
        have H := HC2.out
        clear HC2
        by_cases c3 : x6_1 < (l0.length : Int)
        · rw [if_pos c3] at H
          have c3b0 : decide (x6_1 < (l0.length : Int)) = true := decide_eq_true c3
          clear c3
          (first | rw [c3b0] | (simp only [i64_w, i32_w]; rw [c3b0]) | skip)
          have H' := Aside0.mk H
          clear H
          go_wp2
          repeat (go_quiet (fail); try go_wp2)
          go_meet
          case rel => exact ⟨_, (decide (x6_1 < 10)), (by first | rfl | (simp; done) | (simp [*]; done)), H', ⟨by have := HK1.out; first | omega | exact Nat.le_refl _⟩, ⟨by (with_reducible repeat (first | apply Kd.V_alloc | apply Kd.V_drewN | apply Kd.V_drew)); exact HO_0.out⟩, ⟨by repeat (first | (with_reducible first | exact HB.out | apply below_alloc | apply pw_below_drewN | apply below_drew1) | exact HB.out)⟩⟩
        · rw [if_neg c3] at H
          have c3b0 : decide (x6_1 < (l0.length : Int)) = false := decide_eq_false c3
          clear c3
          (first | rw [c3b0] | (simp only [i64_w, i32_w]; rw [c3b0]) | skip)
          have H' := Aside0.mk H
          clear H
          go_wp2
          repeat (go_quiet (fail); try go_wp2)
          go_meet
          case rel => exact ⟨_, (false), (by first | rfl | (simp; done) | (simp [*]; done)), H', ⟨by have := HK1.out; first | omega | exact Nat.le_refl _⟩, ⟨by (with_reducible repeat (first | apply Kd.V_alloc | apply Kd.V_drewN | apply Kd.V_drew)); exact HO_0.out⟩, ⟨by repeat (first | (with_reducible first | exact HB.out | apply below_alloc | apply pw_below_drewN | apply below_drew1) | exact HB.out)⟩⟩
      case rest =>
        clear HC2
        try clear c1
        try clear p2
        try clear c3
        try clear c3b0
        obtain ⟨kq, x16_1, rfl, HA, HJ1, HO_0, HB⟩ := hcut
        cases kq with
        | zero => exact absurd HA.out (by simp [varint_Get.j1])
        | succ kj1 =>
          have H := HA.out
          clear HA
          simp only [varint_Get.j1] at H
          by_cases c4 : x16_1 = true
          · subst c4
            have H1 : (if 0 ≤ x6_1 then (if x6_1 < (l0.length : Int) then (if x6_1 = 9 then (varint_Get.j2 kj1 l0 x5_1 x6_1 (rd l0 x6_1) (decide ((rd l0 x6_1) > 1))) else (varint_Get.j2 kj1 l0 x5_1 x6_1 (rd l0 x6_1) false)) else (none)) else (none)) = some (r1, r2, r3) := by rw [if_pos rfl] at H; exact H
            clear H
            have H := H1
            clear H1
            by_cases c5 : 0 ≤ x6_1
            · rw [if_pos c5] at H
              have c5b0 : decide (0 ≤ x6_1) = true := decide_eq_true c5
              clear c5
              by_cases c6 : x6_1 < (l0.length : Int)
              · rw [if_pos c6] at H
                have c6b0 : decide (x6_1 < (l0.length : Int)) = true := decide_eq_true c6
                clear c6
                have HC7 := Aside0.mk H
                clear H
                have p130 : 0 ≤ (x6_1 : Int) := of_decide_eq_true (by first | (with_reducible assumption) | assumption)
                have q130 : x6_1 < (l0.length : Int) := of_decide_eq_true (by first | (with_reducible assumption) | assumption)
                obtain ⟨ad130, e130, hx130_0⟩ := Kd.at_int (Kd.V_reads' HO_0.out).2.2 x6_1 p130 q130
                cases e130
                replace p130 := eq_true p130
                replace q130 := eq_true q130
                go_upto_region 6 with (fail)
                repeat (go_quiet (fail); go_upto_region 6 with (fail))
                go_cut [28] (fun v28 wc => ∃ (kq : Nat) (x28_6 : Bool), v28 = .bool x28_6 ∧ Aside0 (varint_Get.j2 kq l0 x5_1 x6_1 (rd l0 x6_1) x28_6 = some (r1, r2, r3)) ∧ Aside0 (kq ≤ kj1) ∧ Aside0 (Kd.V (Kd.int .u8) 5 wc w.heap.size (fun k_ => (P0_ k_ ∨ w.heap.size ≤ k_)) (.slice (some ad130) l0.length c0) l0) ∧ Aside0 (Below w.heap.size w wc))
                case first =>
                  have H := HC7.out
                  clear HC7
                  by_cases c8 : x6_1 = 9
                  · rw [if_pos c8] at H
                    have c8b0 : (x6_1 == 9) = true := beq_iff_eq.mpr c8
                    have c8b1 : (x6_1 != 9) = false := bne_eq_false_iff_eq.mpr c8
                    clear c8
                    (first | rw [c8b0] | (simp only [i64_w, i32_w]; rw [c8b0]) | skip)
                    have H' := Aside0.mk H
                    clear H
                    go_wp2
                    repeat (go_quiet (fail); try go_wp2)
                    go_meet
                    case rel => exact ⟨_, (decide ((rd l0 x6_1) > 1)), (by first | rfl | (simp; done) | (simp [*]; done)), H', ⟨by have := HK1.out; have := HJ1.out; first | omega | exact Nat.le_refl _⟩, ⟨by (with_reducible repeat (first | apply Kd.V_alloc | apply Kd.V_drewN | apply Kd.V_drew)); exact HO_0.out⟩, ⟨by repeat (first | (with_reducible first | exact HB.out | apply below_alloc | apply pw_below_drewN | apply below_drew1) | exact HB.out)⟩⟩
                  · rw [if_neg c8] at H
                    have c8b0 : (x6_1 == 9) = false := beq_eq_false_iff_ne.mpr c8
                    have c8b1 : (x6_1 != 9) = true := bne_iff_ne.mpr c8
                    (first | rw [c8b0] | (simp only [i64_w, i32_w]; rw [c8b0]) | skip)
                    have H' := Aside0.mk H
                    clear H
                    go_wp2
                    repeat (go_quiet (fail); try go_wp2)
                    go_meet
                    case rel => exact ⟨_, (false), (by first | rfl | (simp; done) | (simp [*]; done)), H', ⟨by have := HK1.out; have := HJ1.out; first | omega | exact Nat.le_refl _⟩, ⟨by (with_reducible repeat (first | apply Kd.V_alloc | apply Kd.V_drewN | apply Kd.V_drew)); exact HO_0.out⟩, ⟨by repeat (first | (with_reducible first | exact HB.out | apply below_alloc | apply pw_below_drewN | apply below_drew1) | exact HB.out)⟩⟩
                case rest =>
                  clear HC7
                  try clear c1
                  try clear p1
                  try clear q1
                  try clear hx1
                  try clear p2
                  try clear c3
                  try clear c3b0
                  try clear c4
                  try clear c5
                  try clear c5b0
                  try clear c6
                  try clear c6b0
                  try clear c8
                  try clear c8b0
                  try clear c8b1
                  try clear hx130_0
                  try clear p130
                  try clear p2
                  try clear q130
                  obtain ⟨kq, x28_6, rfl, HA, HJ6, HO_0, HB⟩ := hcut
                  cases kq with
                  | zero => exact absurd HA.out (by simp [varint_Get.j2])
                  | succ kj6 =>
                    have H := HA.out
                    clear HA
                    simp only [varint_Get.j2] at H
                    by_cases c9 : x28_6 = true
                    · subst c9
                      have H1 : (some (0, ([] : List Int), false)) = some (r1, r2, r3) := by rw [if_pos rfl] at H; exact H
                      clear H
                      have H := H1
                      clear H1
                      simp only [Option.some.injEq, Prod.mk.injEq] at H
                      obtain ⟨rfl, rfl, rfl⟩ := H
                      go_wp2
                      repeat (go_quiet (fail); try go_wp2)
                      go_ret3
                      exact ⟨_, by first | rfl | (simp [errW_none, errW_some] <;> rfl) | (simp [*, errW_none, errW_some] <;> rfl), (by first | exact Kd.V_nil _ _ _ _ _ | exact Kd.R_V (Kd.R_nil _ _ _ _ _)), by repeat (first | (with_reducible first | exact HB.out | apply below_alloc | apply pw_below_drewN | apply below_drew1) | exact HB.out)⟩
                    · replace c9 := Bool.eq_false_iff.mpr c9
                      subst c9
                      have H1 : (if 0 ≤ (wrap64 (7 * x6_1)) then (if (rd l0 x6_1) ≥ 128 then (varint_Get.l0 kj6 l0 (Go.bits .or .u64 x5_1 (shl .u64 (IntKind.u64.wrap (Go.bits .and .u8 (rd l0 x6_1) 127)) (wrap64 (7 * x6_1)))) (wrap64 (x6_1 + 1))) else (if x6_1 > 0 then (varint_Get.j3 kj6 l0 (Go.bits .or .u64 x5_1 (shl .u64 (IntKind.u64.wrap (Go.bits .and .u8 (rd l0 x6_1) 127)) (wrap64 (7 * x6_1)))) x6_1 ((rd l0 x6_1) == 0)) else (varint_Get.j3 kj6 l0 (Go.bits .or .u64 x5_1 (shl .u64 (IntKind.u64.wrap (Go.bits .and .u8 (rd l0 x6_1) 127)) (wrap64 (7 * x6_1)))) x6_1 false))) else (none)) = some (r1, r2, r3) := by rw [if_neg (show ¬ (false = true) by decide)] at H; exact H
                      clear H
                      have H := H1
                      clear H1
                      obtain ⟨ji10, hji10⟩ : ∃ j_ : Int, (wrap64 (7 * x6_1)) = j_ := ⟨_, rfl⟩
                      replace H : (if 0 ≤ (ji10) then (if (rd l0 x6_1) ≥ 128 then (varint_Get.l0 kj6 l0 (Go.bits .or .u64 x5_1 (shl .u64 (IntKind.u64.wrap (Go.bits .and .u8 (rd l0 x6_1) 127)) (ji10))) (wrap64 (x6_1 + 1))) else (if x6_1 > 0 then (varint_Get.j3 kj6 l0 (Go.bits .or .u64 x5_1 (shl .u64 (IntKind.u64.wrap (Go.bits .and .u8 (rd l0 x6_1) 127)) (ji10))) x6_1 ((rd l0 x6_1) == 0)) else (varint_Get.j3 kj6 l0 (Go.bits .or .u64 x5_1 (shl .u64 (IntKind.u64.wrap (Go.bits .and .u8 (rd l0 x6_1) 127)) (ji10))) x6_1 false))) else (none)) = some (r1, r2, r3) := by first | (rw [hji10] at H; exact H) | exact H | (simp only [hji10] at H ⊢; exact H)
                      have hji10w : (IntKind.i64.wrap (7 * x6_1)) = ji10 := (i64_w _).trans hji10
                      by_cases c11 : 0 ≤ (ji10)
                      · rw [if_pos c11] at H
                        have c11b0 := eq_true c11
                        have c11b1 : decide (0 ≤ (ji10)) = true := decide_eq_true c11
                        clear c11
                        obtain ⟨ji12, hji12⟩ : ∃ j_ : Int, (shl .u64 (IntKind.u64.wrap (Go.bits .and .u8 (rd l0 x6_1) 127)) (ji10)) = j_ := ⟨_, rfl⟩
                        replace H : (if (rd l0 x6_1) ≥ 128 then (varint_Get.l0 kj6 l0 (Go.bits .or .u64 x5_1 (ji12)) (wrap64 (x6_1 + 1))) else (if x6_1 > 0 then (varint_Get.j3 kj6 l0 (Go.bits .or .u64 x5_1 (ji12)) x6_1 ((rd l0 x6_1) == 0)) else (varint_Get.j3 kj6 l0 (Go.bits .or .u64 x5_1 (ji12)) x6_1 false))) = some (r1, r2, r3) := by first | (rw [hji12] at H; exact H) | exact H | (simp only [hji12] at H ⊢; exact H)
                        have hji12_ : (IntKind.u64.wrap ((IntKind.u64.wrap (Go.bits .and .u8 (rd l0 x6_1) 127)) * 2 ^ min (ji10).toNat 64)) = ji12 := hji12
                        have hji12z : (ji10) ≤ 64 → (IntKind.u64.wrap ((IntKind.u64.wrap (Go.bits .and .u8 (rd l0 x6_1) 127)) * 2 ^ (ji10).toNat)) = ji12 := shl_small hji12
                        by_cases c13 : (rd l0 x6_1) ≥ 128
                        · rw [if_pos c13] at H
                          have c13b0 : decide (128 ≤ (rd l0 x6_1)) = true := decide_eq_true c13
                          clear c13
                          have H' := Aside0.mk H
                          clear H
                          go_wp2
                          repeat (go_quiet (fail); try go_wp2)
                          go_roundg kj6
                          case measure => have := HK1.out; have := HJ1.out; have := HJ6.out; omega
                          case rel => exact ⟨(Go.bits .or .u64 x5_1 (ji12)), (wrap64 (x6_1 + 1)), (by first | rfl | (simp; done) | (simp only [← hji12] <;> (first | rfl | simp)) | (simp [*]; done)), (by first | rfl | (simp; done) | (simp [*]; done)), H', ⟨by have := HK1.out; have := HJ1.out; have := HJ6.out; omega⟩, ⟨by (with_reducible repeat (first | apply Kd.V_alloc | apply Kd.V_drewN | apply Kd.V_drew)); exact HO_0.out⟩, ⟨by repeat (first | (with_reducible first | exact HB.out | apply below_alloc | apply pw_below_drewN | apply below_drew1) | exact HB.out)⟩⟩
                        · rw [if_neg c13] at H
                          have c13b0 : decide (128 ≤ (rd l0 x6_1)) = false := decide_eq_false c13
                          clear c13
                          have HC14 := Aside0.mk H
                          clear H
                          go_upto_region 9 with (fail)
                          repeat (go_quiet (fail); go_upto_region 9 with (fail))
                          go_cut [44] (fun v44 wc => ∃ (kq : Nat) (x44_13 : Bool), v44 = .bool x44_13 ∧ Aside0 (varint_Get.j3 kq l0 (Go.bits .or .u64 x5_1 (ji12)) x6_1 x44_13 = some (r1, r2, r3)) ∧ Aside0 (kq ≤ kj6) ∧ Aside0 (Kd.V (Kd.int .u8) 5 wc w.heap.size (fun k_ => (P0_ k_ ∨ w.heap.size ≤ k_)) (.slice (some ad130) l0.length c0) l0) ∧ Aside0 (Below w.heap.size w wc))
                          case first =>
                            have H := HC14.out
                            clear HC14
                            by_cases c15 : x6_1 > 0
                            · rw [if_pos c15] at H
                              have c15b0 : decide (0 < x6_1) = true := decide_eq_true c15
                              clear c15
                              (first | rw [c15b0] | (simp only [i64_w, i32_w]; rw [c15b0]) | skip)
                              have H' := Aside0.mk H
                              clear H
                              go_wp2
                              repeat (go_quiet (fail); try go_wp2)
                              go_meet
                              case rel => exact ⟨_, (((rd l0 x6_1) == 0)), (by first | rfl | (simp; done) | (simp [*]; done)), H', ⟨by have := HK1.out; have := HJ1.out; have := HJ6.out; first | omega | exact Nat.le_refl _⟩, ⟨by (with_reducible repeat (first | apply Kd.V_alloc | apply Kd.V_drewN | apply Kd.V_drew)); exact HO_0.out⟩, ⟨by repeat (first | (with_reducible first | exact HB.out | apply below_alloc | apply pw_below_drewN | apply below_drew1) | exact HB.out)⟩⟩
                            · rw [if_neg c15] at H
                              have c15b0 : decide (0 < x6_1) = false := decide_eq_false c15
                              clear c15
                              (first | rw [c15b0] | (simp only [i64_w, i32_w]; rw [c15b0]) | skip)
                              have H' := Aside0.mk H
                              clear H
                              go_wp2
                              repeat (go_quiet (fail); try go_wp2)
                              go_meet
                              case rel => exact ⟨_, (false), (by first | rfl | (simp; done) | (simp [*]; done)), H', ⟨by have := HK1.out; have := HJ1.out; have := HJ6.out; first | omega | exact Nat.le_refl _⟩, ⟨by (with_reducible repeat (first | apply Kd.V_alloc | apply Kd.V_drewN | apply Kd.V_drew)); exact HO_0.out⟩, ⟨by repeat (first | (with_reducible first | exact HB.out | apply below_alloc | apply pw_below_drewN | apply below_drew1) | exact HB.out)⟩⟩
                          case rest =>
                            clear HC14
                            try clear c1
                            try clear p1
                            try clear q1
                            try clear hx1
                            try clear p2
                            try clear c3
                            try clear c3b0
                            try clear c4
                            try clear c5
                            try clear c5b0
                            try clear c6
                            try clear c6b0
                            try clear p6
                            try clear c8
                            try clear c8b0
                            try clear c8b1
                            try clear c9
                            try clear c11
                            try clear c11b0
                            try clear c11b1
                            try clear c13
                            try clear c13b0
                            try clear p13
                            try clear q13
                            try clear hx13
                            try clear c15
                            try clear c15b0
                            try clear hx130_0
                            try clear p1
                            try clear p130
                            try clear p2
                            try clear q1
                            try clear q130
                            obtain ⟨kq, x44_13, rfl, HA, HJ13, HO_0, HB⟩ := hcut
                            cases kq with
                            | zero => exact absurd HA.out (by simp [varint_Get.j3])
                            | succ kj13 =>
                              have H := HA.out
                              clear HA
                              simp only [varint_Get.j3] at H
                              by_cases c16 : x44_13 = true
                              · subst c16
                                have H1 : (some (0, ([] : List Int), false)) = some (r1, r2, r3) := by rw [if_pos rfl] at H; exact H
                                clear H
                                have H := H1
                                clear H1
                                simp only [Option.some.injEq, Prod.mk.injEq] at H
                                obtain ⟨rfl, rfl, rfl⟩ := H
                                go_wp2
                                repeat (go_quiet (fail); try go_wp2)
                                go_ret3
                                exact ⟨_, by first | rfl | (simp [errW_none, errW_some] <;> rfl) | (simp only [← hji10, ← hji12]; first | rfl | (simp [errW_none, errW_some] <;> rfl)) | (simp [*, errW_none, errW_some] <;> rfl), (by first | exact Kd.V_nil _ _ _ _ _ | exact Kd.R_V (Kd.R_nil _ _ _ _ _)), by repeat (first | (with_reducible first | exact HB.out | apply below_alloc | apply pw_below_drewN | apply below_drew1) | exact HB.out)⟩
                              · replace c16 := Bool.eq_false_iff.mpr c16
                                subst c16
                                have H1 : (if (Go.bits .and .u64 (Go.bits .or .u64 x5_1 (ji12)) 1) = 1 then (if 0 ≤ (wrap64 (x6_1 + 1)) then (if (wrap64 (x6_1 + 1)) ≤ (l0.length : Int) then (some (Go.bits .xor .i64 (-1) (wrap64 ((Go.bits .or .u64 x5_1 (ji12)) / 2)), (l0.drop ((wrap64 (x6_1 + 1)) : Int).toNat), true)) else (none)) else (none)) else (if 0 ≤ (wrap64 (x6_1 + 1)) then (if (wrap64 (x6_1 + 1)) ≤ (l0.length : Int) then (some (wrap64 ((Go.bits .or .u64 x5_1 (ji12)) / 2), (l0.drop ((wrap64 (x6_1 + 1)) : Int).toNat), true)) else (none)) else (none))) = some (r1, r2, r3) := by rw [if_neg (show ¬ (false = true) by decide)] at H; exact H
                                clear H
                                have H := H1
                                clear H1
                                by_cases c17 : (Go.bits .and .u64 (Go.bits .or .u64 x5_1 (ji12)) 1) = 1
                                · rw [if_pos c17] at H
                                  have c17b0 : ((Go.bits .and .u64 (Go.bits .or .u64 x5_1 (ji12)) 1) == 1) = true := beq_iff_eq.mpr c17
                                  have c17b1 : ((Go.bits .and .u64 (Go.bits .or .u64 x5_1 (ji12)) 1) != 1) = false := bne_eq_false_iff_eq.mpr c17
                                  clear c17
                                  obtain ⟨ji18, hji18⟩ : ∃ j_ : Int, (wrap64 (x6_1 + 1)) = j_ := ⟨_, rfl⟩
                                  replace H : (if 0 ≤ (ji18) then (if (ji18) ≤ (l0.length : Int) then (some (Go.bits .xor .i64 (-1) (wrap64 ((Go.bits .or .u64 x5_1 (ji12)) / 2)), (l0.drop ((ji18) : Int).toNat), true)) else (none)) else (none)) = some (r1, r2, r3) := by first | (rw [hji18] at H; exact H) | exact H | (simp only [hji18] at H ⊢; exact H)
                                  have hji18w : (IntKind.i64.wrap (x6_1 + 1)) = ji18 := (i64_w _).trans hji18
                                  by_cases c19 : 0 ≤ (ji18)
                                  · rw [if_pos c19] at H
                                    have c19b0 := eq_true c19
                                    have c19b1 : decide (0 ≤ (ji18)) = true := decide_eq_true c19
                                    clear c19
                                    by_cases c20 : (ji18) ≤ (l0.length : Int)
                                    · rw [if_pos c20] at H
                                      have c20b0 := eq_true c20
                                      have c20b1 : decide ((ji18) ≤ (l0.length : Int)) = true := decide_eq_true c20
                                      clear c20
                                      obtain ⟨y131, hy131⟩ : ∃ y_ : List Int, y_ = (l0.drop ((ji18) : Int).toNat) := ⟨_, rfl⟩
                                      replace H : (some (Go.bits .xor .i64 (-1) (wrap64 ((Go.bits .or .u64 x5_1 (ji12)) / 2)), y131, true)) = some (r1, r2, r3) := by first | (rw [hy131]; with_reducible exact H) | (have H2_ := (Option.bind_some _ _).symm.trans H; rw [hy131]; with_reducible exact H2_) | (have H2_ := (Option.bind_some _ _).symm.trans H; with_reducible exact H2_) | with_reducible exact H | (rw [hy131]; exact H) | exact H
                                      have Ny131 := Aside0.mk hy131
                                      clear hy131
                                      simp only [Option.some.injEq, Prod.mk.injEq] at H
                                      obtain ⟨rfl, rfl, rfl⟩ := H
                                      have q21 : ((ji18) : Int) ≤ ((l0.length : Int) : Int) := of_decide_eq_true (by first | (with_reducible assumption) | assumption)
                                      obtain ⟨i021, hi021, _, hsz21, _⟩ := info_parts info5
                                      have hroom21 : l0.length ≤ c0 := (Kd.V_reads' HO_0.out).2.1
                                      have hC21 : Kd.F (Kd.int .u8) _ _ (some ad130) l0.length l0 := (Kd.V_at (base := w.heap.size) HO_0.out).2.2
                                      have q021 : (0 : Int) ≤ ((ji18) : Int) := of_decide_eq_true (by first | (with_reducible assumption) | assumption)
                                      have hcut21 := cut_from (P := Try.prog) 23 5 .i64 Try.underlying23 hi021 1 hsz21 (some ad130) l0.length c0 (ji18) q021 q21
                                      have hr21 := Kd.F_cut (m := ((ji18) : Int).toNat) (c := c0) hC21 (by omega) hroom21
                                      obtain ⟨A21, hA21⟩ : ∃ A1, A1 = (if c0 = ((ji18) : Int).toNat then (some ad130) else ((some ad130) : Option Addr).map (·.add (((ji18) : Int).toNat * 1))) := ⟨_, rfl⟩
                                      obtain ⟨c21, hc21⟩ : ∃ c1, c1 = c0 - ((ji18) : Int).toNat := ⟨_, rfl⟩
                                      have hy21 : y131.length = l0.length - ((ji18) : Int).toNat := (by rw [Ny131.out, List.length_drop] <;> omega)
                                      rw [show (l0).drop ((ji18) : Int).toNat = y131 from Ny131.out.symm] at hr21
                                      replace hr21 : Kd.F (Kd.int .u8) _ _ A21 y131.length y131 := (by rw [hA21]; exact hr21)
                                      rw [← hy21, ← hA21, ← hc21] at hcut21
                                      have HO135 := Aside0.mk (show Kd.V (Kd.int .u8) 5 _ w.heap.size _ (.slice A21 y131.length c21) y131 from Kd.V_mk (by rw [hy21, hc21]; exact Nat.sub_le_sub_right hroom21 _) hr21)
                                      have HC135 := Aside0.mk (show y131.length ≤ c21 from by rw [hy21, hc21]; exact Nat.sub_le_sub_right hroom21 _)
                                      clear hr21 hC21 hroom21 hi021 hsz21 hc21
                                      have KY21 := Aside0.mk hy21
                                      have KA21 := Aside0.mk hA21
                                      clear hy21 hA21
                                      replace q21 := eq_true q21
                                      go_wp2
                                      repeat (go_quiet (fail); try go_wp2)
                                      go_ret3
                                      exact ⟨_, by first | rfl | (simp [errW_none, errW_some] <;> rfl) | (simp only [← hji10, ← hji12, ← hji18]; first | rfl | (simp [errW_none, errW_some] <;> rfl)) | (simp [*, errW_none, errW_some] <;> rfl), by (with_reducible repeat (first | apply Kd.V_alloc | apply Kd.V_drewN | apply Kd.V_drew)); exact HO135.out, by repeat (first | (with_reducible first | exact HB.out | apply below_alloc | apply pw_below_drewN | apply below_drew1) | exact HB.out)⟩
                                    · rw [if_neg c20] at H
                                      exact absurd H (by simp)
                                  · rw [if_neg c19] at H
                                    exact absurd H (by simp)
                                · rw [if_neg c17] at H
                                  have c17b0 : ((Go.bits .and .u64 (Go.bits .or .u64 x5_1 (ji12)) 1) == 1) = false := beq_eq_false_iff_ne.mpr c17
                                  have c17b1 : ((Go.bits .and .u64 (Go.bits .or .u64 x5_1 (ji12)) 1) != 1) = true := bne_iff_ne.mpr c17
                                  obtain ⟨ji22, hji22⟩ : ∃ j_ : Int, (wrap64 (x6_1 + 1)) = j_ := ⟨_, rfl⟩
                                  replace H : (if 0 ≤ (ji22) then (if (ji22) ≤ (l0.length : Int) then (some (wrap64 ((Go.bits .or .u64 x5_1 (ji12)) / 2), (l0.drop ((ji22) : Int).toNat), true)) else (none)) else (none)) = some (r1, r2, r3) := by first | (rw [hji22] at H; exact H) | exact H | (simp only [hji22] at H ⊢; exact H)
                                  have hji22w : (IntKind.i64.wrap (x6_1 + 1)) = ji22 := (i64_w _).trans hji22
                                  by_cases c23 : 0 ≤ (ji22)
                                  · rw [if_pos c23] at H
                                    have c23b0 := eq_true c23
                                    have c23b1 : decide (0 ≤ (ji22)) = true := decide_eq_true c23
                                    clear c23
                                    by_cases c24 : (ji22) ≤ (l0.length : Int)
                                    · rw [if_pos c24] at H
                                      have c24b0 := eq_true c24
                                      have c24b1 : decide ((ji22) ≤ (l0.length : Int)) = true := decide_eq_true c24
                                      clear c24
                                      obtain ⟨y136, hy136⟩ : ∃ y_ : List Int, y_ = (l0.drop ((ji22) : Int).toNat) := ⟨_, rfl⟩
                                      replace H : (some (wrap64 ((Go.bits .or .u64 x5_1 (ji12)) / 2), y136, true)) = some (r1, r2, r3) := by first | (rw [hy136]; with_reducible exact H) | (have H2_ := (Option.bind_some _ _).symm.trans H; rw [hy136]; with_reducible exact H2_) | (have H2_ := (Option.bind_some _ _).symm.trans H; with_reducible exact H2_) | with_reducible exact H | (rw [hy136]; exact H) | exact H
                                      have Ny136 := Aside0.mk hy136
                                      clear hy136
                                      simp only [Option.some.injEq, Prod.mk.injEq] at H
                                      obtain ⟨rfl, rfl, rfl⟩ := H
                                      have q25 : ((ji22) : Int) ≤ ((l0.length : Int) : Int) := of_decide_eq_true (by first | (with_reducible assumption) | assumption)
                                      obtain ⟨i025, hi025, _, hsz25, _⟩ := info_parts info5
                                      have hroom25 : l0.length ≤ c0 := (Kd.V_reads' HO_0.out).2.1
                                      have hC25 : Kd.F (Kd.int .u8) _ _ (some ad130) l0.length l0 := (Kd.V_at (base := w.heap.size) HO_0.out).2.2
                                      have q025 : (0 : Int) ≤ ((ji22) : Int) := of_decide_eq_true (by first | (with_reducible assumption) | assumption)
                                      have hcut25 := cut_from (P := Try.prog) 23 5 .i64 Try.underlying23 hi025 1 hsz25 (some ad130) l0.length c0 (ji22) q025 q25
                                      have hr25 := Kd.F_cut (m := ((ji22) : Int).toNat) (c := c0) hC25 (by omega) hroom25
                                      obtain ⟨A25, hA25⟩ : ∃ A1, A1 = (if c0 = ((ji22) : Int).toNat then (some ad130) else ((some ad130) : Option Addr).map (·.add (((ji22) : Int).toNat * 1))) := ⟨_, rfl⟩
                                      obtain ⟨c25, hc25⟩ : ∃ c1, c1 = c0 - ((ji22) : Int).toNat := ⟨_, rfl⟩
                                      have hy25 : y136.length = l0.length - ((ji22) : Int).toNat := (by rw [Ny136.out, List.length_drop] <;> omega)
                                      rw [show (l0).drop ((ji22) : Int).toNat = y136 from Ny136.out.symm] at hr25
                                      replace hr25 : Kd.F (Kd.int .u8) _ _ A25 y136.length y136 := (by rw [hA25]; exact hr25)
                                      rw [← hy25, ← hA25, ← hc25] at hcut25
                                      have HO140 := Aside0.mk (show Kd.V (Kd.int .u8) 5 _ w.heap.size _ (.slice A25 y136.length c25) y136 from Kd.V_mk (by rw [hy25, hc25]; exact Nat.sub_le_sub_right hroom25 _) hr25)
                                      have HC140 := Aside0.mk (show y136.length ≤ c25 from by rw [hy25, hc25]; exact Nat.sub_le_sub_right hroom25 _)
                                      clear hr25 hC25 hroom25 hi025 hsz25 hc25
                                      have KY25 := Aside0.mk hy25
                                      have KA25 := Aside0.mk hA25
                                      clear hy25 hA25
                                      replace q25 := eq_true q25
                                      go_wp2
                                      repeat (go_quiet (fail); try go_wp2)
                                      go_ret3
                                      exact ⟨_, by first | rfl | (simp [errW_none, errW_some] <;> rfl) | (simp only [← hji10, ← hji12, ← hji22]; first | rfl | (simp [errW_none, errW_some] <;> rfl)) | (simp [*, errW_none, errW_some] <;> rfl), by (with_reducible repeat (first | apply Kd.V_alloc | apply Kd.V_drewN | apply Kd.V_drew)); exact HO140.out, by repeat (first | (with_reducible first | exact HB.out | apply below_alloc | apply pw_below_drewN | apply below_drew1) | exact HB.out)⟩
                                    · rw [if_neg c24] at H
                                      exact absurd H (by simp)
                                  · rw [if_neg c23] at H
                                    exact absurd H (by simp)
                      · rw [if_neg c11] at H
                        exact absurd H (by simp)
              · rw [if_neg c6] at H
                exact absurd H (by simp)
            · rw [if_neg c5] at H
              exact absurd H (by simp)
          · replace c4 := Bool.eq_false_iff.mpr c4
            subst c4
            have H1 : (some (0, ([] : List Int), false)) = some (r1, r2, r3) := by rw [if_neg (show ¬ (false = true) by decide)] at H; exact H
            clear H
            have H := H1
            clear H1
            simp only [Option.some.injEq, Prod.mk.injEq] at H
            obtain ⟨rfl, rfl, rfl⟩ := H
            go_wp2
            repeat (go_quiet (fail); try go_wp2)
            go_ret3
            exact ⟨_, by first | rfl | (simp [errW_none, errW_some] <;> rfl) | (simp [*, errW_none, errW_some] <;> rfl), (by first | exact Kd.V_nil _ _ _ _ _ | exact Kd.R_V (Kd.R_nil _ _ _ _ _)), by repeat (first | (with_reducible first | exact HB.out | apply below_alloc | apply pw_below_drewN | apply below_drew1) | exact HB.out)⟩

end Go.Proofs.Ytfbbcdkbgnmmcaa.PAll
