/- What each Go function computes, as a plain Lean function, and the proof that the machine comes to it; for every input. Laid by wip/tools of this session over the kit's print, with small turns of ours. Not trusted: Lean checks it. -/
import Derived.Test.YtajeobncbcpllaaPAllx0
import Derived.Test.YtajeobncbcpllaaPAllx3
import Derived.Test.YtajeobncbcpllaaPAllx4
import Derived.Test.YtajeobncbcpllaaPAllx5
import Derived.Test.YtajeobncbcpllaaPAllx11
namespace Go.Proofs.Ytajeobncbcpllaa.PAll
open Go.Proofs.YtajeobncbcpllaaW
open Go.RowKit Go.Proofs.YtajeobncbcpllaaW.PrintWords Go.Proofs.YtajeobncbcpllaaW.PrintLast Go.Proofs.YtajeobncbcpllaaW.PrintMore
attribute [local go_sem] max2_int min2_int max_two min_two max_three min_three max_four min_four   -- for this text's walks alone
set_option linter.unusedVariables false
set_option linter.unusedSimpArgs false

/-! ### hawalalaw07_ChartOf: function 7 -/
mutual
def hawalalaw07_ChartOf.j0 : Nat → Int → Int → Int → List (S27) → Int → Bool → Option (Bool)
  | 0, _, _, _, _, _, _ => none
  | k + 1, x1, x2, x3, x9, x10, x11 => if x11 = true then (if x1 < 9 then (hawalalaw07_ChartOf.j1 k x1 x2 x3 x9 (Int.tmod x1 3) x11) else (hawalalaw07_ChartOf.j1 k x1 x2 x3 x9 3 x11)) else (hawalalaw07_ChartOf.j1 k x1 x2 x3 x9 x10 x11)
def hawalalaw07_ChartOf.j1 : Nat → Int → Int → Int → List (S27) → Int → Bool → Option (Bool)
  | 0, _, _, _, _, _, _ => none
  | k + 1, x1, x2, x3, x9, x10, x11 => (chart_Of.f k x9 x1).bind fun bt197 => (if bt197.1 = x10 then (if (bt197.2 != x11) = true then (hawalalaw07_ChartOf.j2 k x2 x3 true) else ((chart_IsClient.f k x9 x1).bind fun t199 => (if x11 = true then (hawalalaw07_ChartOf.j2 k x2 x3 (t199 != (decide (x1 > 8)))) else (hawalalaw07_ChartOf.j2 k x2 x3 (t199 != false))))) else (hawalalaw07_ChartOf.j2 k x2 x3 true))
def hawalalaw07_ChartOf.j2 : Nat → Int → Int → Bool → Option (Bool)
  | 0, _, _, _ => none
  | k + 1, x2, x3, x56 => if x56 = true then (some false) else (if x2 ≥ 0 then (if x2 < 3 then (if x3 ≥ 0 then (hawalalaw07_ChartOf.j3 k x2 x3 (-1) (decide (x3 < 3))) else (hawalalaw07_ChartOf.j3 k x2 x3 (-1) false)) else (hawalalaw07_ChartOf.j3 k x2 x3 (-1) false)) else (hawalalaw07_ChartOf.j3 k x2 x3 (-1) false))
def hawalalaw07_ChartOf.j3 : Nat → Int → Int → Int → Bool → Option (Bool)
  | 0, _, _, _, _ => none
  | k + 1, x2, x3, x14, x70 => if x70 = true then ((chart_Number.f k x2 x3).bind fun t200 => (some (t200 == (wrap64 ((wrap64 (3 * x3)) + x2))))) else ((chart_Number.f k x2 x3).bind fun t201 => (some (t201 == x14)))
end
def hawalalaw07_ChartOf.f (k : Nat) (l0_0 : List Int) (l0_1 : List Int) (l0_2 : List Int) (a1 : Int) (a2 : Int) (a3 : Int) : Option (Bool) := (hawalalaw07_awake.f k).bind fun t193 => (if t193 = true then ((hawalalaw07_Book_Accounts.f k l0_0 l0_1 l0_2).bind fun t194 => (if a1 ≥ 0 then (hawalalaw07_ChartOf.j0 k a1 a2 a3 t194 0 (decide (a1 < (t194.length : Int)))) else (hawalalaw07_ChartOf.j0 k a1 a2 a3 t194 0 false))) else (some false))
theorem hawalalaw07_ChartOf.mono_l : ∀ k, (∀ y0 y1 y2 y3 y4 y5, LeO (hawalalaw07_ChartOf.j0 k y0 y1 y2 y3 y4 y5) (hawalalaw07_ChartOf.j0 (k + 1) y0 y1 y2 y3 y4 y5)) ∧ (∀ y0 y1 y2 y3 y4 y5, LeO (hawalalaw07_ChartOf.j1 k y0 y1 y2 y3 y4 y5) (hawalalaw07_ChartOf.j1 (k + 1) y0 y1 y2 y3 y4 y5)) ∧ (∀ y0 y1 y2, LeO (hawalalaw07_ChartOf.j2 k y0 y1 y2) (hawalalaw07_ChartOf.j2 (k + 1) y0 y1 y2)) ∧ (∀ y0 y1 y2 y3, LeO (hawalalaw07_ChartOf.j3 k y0 y1 y2 y3) (hawalalaw07_ChartOf.j3 (k + 1) y0 y1 y2 y3))
  | 0 => ⟨fun _ _ _ _ _ _ r h => by simp [hawalalaw07_ChartOf.j0] at h, fun _ _ _ _ _ _ r h => by simp [hawalalaw07_ChartOf.j1] at h, fun _ _ _ r h => by simp [hawalalaw07_ChartOf.j2] at h, fun _ _ _ _ r h => by simp [hawalalaw07_ChartOf.j3] at h⟩
  | k + 1 => by
    obtain ⟨ih0, ih1, ih2, ih3⟩ := hawalalaw07_ChartOf.mono_l k
    refine ⟨?_, ?_, ?_, ?_⟩
    · intro y0 y1 y2 y3 y4 y5
      unfold hawalalaw07_ChartOf.j0
      repeat' first
      | (with_reducible exact ih0 _ _ _ _ _ _)
      | (with_reducible exact ih1 _ _ _ _ _ _)
      | (with_reducible exact ih2 _ _ _)
      | (with_reducible exact ih3 _ _ _ _)
      | (with_reducible exact chart_IsClient.mono _ _ _)
      | (with_reducible exact chart_Number.mono _ _ _)
      | (with_reducible exact chart_Of.mono _ _ _)
      | (with_reducible exact hawalalaw07_Book_Accounts.mono _ _ _ _)
      | (with_reducible exact hawalalaw07_awake.mono _)
      | (with_reducible exact LeO.refl _)
      | (with_reducible exact LeO.none _)
      | (with_reducible refine LeO.ite ?_ ?_)
      | (with_reducible refine LeO.bind ?_ (fun _ => ?_))
      | exact ih0 _ _ _ _ _ _
      | exact ih1 _ _ _ _ _ _
      | exact ih2 _ _ _
      | exact ih3 _ _ _ _
      | exact chart_IsClient.mono _ _ _
      | exact chart_Number.mono _ _ _
      | exact chart_Of.mono _ _ _
      | exact hawalalaw07_Book_Accounts.mono _ _ _ _
      | exact hawalalaw07_awake.mono _
      | exact LeO.none _
      | refine LeO.ite ?_ ?_
      | refine LeO.bind ?_ (fun _ => ?_)
    · intro y0 y1 y2 y3 y4 y5
      unfold hawalalaw07_ChartOf.j1
      repeat' first
      | (with_reducible exact ih0 _ _ _ _ _ _)
      | (with_reducible exact ih1 _ _ _ _ _ _)
      | (with_reducible exact ih2 _ _ _)
      | (with_reducible exact ih3 _ _ _ _)
      | (with_reducible exact chart_IsClient.mono _ _ _)
      | (with_reducible exact chart_Number.mono _ _ _)
      | (with_reducible exact chart_Of.mono _ _ _)
      | (with_reducible exact hawalalaw07_Book_Accounts.mono _ _ _ _)
      | (with_reducible exact hawalalaw07_awake.mono _)
      | (with_reducible exact LeO.refl _)
      | (with_reducible exact LeO.none _)
      | (with_reducible refine LeO.ite ?_ ?_)
      | (with_reducible refine LeO.bind ?_ (fun _ => ?_))
      | exact ih0 _ _ _ _ _ _
      | exact ih1 _ _ _ _ _ _
      | exact ih2 _ _ _
      | exact ih3 _ _ _ _
      | exact chart_IsClient.mono _ _ _
      | exact chart_Number.mono _ _ _
      | exact chart_Of.mono _ _ _
      | exact hawalalaw07_Book_Accounts.mono _ _ _ _
      | exact hawalalaw07_awake.mono _
      | exact LeO.none _
      | refine LeO.ite ?_ ?_
      | refine LeO.bind ?_ (fun _ => ?_)
    · intro y0 y1 y2
      unfold hawalalaw07_ChartOf.j2
      repeat' first
      | (with_reducible exact ih0 _ _ _ _ _ _)
      | (with_reducible exact ih1 _ _ _ _ _ _)
      | (with_reducible exact ih2 _ _ _)
      | (with_reducible exact ih3 _ _ _ _)
      | (with_reducible exact chart_IsClient.mono _ _ _)
      | (with_reducible exact chart_Number.mono _ _ _)
      | (with_reducible exact chart_Of.mono _ _ _)
      | (with_reducible exact hawalalaw07_Book_Accounts.mono _ _ _ _)
      | (with_reducible exact hawalalaw07_awake.mono _)
      | (with_reducible exact LeO.refl _)
      | (with_reducible exact LeO.none _)
      | (with_reducible refine LeO.ite ?_ ?_)
      | (with_reducible refine LeO.bind ?_ (fun _ => ?_))
      | exact ih0 _ _ _ _ _ _
      | exact ih1 _ _ _ _ _ _
      | exact ih2 _ _ _
      | exact ih3 _ _ _ _
      | exact chart_IsClient.mono _ _ _
      | exact chart_Number.mono _ _ _
      | exact chart_Of.mono _ _ _
      | exact hawalalaw07_Book_Accounts.mono _ _ _ _
      | exact hawalalaw07_awake.mono _
      | exact LeO.none _
      | refine LeO.ite ?_ ?_
      | refine LeO.bind ?_ (fun _ => ?_)
    · intro y0 y1 y2 y3
      unfold hawalalaw07_ChartOf.j3
      repeat' first
      | (with_reducible exact ih0 _ _ _ _ _ _)
      | (with_reducible exact ih1 _ _ _ _ _ _)
      | (with_reducible exact ih2 _ _ _)
      | (with_reducible exact ih3 _ _ _ _)
      | (with_reducible exact chart_IsClient.mono _ _ _)
      | (with_reducible exact chart_Number.mono _ _ _)
      | (with_reducible exact chart_Of.mono _ _ _)
      | (with_reducible exact hawalalaw07_Book_Accounts.mono _ _ _ _)
      | (with_reducible exact hawalalaw07_awake.mono _)
      | (with_reducible exact LeO.refl _)
      | (with_reducible exact LeO.none _)
      | (with_reducible refine LeO.ite ?_ ?_)
      | (with_reducible refine LeO.bind ?_ (fun _ => ?_))
      | exact ih0 _ _ _ _ _ _
      | exact ih1 _ _ _ _ _ _
      | exact ih2 _ _ _
      | exact ih3 _ _ _ _
      | exact chart_IsClient.mono _ _ _
      | exact chart_Number.mono _ _ _
      | exact chart_Of.mono _ _ _
      | exact hawalalaw07_Book_Accounts.mono _ _ _ _
      | exact hawalalaw07_awake.mono _
      | exact LeO.none _
      | refine LeO.ite ?_ ?_
      | refine LeO.bind ?_ (fun _ => ?_)
theorem hawalalaw07_ChartOf.mono : ∀ a0 a1 a2 a3 a4 a5 k, LeO (hawalalaw07_ChartOf.f k a0 a1 a2 a3 a4 a5) (hawalalaw07_ChartOf.f (k + 1) a0 a1 a2 a3 a4 a5) := by
  intro a0 a1 a2 a3 a4 a5 k
  obtain ⟨ih0, ih1, ih2, ih3⟩ := hawalalaw07_ChartOf.mono_l k
  unfold hawalalaw07_ChartOf.f
  repeat' first
      | (with_reducible exact ih0 _ _ _ _ _ _)
      | (with_reducible exact ih1 _ _ _ _ _ _)
      | (with_reducible exact ih2 _ _ _)
      | (with_reducible exact ih3 _ _ _ _)
      | (with_reducible exact chart_IsClient.mono _ _ _)
      | (with_reducible exact chart_Number.mono _ _ _)
      | (with_reducible exact chart_Of.mono _ _ _)
      | (with_reducible exact hawalalaw07_Book_Accounts.mono _ _ _ _)
      | (with_reducible exact hawalalaw07_awake.mono _)
      | (with_reducible exact LeO.refl _)
      | (with_reducible exact LeO.none _)
      | (with_reducible refine LeO.ite ?_ ?_)
      | (with_reducible refine LeO.bind ?_ (fun _ => ?_))
      | exact ih0 _ _ _ _ _ _
      | exact ih1 _ _ _ _ _ _
      | exact ih2 _ _ _
      | exact ih3 _ _ _ _
      | exact chart_IsClient.mono _ _ _
      | exact chart_Number.mono _ _ _
      | exact chart_Of.mono _ _ _
      | exact hawalalaw07_Book_Accounts.mono _ _ _ _
      | exact hawalalaw07_awake.mono _
      | exact LeO.none _
      | refine LeO.ite ?_ ?_
      | refine LeO.bind ?_ (fun _ => ?_)
set_option maxHeartbeats 8000000 in
set_option maxRecDepth 100000 in
theorem hawalalaw07_ChartOf.calls (k : Nat) (A0_0 : Option Addr) (c0_0 : Nat) (l0_0 : List Int) (A0_1 : Option Addr) (c0_1 : Nat) (l0_1 : List Int) (A0_2 : Option Addr) (c0_2 : Nat) (l0_2 : List Int) (a1 : Int) (a2 : Int) (a3 : Int) (r : Bool) (w : World) (hr0_0 : Kd.C (Kd.int .u8) w A0_0 l0_0.length l0_0) (hc0_0 : l0_0.length ≤ c0_0) (hr0_1 : Kd.C (Kd.int .u32) w A0_1 l0_1.length l0_1) (hc0_1 : l0_1.length ≤ c0_1) (hr0_2 : Kd.C (Kd.int .u8) w A0_2 l0_2.length l0_2) (hc0_2 : l0_2.length ≤ c0_2) (h : hawalalaw07_ChartOf.f k l0_0 l0_1 l0_2 a1 a2 a3 = some r) :
    Calls Try.prog 7 #[.agg #[.slice A0_0 l0_0.length c0_0, .slice A0_1 l0_1.length c0_1, .slice A0_2 l0_2.length c0_2], .int .i64 a1, .int .i64 a2, .int .i64 a3] w fun e w' => e = .returned (.bool r) ∧ Below w.heap.size w w' := by
  have hu25 := Try.underlying25
  have HR0_0 := Aside0.mk hr0_0
  have HC0_0 := Aside0.mk hc0_0
  clear hr0_0 hc0_0
  have HR0_1 := Aside0.mk hr0_1
  have HC0_1 := Aside0.mk hc0_1
  clear hr0_1 hc0_1
  have HR0_2 := Aside0.mk hr0_2
  have HC0_2 := Aside0.mk hc0_2
  clear hr0_2 hc0_2
  have HB := Aside0.mk (Below.refl w.heap.size w)
  have H : ((hawalalaw07_awake.f k).bind fun t193 => (if t193 = true then ((hawalalaw07_Book_Accounts.f k l0_0 l0_1 l0_2).bind fun t194 => (if a1 ≥ 0 then (hawalalaw07_ChartOf.j0 k a1 a2 a3 t194 0 (decide (a1 < (t194.length : Int)))) else (hawalalaw07_ChartOf.j0 k a1 a2 a3 t194 0 false))) else (some false))) = some r := h
  clear h
  replace H := Option.bind_eq_some_iff.mp H
  obtain ⟨t193, A50, H⟩ := H
  replace H : (if t193 = true then ((hawalalaw07_Book_Accounts.f k l0_0 l0_1 l0_2).bind fun t194 => (if a1 ≥ 0 then (hawalalaw07_ChartOf.j0 k a1 a2 a3 t194 0 (decide (a1 < (t194.length : Int)))) else (hawalalaw07_ChartOf.j0 k a1 a2 a3 t194 0 false))) else (some false)) = some r := H
  have A5 := Aside0.mk A50
  clear A50
  by_cases c6 : t193 = true
  · subst c6
    have H1 : ((hawalalaw07_Book_Accounts.f k l0_0 l0_1 l0_2).bind fun t194 => (if a1 ≥ 0 then (hawalalaw07_ChartOf.j0 k a1 a2 a3 t194 0 (decide (a1 < (t194.length : Int)))) else (hawalalaw07_ChartOf.j0 k a1 a2 a3 t194 0 false))) = some r := by rw [if_pos rfl] at H; exact H
    clear H
    have H := H1
    clear H1
    replace H := Option.bind_eq_some_iff.mp H
    obtain ⟨t194, A70, H⟩ := H
    replace H : (if a1 ≥ 0 then (hawalalaw07_ChartOf.j0 k a1 a2 a3 t194 0 (decide (a1 < (t194.length : Int)))) else (hawalalaw07_ChartOf.j0 k a1 a2 a3 t194 0 false)) = some r := H
    have A7 := Aside0.mk A70
    clear A70
    have HC8 := Aside0.mk H
    clear H
    go_enter Try.func7, Try.ntmps7
    go_upto_region 4 with (first | ((with_reducible refine gate_dst (N := 4) rfl ?_); (try (refine gate_guard (by rfl) ?_; dsimp only)); refine box_event ?hg (N := 4) ?hd (cs := #[.slice A0_0 l0_0.length c0_0, .slice A0_1 l0_1.length c0_1, .slice A0_2 l0_2.length c0_2]) (t := 25) ?hr ?_; (case hd => rfl); (case hg => rfl); (case hr => first | (go_simp; done) | (go_simp; rfl)); intro gb192 hg w9 hbox hb; have n0_ := Aside0.mk (below_step (by repeat (first | (with_reducible first | exact HB.out | apply below_alloc | apply pw_below_drewN | apply below_drew1) | exact HB.out)) hb); have n1_ := Aside0.mk (hbox); have n2_ := Aside0.mk ((by rw [hg]; exact (below_size (by repeat (first | (with_reducible first | exact HB.out | apply below_alloc | apply pw_below_drewN | apply below_drew1) | exact HB.out))) : w.heap.size ≤ gb192)); have n3_ := Aside0.mk ((by rw [hg]; exact (below_size (by repeat (first | (with_reducible first | exact HB.out | apply below_alloc | apply pw_below_drewN | apply below_drew1) | exact HB.out))) : w.heap.size ≤ gb192)); clear HB; have HB := n0_; have BK192 := n1_; have GW192 := n2_; have GE192 := n3_; clear n0_ n1_ n2_ n3_; clear hb hbox hg) | ((with_reducible refine gate_callee (f := 9) rfl ?_); refine goesL_ (some 15) rfl rfl Try.func9 (by kernel_rfl) rfl #[] rfl (by (try simp only [List.map_toArray, List.map_cons, List.map_nil]); first | done | rfl | (simp only [List.length_drop, List.length_take]; rfl)) ?_; (with_reducible refine (hawalalaw07_awake.calls k  true _ A5.out).mono ?_); rintro e w10 ⟨rfl, hb⟩; refine ⟨_, rfl, ?_⟩; have n0_ := Aside0.mk (blk_below (g := gb192) (o := .cells #[.slice A0_0 l0_0.length c0_0, .slice A0_1 l0_1.length c0_1, .slice A0_2 l0_2.length c0_2] 25 (0, 0)) (by (with_reducible repeat (first | refine blk_drewN ?_ _ | refine blk_drew ?_ | refine blk_alloc ?_ _)); exact BK192.out) hb); have n1_ := Aside0.mk (below_step (by repeat (first | (with_reducible first | exact HB.out | apply below_alloc | apply pw_below_drewN | apply below_drew1 | refine below_set ?_ GE192.out) | exact HB.out)) hb); clear BK192; clear HB; have BK192 := n0_; have HB := n1_; clear n0_ n1_; (try clear hb); (try clear hb2); (try clear hk); (try clear hi); have hcz11_0 : w10.cell? ⟨gb192, 0, none⟩ = some (.slice A0_0 l0_0.length c0_0) := (blk_cell BK192.out 0).trans rfl; have hcz11_1 : w10.cell? ⟨gb192, 1, none⟩ = some (.slice A0_1 l0_1.length c0_1) := (blk_cell BK192.out 1).trans rfl; have hcz11_2 : w10.cell? ⟨gb192, 2, none⟩ = some (.slice A0_2 l0_2.length c0_2) := (blk_cell BK192.out 2).trans rfl; have hfz11_0 := blk_frozen BK192.out 0; have hfz11_1 := blk_frozen BK192.out 1; have hfz11_2 := blk_frozen BK192.out 2) | ((with_reducible refine gate_callee (f := 10) rfl ?_); refine goesL_ (some 18) rfl rfl Try.func10 (by kernel_rfl) rfl #[.agg #[.slice A0_0 l0_0.length c0_0, .slice A0_1 l0_1.length c0_1, .slice A0_2 l0_2.length c0_2]] rfl (by (try simp only [List.map_toArray, List.map_cons, List.map_nil]); first | done | rfl | (simp only [List.length_drop, List.length_take]; rfl)) ?_; (with_reducible refine (hawalalaw07_Book_Accounts.calls k _ _ l0_0 _ _ l0_1 _ _ l0_2 t194 _ ?side1 ?side2 ?side3 ?side4 ?side5 ?side6 A7.out).mono ?_); (case side1 => repeat (first | exact (Kd.C_below HR0_0.out HB.out) | (with_reducible refine Kd.C_alloc ?_ _) | (with_reducible refine Kd.C_drewN ?_ _) | (with_reducible refine Kd.C_drew ?_))); (case side2 => exact HC0_0.out); (case side3 => repeat (first | exact (Kd.C_below HR0_1.out HB.out) | (with_reducible refine Kd.C_alloc ?_ _) | (with_reducible refine Kd.C_drewN ?_ _) | (with_reducible refine Kd.C_drew ?_))); (case side4 => exact HC0_1.out); (case side5 => repeat (first | exact (Kd.C_below HR0_2.out HB.out) | (with_reducible refine Kd.C_alloc ?_ _) | (with_reducible refine Kd.C_drewN ?_ _) | (with_reducible refine Kd.C_drew ?_))); (case side6 => exact HC0_2.out); rintro e w12 ⟨v195, rfl, ho0, hb⟩; refine ⟨_, rfl, ?_⟩; have n0_ := Aside0.mk (Kd.R_lower ho0 (below_size (by repeat (first | (with_reducible first | exact HB.out | apply below_alloc | apply pw_below_drewN | apply below_drew1 | refine below_set ?_ GE192.out) | exact HB.out)))); have n1_ := Aside0.mk (blk_below (g := gb192) (o := .cells #[.slice A0_0 l0_0.length c0_0, .slice A0_1 l0_1.length c0_1, .slice A0_2 l0_2.length c0_2] 25 (0, 0)) (by (with_reducible repeat (first | refine blk_drewN ?_ _ | refine blk_drew ?_ | refine blk_alloc ?_ _)); exact BK192.out) hb); have n2_ := Aside0.mk (below_step (by repeat (first | (with_reducible first | exact HB.out | apply below_alloc | apply pw_below_drewN | apply below_drew1 | refine below_set ?_ GE192.out) | exact HB.out)) hb); clear BK192; clear HB; have HO196 := n0_; have BK192 := n1_; have HB := n2_; clear n0_ n1_ n2_; (try clear hb); (try clear hb2); (try clear hk); (try clear hi); (try clear ho0)))
    (try simp only [Act.put, List.setIfInBounds_toArray, List.set_cons_zero, List.set_cons_succ])
    go_cut [10, 11] (fun v10 v11 wc => ∃ (kq : Nat) (x10_7 : Int) (x11_7 : Bool), v10 = .int .i64 x10_7 ∧ v11 = .bool x11_7 ∧ Aside0 (hawalalaw07_ChartOf.j0 kq a1 a2 a3 t194 x10_7 x11_7 = some r) ∧ Aside0 (kq ≤ k) ∧ Aside0 (Kd.R k27 27 wc w.heap.size (fun _ => True) v195 t194) ∧ Aside0 (wc.heap[gb192]? = some (.cells #[(.slice A0_0 l0_0.length c0_0), (.slice A0_1 l0_1.length c0_1), (.slice A0_2 l0_2.length c0_2)] 25 (0, 0))) ∧ Aside0 (Below w.heap.size w wc))
    case first =>
      have H := HC8.out
      clear HC8
      by_cases c13 : a1 ≥ 0
      · rw [if_pos c13] at H
        have c13b0 : decide (0 ≤ a1) = true := decide_eq_true c13
        clear c13
        (first | rw [c13b0] | (simp only [i64_w, i32_w]; rw [c13b0]) | skip)
        have H' := Aside0.mk H
        clear H
        obtain ⟨Ao14, co14, eo14⟩ := Kd.R_slice HO196.out
        subst eo14
        go_wp2
        go_meet
        case rel => exact ⟨_, (0), (decide (a1 < (t194.length : Int))), (by first | rfl | (simp; done) | (simp [*]; done)), (by first | rfl | (simp; done) | (simp [*]; done)), H', ⟨by first | omega | exact Nat.le_refl _⟩, ⟨by (with_reducible repeat (first | apply Kd.R_alloc | apply Kd.R_drewN | apply Kd.R_drew)); exact HO196.out⟩, ⟨by (with_reducible repeat (first | refine blk_drewN ?_ _ | refine blk_drew ?_ | refine blk_alloc ?_ _)); exact BK192.out⟩, ⟨by repeat (first | (with_reducible first | exact HB.out | apply below_alloc | apply pw_below_drewN | apply below_drew1 | refine below_set ?_ GE192.out) | exact HB.out)⟩⟩
      · rw [if_neg c13] at H
        have c13b0 : decide (0 ≤ a1) = false := decide_eq_false c13
        clear c13
        (first | rw [c13b0] | (simp only [i64_w, i32_w]; rw [c13b0]) | skip)
        have H' := Aside0.mk H
        clear H
        go_wp2
        go_meet
        case rel => exact ⟨_, (0), (false), (by first | rfl | (simp; done) | (simp [*]; done)), (by first | rfl | (simp; done) | (simp [*]; done)), H', ⟨by first | omega | exact Nat.le_refl _⟩, ⟨by (with_reducible repeat (first | apply Kd.R_alloc | apply Kd.R_drewN | apply Kd.R_drew)); exact HO196.out⟩, ⟨by (with_reducible repeat (first | refine blk_drewN ?_ _ | refine blk_drew ?_ | refine blk_alloc ?_ _)); exact BK192.out⟩, ⟨by repeat (first | (with_reducible first | exact HB.out | apply below_alloc | apply pw_below_drewN | apply below_drew1 | refine below_set ?_ GE192.out) | exact HB.out)⟩⟩
    case rest =>
      clear HC8
      try clear c1
      try clear p2
      try clear c6
      try clear c7
      try clear c9
      try clear c10
      try clear c13
      try clear c13b0
      try clear hcz11_0
      try clear hcz11_1
      try clear hcz11_2
      try clear hfz11_0
      try clear hfz11_1
      try clear hfz11_2
      obtain ⟨kq, x10_7, x11_7, rfl, rfl, HA, HJ7, HO_9, BK192, HB⟩ := hcut
      cases kq with
      | zero => exact absurd HA.out (by simp [hawalalaw07_ChartOf.j0])
      | succ kj7 =>
        have H := HA.out
        clear HA
        simp only [hawalalaw07_ChartOf.j0] at H
        have HC15 := Aside0.mk H
        clear H
        go_upto_if 27 with (fail)
        go_cut [10] (fun v10 wc => ∃ (kq : Nat) (x10_14 : Int), v10 = .int .i64 x10_14 ∧ Aside0 (hawalalaw07_ChartOf.j1 kq a1 a2 a3 t194 x10_14 x11_7 = some r) ∧ Aside0 (kq ≤ kj7) ∧ Aside0 (Kd.R k27 27 wc w.heap.size (fun _ => True) v195 t194) ∧ Aside0 (wc.heap[gb192]? = some (.cells #[(.slice A0_0 l0_0.length c0_0), (.slice A0_1 l0_1.length c0_1), (.slice A0_2 l0_2.length c0_2)] 25 (0, 0))) ∧ Aside0 (Below w.heap.size w wc))
        case first =>
          have H := HC15.out
          clear HC15
          by_cases c16 : x11_7 = true
          · subst c16
            have H1 : (if a1 < 9 then (hawalalaw07_ChartOf.j1 kj7 a1 a2 a3 t194 (Int.tmod a1 3) true) else (hawalalaw07_ChartOf.j1 kj7 a1 a2 a3 t194 3 true)) = some r := by rw [if_pos rfl] at H; exact H
            clear H
            have H := H1
            clear H1
            by_cases c17 : a1 < 9
            · rw [if_pos c17] at H
              have c17b0 : decide (a1 < 9) = true := decide_eq_true c17
              clear c17
              (first | rw [c17b0] | (simp only [i64_w, i32_w]; rw [c17b0]) | skip)
              have H' := Aside0.mk H
              clear H
              go_wp2
              go_meet
              case rel => exact ⟨_, (Int.tmod a1 3), (by first | rfl | (simp; done) | (simp [*]; done)), H', ⟨by have := HJ7.out; first | omega | exact Nat.le_refl _⟩, ⟨by (with_reducible repeat (first | apply Kd.R_alloc | apply Kd.R_drewN | apply Kd.R_drew)); exact HO_9.out⟩, ⟨by (with_reducible repeat (first | refine blk_drewN ?_ _ | refine blk_drew ?_ | refine blk_alloc ?_ _)); exact BK192.out⟩, ⟨by repeat (first | (with_reducible first | exact HB.out | apply below_alloc | apply pw_below_drewN | apply below_drew1 | refine below_set ?_ GE192.out) | exact HB.out)⟩⟩
            · rw [if_neg c17] at H
              have c17b0 : decide (a1 < 9) = false := decide_eq_false c17
              clear c17
              (first | rw [c17b0] | (simp only [i64_w, i32_w]; rw [c17b0]) | skip)
              have H' := Aside0.mk H
              clear H
              go_wp2
              go_meet
              case rel => exact ⟨_, (3), (by first | rfl | (simp; done) | (simp [*]; done)), H', ⟨by have := HJ7.out; first | omega | exact Nat.le_refl _⟩, ⟨by (with_reducible repeat (first | apply Kd.R_alloc | apply Kd.R_drewN | apply Kd.R_drew)); exact HO_9.out⟩, ⟨by (with_reducible repeat (first | refine blk_drewN ?_ _ | refine blk_drew ?_ | refine blk_alloc ?_ _)); exact BK192.out⟩, ⟨by repeat (first | (with_reducible first | exact HB.out | apply below_alloc | apply pw_below_drewN | apply below_drew1 | refine below_set ?_ GE192.out) | exact HB.out)⟩⟩
          · replace c16 := Bool.eq_false_iff.mpr c16
            subst c16
            have H1 : (hawalalaw07_ChartOf.j1 kj7 a1 a2 a3 t194 x10_7 false) = some r := by rw [if_neg (show ¬ (false = true) by decide)] at H; exact H
            clear H
            have H := H1
            clear H1
            have H' := Aside0.mk H
            clear H
            go_wp2
            go_meet
            case rel => exact ⟨_, (x10_7), (by first | rfl | (simp; done) | (simp [*]; done)), H', ⟨by have := HJ7.out; first | omega | exact Nat.le_refl _⟩, ⟨by (with_reducible repeat (first | apply Kd.R_alloc | apply Kd.R_drewN | apply Kd.R_drew)); exact HO_9.out⟩, ⟨by (with_reducible repeat (first | refine blk_drewN ?_ _ | refine blk_drew ?_ | refine blk_alloc ?_ _)); exact BK192.out⟩, ⟨by repeat (first | (with_reducible first | exact HB.out | apply below_alloc | apply pw_below_drewN | apply below_drew1 | refine below_set ?_ GE192.out) | exact HB.out)⟩⟩
        case rest =>
          clear HC15
          try clear c1
          try clear p2
          try clear c6
          try clear c7
          try clear c9
          try clear c10
          try clear c13
          try clear c13b0
          try clear c16
          try clear c17
          try clear c17b0
          try clear hcz11_0
          try clear hcz11_1
          try clear hcz11_2
          try clear hfz11_0
          try clear hfz11_1
          try clear hfz11_2
          try clear p2
          obtain ⟨kq, x10_14, rfl, HA, HJ14, HO_9, BK192, HB⟩ := hcut
          cases kq with
          | zero => exact absurd HA.out (by simp [hawalalaw07_ChartOf.j1])
          | succ kj14 =>
            have H := HA.out
            clear HA
            simp only [hawalalaw07_ChartOf.j1] at H
            replace H := Option.bind_eq_some_iff.mp H
            obtain ⟨⟨t197, t198⟩, A180, H⟩ := H
            replace H : (if t197 = x10_14 then (if (t198 != x11_7) = true then (hawalalaw07_ChartOf.j2 kj14 a2 a3 true) else ((chart_IsClient.f kj14 t194 a1).bind fun t199 => (if x11_7 = true then (hawalalaw07_ChartOf.j2 kj14 a2 a3 (t199 != (decide (a1 > 8)))) else (hawalalaw07_ChartOf.j2 kj14 a2 a3 (t199 != false))))) else (hawalalaw07_ChartOf.j2 kj14 a2 a3 true)) = some r := H
            have A18 := Aside0.mk A180
            clear A180
            have HC19 := Aside0.mk H
            clear H
            obtain ⟨Ao20, co20, eo20⟩ := Kd.R_slice HO_9.out
            subst eo20
            go_upto_region 10 with (first | ((with_reducible refine gate_callee (f := 17) rfl ?_); refine goesL_ (some 35) rfl rfl Try.func17 (by kernel_rfl) rfl #[.slice Ao20 t194.length co20, .int .i64 a1] rfl (by (try simp only [List.map_toArray, List.map_cons, List.map_nil]); first | done | rfl | (simp only [List.length_drop, List.length_take]; rfl)) ?_; (with_reducible refine (chart_Of.calls kj14 _ _ t194 a1 t197 t198 _ ?side1 ?side2 A18.out).mono ?_); (case side1 => repeat (first | exact (Kd.R_reads' HO_9.out).2.2 | (with_reducible refine Kd.C_alloc ?_ _) | (with_reducible refine Kd.C_drewN ?_ _) | (with_reducible refine Kd.C_drew ?_))); (case side2 => exact (Kd.R_reads' HO_9.out).2.1); rintro e w' ⟨rfl, ⟨nd, rfl⟩⟩; refine ⟨_, rfl, ?_⟩))
            (try simp only [Act.put, List.setIfInBounds_toArray, List.set_cons_zero, List.set_cons_succ])
            go_cut [56] (fun v56 wc => ∃ (kq : Nat) (x56_18 : Bool), v56 = .bool x56_18 ∧ Aside0 (hawalalaw07_ChartOf.j2 kq a2 a3 x56_18 = some r) ∧ Aside0 (kq ≤ kj14) ∧ Aside0 (wc.heap[gb192]? = some (.cells #[(.slice A0_0 l0_0.length c0_0), (.slice A0_1 l0_1.length c0_1), (.slice A0_2 l0_2.length c0_2)] 25 (0, 0))) ∧ Aside0 (Below w.heap.size w wc))
            case first =>
              have H := HC19.out
              clear HC19
              by_cases c21 : t197 = x10_14
              · rw [if_pos c21] at H
                have c21b0 : (t197 == x10_14) = true := beq_iff_eq.mpr c21
                have c21b1 : (t197 != x10_14) = false := bne_eq_false_iff_eq.mpr c21
                clear c21
                (first | rw [c21b0] | (simp only [i64_w, i32_w]; rw [c21b0]) | skip)
                by_cases c22 : (t198 != x11_7) = true
                · rw [if_pos c22] at H
                  have c22b0 : (t198 != x11_7) = true := c22
                  (try (have c22b1 : decide (t198 = x11_7) = false := by simpa using c22))
                  (try (have c22b2 : (t198 == x11_7) = false := by simpa using c22))
                  (try (have c22b3 : ¬ (t198 = x11_7) := by simpa using c22))
                  clear c22
                  have H' := Aside0.mk H
                  clear H
                  go_wp2
                  go_meet
                  case rel => exact ⟨_, (true), (by first | rfl | (simp; done) | (simp [*]; done)), H', ⟨by have := HJ7.out; have := HJ14.out; first | omega | exact Nat.le_refl _⟩, ⟨by (with_reducible repeat (first | refine blk_drewN ?_ _ | refine blk_drew ?_ | refine blk_alloc ?_ _)); exact BK192.out⟩, ⟨by repeat (first | (with_reducible first | exact HB.out | apply below_alloc | apply pw_below_drewN | apply below_drew1 | refine below_set ?_ GE192.out) | exact HB.out)⟩⟩
                · rw [if_neg c22] at H
                  have c22b0 : (t198 != x11_7) = false := by simpa using c22
                  (try (have c22b1 : decide (t198 = x11_7) = true := by simpa using c22))
                  (try (have c22b2 : (t198 == x11_7) = true := by simpa using c22))
                  clear c22
                  replace H := Option.bind_eq_some_iff.mp H
                  obtain ⟨t199, A230, H⟩ := H
                  replace H : (if x11_7 = true then (hawalalaw07_ChartOf.j2 kj14 a2 a3 (t199 != (decide (a1 > 8)))) else (hawalalaw07_ChartOf.j2 kj14 a2 a3 (t199 != false))) = some r := H
                  have A23 := Aside0.mk A230
                  clear A230
                  by_cases c24 : x11_7 = true
                  · subst c24
                    have H1 : (hawalalaw07_ChartOf.j2 kj14 a2 a3 (t199 != (decide (a1 > 8)))) = some r := by rw [if_pos rfl] at H; exact H
                    clear H
                    have H := H1
                    clear H1
                    have H' := Aside0.mk H
                    clear H
                    go_wp2_with (first | (go_at_call 18; (with_reducible refine (chart_IsClient.calls kj14 _ _ t194 a1 t199 _ ?side1 ?side2 A23.out).mono ?_); (case side1 => repeat (first | exact (Kd.R_reads' HO_9.out).2.2 | (with_reducible refine Kd.C_alloc ?_ _) | (with_reducible refine Kd.C_drewN ?_ _) | (with_reducible refine Kd.C_drew ?_))); (case side2 => exact (Kd.R_reads' HO_9.out).2.1); rintro e w' ⟨rfl, ⟨nd, rfl⟩⟩))
                    go_meet
                    case rel => exact ⟨_, ((t199 != (decide (a1 > 8)))), (by first | rfl | (simp; done) | (simp [*]; done)), H', ⟨by have := HJ7.out; have := HJ14.out; first | omega | exact Nat.le_refl _⟩, ⟨by (with_reducible repeat (first | refine blk_drewN ?_ _ | refine blk_drew ?_ | refine blk_alloc ?_ _)); exact BK192.out⟩, ⟨by repeat (first | (with_reducible first | exact HB.out | apply below_alloc | apply pw_below_drewN | apply below_drew1 | refine below_set ?_ GE192.out) | exact HB.out)⟩⟩
                  · replace c24 := Bool.eq_false_iff.mpr c24
                    subst c24
                    have H1 : (hawalalaw07_ChartOf.j2 kj14 a2 a3 (t199 != false)) = some r := by rw [if_neg (show ¬ (false = true) by decide)] at H; exact H
                    clear H
                    have H := H1
                    clear H1
                    have H' := Aside0.mk H
                    clear H
                    go_wp2_with (first | (go_at_call 18; (with_reducible refine (chart_IsClient.calls kj14 _ _ t194 a1 t199 _ ?side1 ?side2 A23.out).mono ?_); (case side1 => repeat (first | exact (Kd.R_reads' HO_9.out).2.2 | (with_reducible refine Kd.C_alloc ?_ _) | (with_reducible refine Kd.C_drewN ?_ _) | (with_reducible refine Kd.C_drew ?_))); (case side2 => exact (Kd.R_reads' HO_9.out).2.1); rintro e w' ⟨rfl, ⟨nd, rfl⟩⟩))
                    go_meet
                    case rel => exact ⟨_, ((t199 != false)), (by first | rfl | (simp; done) | (simp [*]; done)), H', ⟨by have := HJ7.out; have := HJ14.out; first | omega | exact Nat.le_refl _⟩, ⟨by (with_reducible repeat (first | refine blk_drewN ?_ _ | refine blk_drew ?_ | refine blk_alloc ?_ _)); exact BK192.out⟩, ⟨by repeat (first | (with_reducible first | exact HB.out | apply below_alloc | apply pw_below_drewN | apply below_drew1 | refine below_set ?_ GE192.out) | exact HB.out)⟩⟩
              · rw [if_neg c21] at H
                have c21b0 : (t197 == x10_14) = false := beq_eq_false_iff_ne.mpr c21
                have c21b1 : (t197 != x10_14) = true := bne_iff_ne.mpr c21
                (first | rw [c21b0] | (simp only [i64_w, i32_w]; rw [c21b0]) | skip)
                have H' := Aside0.mk H
                clear H
                go_wp2
                go_meet
                case rel => exact ⟨_, (true), (by first | rfl | (simp; done) | (simp [*]; done)), H', ⟨by have := HJ7.out; have := HJ14.out; first | omega | exact Nat.le_refl _⟩, ⟨by (with_reducible repeat (first | refine blk_drewN ?_ _ | refine blk_drew ?_ | refine blk_alloc ?_ _)); exact BK192.out⟩, ⟨by repeat (first | (with_reducible first | exact HB.out | apply below_alloc | apply pw_below_drewN | apply below_drew1 | refine below_set ?_ GE192.out) | exact HB.out)⟩⟩
            case rest =>
              clear HC19
              try clear c1
              try clear c2
              try clear p2
              try clear c6
              try clear c7
              try clear c9
              try clear c10
              try clear c13
              try clear c13b0
              try clear c16
              try clear c17
              try clear c17b0
              try clear c21
              try clear c21b0
              try clear c21b1
              try clear c22
              try clear c22b0
              try clear c22b1
              try clear c22b2
              try clear c24
              try clear hcz11_0
              try clear hcz11_1
              try clear hcz11_2
              try clear hfz11_0
              try clear hfz11_1
              try clear hfz11_2
              try clear p2
              obtain ⟨kq, x56_18, rfl, HA, HJ18, BK192, HB⟩ := hcut
              cases kq with
              | zero => exact absurd HA.out (by simp [hawalalaw07_ChartOf.j2])
              | succ kj18 =>
                have H := HA.out
                clear HA
                simp only [hawalalaw07_ChartOf.j2] at H
                by_cases c25 : x56_18 = true
                · subst c25
                  have H1 : (some false) = some r := by rw [if_pos rfl] at H; exact H
                  clear H
                  have H := H1
                  clear H1
                  obtain rfl := Option.some.inj H
                  go_wp2
                  go_ret
                  exact ⟨by first | rfl | (simp [errW_none, errW_some] <;> rfl) | (simp [*, errW_none, errW_some] <;> rfl), by repeat (first | (with_reducible first | exact HB.out | apply below_alloc | apply pw_below_drewN | apply below_drew1 | refine below_set ?_ GE192.out) | exact HB.out)⟩
                · replace c25 := Bool.eq_false_iff.mpr c25
                  subst c25
                  have H1 : (if a2 ≥ 0 then (if a2 < 3 then (if a3 ≥ 0 then (hawalalaw07_ChartOf.j3 kj18 a2 a3 (-1) (decide (a3 < 3))) else (hawalalaw07_ChartOf.j3 kj18 a2 a3 (-1) false)) else (hawalalaw07_ChartOf.j3 kj18 a2 a3 (-1) false)) else (hawalalaw07_ChartOf.j3 kj18 a2 a3 (-1) false)) = some r := by rw [if_neg (show ¬ (false = true) by decide)] at H; exact H
                  clear H
                  have H := H1
                  clear H1
                  have HC26 := Aside0.mk H
                  clear H
                  go_upto_region 13 with (fail)
                  go_cut [70] (fun v70 wc => ∃ (kq : Nat) (x70_25 : Bool), v70 = .bool x70_25 ∧ Aside0 (hawalalaw07_ChartOf.j3 kq a2 a3 (-1) x70_25 = some r) ∧ Aside0 (kq ≤ kj18) ∧ Aside0 (wc.heap[gb192]? = some (.cells #[(.slice A0_0 l0_0.length c0_0), (.slice A0_1 l0_1.length c0_1), (.slice A0_2 l0_2.length c0_2)] 25 (0, 0))) ∧ Aside0 (Below w.heap.size w wc))
                  case first =>
                    have H := HC26.out
                    clear HC26
                    by_cases c27 : a2 ≥ 0
                    · rw [if_pos c27] at H
                      have c27b0 : decide (0 ≤ a2) = true := decide_eq_true c27
                      clear c27
                      (first | rw [c27b0] | (simp only [i64_w, i32_w]; rw [c27b0]) | skip)
                      by_cases c28 : a2 < 3
                      · rw [if_pos c28] at H
                        have c28b0 : decide (a2 < 3) = true := decide_eq_true c28
                        clear c28
                        by_cases c29 : a3 ≥ 0
                        · rw [if_pos c29] at H
                          have c29b0 : decide (0 ≤ a3) = true := decide_eq_true c29
                          clear c29
                          have H' := Aside0.mk H
                          clear H
                          go_wp2
                          go_meet
                          case rel => exact ⟨_, (decide (a3 < 3)), (by first | rfl | (simp; done) | (simp [*]; done)), H', ⟨by have := HJ7.out; have := HJ14.out; have := HJ18.out; first | omega | exact Nat.le_refl _⟩, ⟨by (with_reducible repeat (first | refine blk_drewN ?_ _ | refine blk_drew ?_ | refine blk_alloc ?_ _)); exact BK192.out⟩, ⟨by repeat (first | (with_reducible first | exact HB.out | apply below_alloc | apply pw_below_drewN | apply below_drew1 | refine below_set ?_ GE192.out) | exact HB.out)⟩⟩
                        · rw [if_neg c29] at H
                          have c29b0 : decide (0 ≤ a3) = false := decide_eq_false c29
                          clear c29
                          have H' := Aside0.mk H
                          clear H
                          go_wp2
                          go_meet
                          case rel => exact ⟨_, (false), (by first | rfl | (simp; done) | (simp [*]; done)), H', ⟨by have := HJ7.out; have := HJ14.out; have := HJ18.out; first | omega | exact Nat.le_refl _⟩, ⟨by (with_reducible repeat (first | refine blk_drewN ?_ _ | refine blk_drew ?_ | refine blk_alloc ?_ _)); exact BK192.out⟩, ⟨by repeat (first | (with_reducible first | exact HB.out | apply below_alloc | apply pw_below_drewN | apply below_drew1 | refine below_set ?_ GE192.out) | exact HB.out)⟩⟩
                      · rw [if_neg c28] at H
                        have c28b0 : decide (a2 < 3) = false := decide_eq_false c28
                        clear c28
                        have H' := Aside0.mk H
                        clear H
                        go_wp2
                        go_meet
                        case rel => exact ⟨_, (false), (by first | rfl | (simp; done) | (simp [*]; done)), H', ⟨by have := HJ7.out; have := HJ14.out; have := HJ18.out; first | omega | exact Nat.le_refl _⟩, ⟨by (with_reducible repeat (first | refine blk_drewN ?_ _ | refine blk_drew ?_ | refine blk_alloc ?_ _)); exact BK192.out⟩, ⟨by repeat (first | (with_reducible first | exact HB.out | apply below_alloc | apply pw_below_drewN | apply below_drew1 | refine below_set ?_ GE192.out) | exact HB.out)⟩⟩
                    · rw [if_neg c27] at H
                      have c27b0 : decide (0 ≤ a2) = false := decide_eq_false c27
                      clear c27
                      (first | rw [c27b0] | (simp only [i64_w, i32_w]; rw [c27b0]) | skip)
                      have H' := Aside0.mk H
                      clear H
                      go_wp2
                      go_meet
                      case rel => exact ⟨_, (false), (by first | rfl | (simp; done) | (simp [*]; done)), H', ⟨by have := HJ7.out; have := HJ14.out; have := HJ18.out; first | omega | exact Nat.le_refl _⟩, ⟨by (with_reducible repeat (first | refine blk_drewN ?_ _ | refine blk_drew ?_ | refine blk_alloc ?_ _)); exact BK192.out⟩, ⟨by repeat (first | (with_reducible first | exact HB.out | apply below_alloc | apply pw_below_drewN | apply below_drew1 | refine below_set ?_ GE192.out) | exact HB.out)⟩⟩
                  case rest =>
                    clear HC26
                    try clear c1
                    try clear c2
                    try clear p2
                    try clear c6
                    try clear c7
                    try clear c9
                    try clear c10
                    try clear c13
                    try clear c13b0
                    try clear c16
                    try clear c17
                    try clear c17b0
                    try clear c21
                    try clear c21b0
                    try clear c21b1
                    try clear c22
                    try clear c22b0
                    try clear c22b1
                    try clear c22b2
                    try clear c24
                    try clear c25
                    try clear c27
                    try clear c27b0
                    try clear c28
                    try clear c28b0
                    try clear c29
                    try clear c29b0
                    try clear hcz11_0
                    try clear hcz11_1
                    try clear hcz11_2
                    try clear hfz11_0
                    try clear hfz11_1
                    try clear hfz11_2
                    try clear p2
                    obtain ⟨kq, x70_25, rfl, HA, HJ25, BK192, HB⟩ := hcut
                    cases kq with
                    | zero => exact absurd HA.out (by simp [hawalalaw07_ChartOf.j3])
                    | succ kj25 =>
                      have H := HA.out
                      clear HA
                      simp only [hawalalaw07_ChartOf.j3] at H
                      by_cases c30 : x70_25 = true
                      · subst c30
                        have H1 : ((chart_Number.f kj25 a2 a3).bind fun t200 => (some (t200 == (wrap64 ((wrap64 (3 * a3)) + a2))))) = some r := by rw [if_pos rfl] at H; exact H
                        clear H
                        have H := H1
                        clear H1
                        replace H := Option.bind_eq_some_iff.mp H
                        obtain ⟨t200, A310, H⟩ := H
                        replace H : (some (t200 == (wrap64 ((wrap64 (3 * a3)) + a2)))) = some r := H
                        have A31 := Aside0.mk A310
                        clear A310
                        obtain rfl := Option.some.inj H
                        go_wp2_with (first | ((with_reducible refine gate_callee (f := 19) rfl ?_); refine goesL_ (some 77) rfl rfl Try.func19 (by kernel_rfl) rfl #[.int .i64 a2, .int .i64 a3] rfl (by (try simp only [List.map_toArray, List.map_cons, List.map_nil]); first | done | rfl | (simp only [List.length_drop, List.length_take]; rfl)) ?_; (with_reducible refine (chart_Number.calls kj25 a2 a3 t200 _ A31.out).mono ?_); rintro e w' ⟨rfl, ⟨nd, rfl⟩⟩; refine ⟨_, rfl, ?_⟩))
                        go_ret
                        exact ⟨by first | rfl | (simp [errW_none, errW_some] <;> rfl) | (simp [*, errW_none, errW_some] <;> rfl), by repeat (first | (with_reducible first | exact HB.out | apply below_alloc | apply pw_below_drewN | apply below_drew1 | refine below_set ?_ GE192.out) | exact HB.out)⟩
                      · replace c30 := Bool.eq_false_iff.mpr c30
                        subst c30
                        have H1 : ((chart_Number.f kj25 a2 a3).bind fun t201 => (some (t201 == (-1)))) = some r := by rw [if_neg (show ¬ (false = true) by decide)] at H; exact H
                        clear H
                        have H := H1
                        clear H1
                        replace H := Option.bind_eq_some_iff.mp H
                        obtain ⟨t201, A320, H⟩ := H
                        replace H : (some (t201 == (-1))) = some r := H
                        have A32 := Aside0.mk A320
                        clear A320
                        obtain rfl := Option.some.inj H
                        go_wp2_with (first | ((with_reducible refine gate_callee (f := 19) rfl ?_); refine goesL_ (some 77) rfl rfl Try.func19 (by kernel_rfl) rfl #[.int .i64 a2, .int .i64 a3] rfl (by (try simp only [List.map_toArray, List.map_cons, List.map_nil]); first | done | rfl | (simp only [List.length_drop, List.length_take]; rfl)) ?_; (with_reducible refine (chart_Number.calls kj25 a2 a3 t201 _ A32.out).mono ?_); rintro e w' ⟨rfl, ⟨nd, rfl⟩⟩; refine ⟨_, rfl, ?_⟩))
                        go_ret
                        exact ⟨by first | rfl | (simp [errW_none, errW_some] <;> rfl) | (simp [*, errW_none, errW_some] <;> rfl), by repeat (first | (with_reducible first | exact HB.out | apply below_alloc | apply pw_below_drewN | apply below_drew1 | refine below_set ?_ GE192.out) | exact HB.out)⟩
  · replace c6 := Bool.eq_false_iff.mpr c6
    subst c6
    have H1 : (some false) = some r := by rw [if_neg (show ¬ (false = true) by decide)] at H; exact H
    clear H
    have H := H1
    clear H1
    obtain rfl := Option.some.inj H
    go_enter Try.func7, Try.ntmps7
    go_wp2_with (first | ((with_reducible refine gate_dst (N := 4) rfl ?_); (try (refine gate_guard (by rfl) ?_; dsimp only)); refine box_event ?hg (N := 4) ?hd (cs := #[.slice A0_0 l0_0.length c0_0, .slice A0_1 l0_1.length c0_1, .slice A0_2 l0_2.length c0_2]) (t := 25) ?hr ?_; (case hd => rfl); (case hg => rfl); (case hr => first | (go_simp; done) | (go_simp; rfl)); intro gb192 hg w33 hbox hb; have n0_ := Aside0.mk (below_step (by repeat (first | (with_reducible first | exact HB.out | apply below_alloc | apply pw_below_drewN | apply below_drew1) | exact HB.out)) hb); have n1_ := Aside0.mk (hbox); have n2_ := Aside0.mk ((by rw [hg]; exact (below_size (by repeat (first | (with_reducible first | exact HB.out | apply below_alloc | apply pw_below_drewN | apply below_drew1) | exact HB.out))) : w.heap.size ≤ gb192)); have n3_ := Aside0.mk ((by rw [hg]; exact (below_size (by repeat (first | (with_reducible first | exact HB.out | apply below_alloc | apply pw_below_drewN | apply below_drew1) | exact HB.out))) : w.heap.size ≤ gb192)); clear HB; have HB := n0_; have BK192 := n1_; have GW192 := n2_; have GE192 := n3_; clear n0_ n1_ n2_ n3_; clear hb hbox hg) | ((with_reducible refine gate_callee (f := 9) rfl ?_); refine goesL_ (some 15) rfl rfl Try.func9 (by kernel_rfl) rfl #[] rfl (by (try simp only [List.map_toArray, List.map_cons, List.map_nil]); first | done | rfl | (simp only [List.length_drop, List.length_take]; rfl)) ?_; (with_reducible refine (hawalalaw07_awake.calls k  false _ A5.out).mono ?_); rintro e w34 ⟨rfl, hb⟩; refine ⟨_, rfl, ?_⟩; have n0_ := Aside0.mk (blk_below (g := gb192) (o := .cells #[.slice A0_0 l0_0.length c0_0, .slice A0_1 l0_1.length c0_1, .slice A0_2 l0_2.length c0_2] 25 (0, 0)) (by (with_reducible repeat (first | refine blk_drewN ?_ _ | refine blk_drew ?_ | refine blk_alloc ?_ _)); exact BK192.out) hb); have n1_ := Aside0.mk (below_step (by repeat (first | (with_reducible first | exact HB.out | apply below_alloc | apply pw_below_drewN | apply below_drew1 | refine below_set ?_ GE192.out) | exact HB.out)) hb); clear BK192; clear HB; have BK192 := n0_; have HB := n1_; clear n0_ n1_; (try clear hb); (try clear hb2); (try clear hk); (try clear hi)))
    go_ret
    exact ⟨by first | rfl | (simp [errW_none, errW_some] <;> rfl) | (simp [*, errW_none, errW_some] <;> rfl), by repeat (first | (with_reducible first | exact HB.out | apply below_alloc | apply pw_below_drewN | apply below_drew1 | refine below_set ?_ GE192.out) | exact HB.out)⟩

/-- THE ONE PURE STATEMENT of hawalalaw07_ChartOf: yours. -/
def hawalalaw07_ChartOf.Pure : Prop := ∀ (y0 : S25) (a1 : Int) (a2 : Int) (a3 : Int), okS25 y0 → (Lit.int .i64 a1).wf = true → (Lit.int .i64 a2).wf = true → (Lit.int .i64 a3).wf = true → ∃ k, hawalalaw07_ChartOf.f k y0.f0 y0.f1 y0.f2 a1 a2 a3 = some true

end Go.Proofs.Ytajeobncbcpllaa.PAll
