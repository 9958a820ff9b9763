/- What each Go function computes, as a plain Lean function, and the proof that the machine comes to it; for every input. Laid by wip/tools of this session over the kit's print, with small turns of ours. Not trusted: Lean checks it. -/
import Derived.Test.YtinjmjgfhpojfaaPAllx0
import Derived.Test.YtinjmjgfhpojfaaPAllx6
namespace Go.Proofs.Ytinjmjgfhpojfaa.PAll
open Go.Proofs.YtinjmjgfhpojfaaW
open Go.RowKit Go.Proofs.YtinjmjgfhpojfaaW.PrintWords Go.Proofs.YtinjmjgfhpojfaaW.PrintLast Go.Proofs.YtinjmjgfhpojfaaW.PrintMore
attribute [local go_sem] max2_int min2_int max_two min_two max_three min_three max_four min_four   -- for this text's walks alone
set_option linter.unusedVariables false
set_option linter.unusedSimpArgs false

/-! ### hawalalaw14_Make: function 15 -/
def hawalalaw14_Make.l0 : Nat → List Bool → Int → Int → Int → Int → Int → Int → Int → Int → Int → Int → Int → Int → Int → Option (Int × Int × Int × Int × Int × Int × Int × Int × Int × Int × Int)
  | 0, _, _, _, _, _, _, _, _, _, _, _, _, _, _ => none
  | k + 1, x13, x14, x15, x293000, x293001, x293002, x293003, x293004, x293005, x293006, x293007, x293008, x293009, x293010 => if x15 < x14 then (if 0 ≤ x15 then (if x15 < (x13.length : Int) then ((hawalalaw14_leg.f k x293000 x293001 x293002 x293003 x293004 x293005 x293006 x293007 x293008 x293009 x293010 (rdOf false x13 x15)).bind fun bt294 => (hawalalaw14_Make.l0 k x13 x14 (wrap64 (x15 + 1)) bt294.1 bt294.2.1 bt294.2.2.1 bt294.2.2.2.1 bt294.2.2.2.2.1 bt294.2.2.2.2.2.1 bt294.2.2.2.2.2.2.1 bt294.2.2.2.2.2.2.2.1 bt294.2.2.2.2.2.2.2.2.1 bt294.2.2.2.2.2.2.2.2.2.1 bt294.2.2.2.2.2.2.2.2.2.2)) else (none)) else (none)) else (some (x293000, x293001, x293002, x293003, x293004, x293005, x293006, x293007, x293008, x293009, x293010))
def hawalalaw14_Make.f (k : Nat) (a0 : Int) (l1 : List Bool) : Option (Int × Int × Int × Int × Int × Int × Int × Int × Int × Int × Int) := hawalalaw14_Make.l0 k l1 (l1.length : Int) 0 0 0 0 0 0 (wrap64 (Int.tmod a0 5)) 0 0 0 0 0
theorem hawalalaw14_Make.mono_l : ∀ k, (∀ y0 y1 y2 y3 y4 y5 y6 y7 y8 y9 y10 y11 y12 y13, LeO (hawalalaw14_Make.l0 k y0 y1 y2 y3 y4 y5 y6 y7 y8 y9 y10 y11 y12 y13) (hawalalaw14_Make.l0 (k + 1) y0 y1 y2 y3 y4 y5 y6 y7 y8 y9 y10 y11 y12 y13))
  | 0 => fun _ _ _ _ _ _ _ _ _ _ _ _ _ _ r h => by simp [hawalalaw14_Make.l0] at h
  | k + 1 => by
    have ih0 := hawalalaw14_Make.mono_l k
    · intro y0 y1 y2 y3 y4 y5 y6 y7 y8 y9 y10 y11 y12 y13
      unfold hawalalaw14_Make.l0
      repeat' first
      | (with_reducible exact ih0 _ _ _ _ _ _ _ _ _ _ _ _ _ _)
      | (with_reducible exact hawalalaw14_leg.mono _ _ _ _ _ _ _ _ _ _ _ _ _)
      | (with_reducible exact LeO.refl _)
      | (with_reducible exact LeO.none _)
      | (with_reducible refine LeO.ite ?_ ?_)
      | (with_reducible refine LeO.bind ?_ (fun _ => ?_))
      | exact ih0 _ _ _ _ _ _ _ _ _ _ _ _ _ _
      | exact hawalalaw14_leg.mono _ _ _ _ _ _ _ _ _ _ _ _ _
      | exact LeO.none _
      | refine LeO.ite ?_ ?_
      | refine LeO.bind ?_ (fun _ => ?_)
theorem hawalalaw14_Make.mono : ∀ a0 a1 k, LeO (hawalalaw14_Make.f k a0 a1) (hawalalaw14_Make.f (k + 1) a0 a1) := by
  intro a0 a1 k
  have ih0 := hawalalaw14_Make.mono_l k
  unfold hawalalaw14_Make.f
  repeat' first
      | (with_reducible exact ih0 _ _ _ _ _ _ _ _ _ _ _ _ _ _)
      | (with_reducible exact hawalalaw14_leg.mono _ _ _ _ _ _ _ _ _ _ _ _ _)
      | (with_reducible exact LeO.refl _)
      | (with_reducible exact LeO.none _)
      | (with_reducible refine LeO.ite ?_ ?_)
      | (with_reducible refine LeO.bind ?_ (fun _ => ?_))
      | exact ih0 _ _ _ _ _ _ _ _ _ _ _ _ _ _
      | exact hawalalaw14_leg.mono _ _ _ _ _ _ _ _ _ _ _ _ _
      | exact LeO.none _
      | refine LeO.ite ?_ ?_
      | refine LeO.bind ?_ (fun _ => ?_)
set_option maxHeartbeats 8000000 in
set_option maxRecDepth 100000 in
theorem hawalalaw14_Make.calls (k : Nat) (a0 : Int) (A1 : Option Addr) (c1 : Nat) (l1 : List Bool) (r1 : Int) (r2 : Int) (r3 : Int) (r4 : Int) (r5 : Int) (r6 : Int) (r7 : Int) (r8 : Int) (r9 : Int) (r10 : Int) (r11 : Int) (w : World) (hr1 : Kd.C Kd.bool w A1 l1.length l1) (hc1 : l1.length ≤ c1) (h : hawalalaw14_Make.f k a0 l1 = some (r1, r2, r3, r4, r5, r6, r7, r8, r9, r10, r11)) :
    Calls Try.prog 15 #[.int .u8 a0, .slice A1 l1.length c1] w fun e w' => e = .returned (.agg #[.int .i64 r1, .int .i64 r2, .int .i64 r3, .int .i64 r4, .int .i64 r5, .int .i64 r6, .int .i64 r7, .int .i64 r8, .int .i64 r9, .int .i64 r10, .int .i64 r11]) ∧ Below w.heap.size w w' := by
  have hu30 := Try.underlying30
  have hu25 := Try.underlying25
  have HR1 := Aside0.mk hr1
  have HC1 := Aside0.mk hc1
  clear hr1 hc1
  have HB := Aside0.mk (Below.refl w.heap.size w)
  have H : (hawalalaw14_Make.l0 k l1 (l1.length : Int) 0 0 0 0 0 0 (wrap64 (Int.tmod a0 5)) 0 0 0 0 0) = some (r1, r2, r3, r4, r5, r6, r7, r8, r9, r10, r11) := h
  clear h
  have H' := Aside0.mk H
  clear H
  go_enter Try.func15, Try.ntmps15
  go_wp2_with (first | ((with_reducible refine gate_dst (N := 4) rfl ?_); refine box_event ?hg (N := 4) ?hd (cs := #[.int .i64 0, .int .i64 0, .int .i64 0, .int .i64 0, .int .i64 0, .int .i64 0, .int .i64 0, .int .i64 0, .int .i64 0, .int .i64 0, .int .i64 0]) (t := 30) ?hr ?_; (case hd => rfl); (case hg => rfl); (case hr => first | (go_simp; done) | (go_simp; rfl)); intro gb291 hg w3 hbox hb; have n0_ := Aside0.mk (below_step (by repeat (first | (with_reducible first | exact HB.out | apply below_alloc | apply pw_below_drewN | apply below_drew1) | exact HB.out)) hb); have n1_ := Aside0.mk (hbox); have n2_ := Aside0.mk ((by rw [hg]; exact (below_size (by repeat (first | (with_reducible first | exact HB.out | apply below_alloc | apply pw_below_drewN | apply below_drew1) | exact HB.out))) : w.heap.size ≤ gb291)); have n3_ := Aside0.mk ((by rw [hg]; exact (below_size (by repeat (first | (with_reducible first | exact HB.out | apply below_alloc | apply pw_below_drewN | apply below_drew1) | exact HB.out))) : w.heap.size ≤ gb291)); clear HB; have HB := n0_; have BK291 := n1_; have GW291 := n2_; have GE291 := n3_; clear n0_ n1_ n2_ n3_; clear hb hbox hg) | ((with_reducible refine gate_dst (N := 5) rfl ?_); refine box_event ?hg (N := 5) ?hd (cs := #[.int .i64 0, .int .i64 0, .int .i64 0, .int .i64 0, .int .i64 0, .int .i64 0, .int .i64 0, .int .i64 0, .int .i64 0, .int .i64 0, .int .i64 0]) (t := 30) ?hr ?_; (case hd => rfl); (case hg => rfl); (case hr => first | (go_simp; done) | (go_simp; rfl)); intro gb292 hg w4 hbox hb; have n0_ := Aside0.mk (blk_below (g := gb291) (o := .cells #[.int .i64 0, .int .i64 0, .int .i64 0, .int .i64 0, .int .i64 0, .int .i64 0, .int .i64 0, .int .i64 0, .int .i64 0, .int .i64 0, .int .i64 0] 30 (0, 0)) (by (with_reducible repeat (first | refine blk_drewN ?_ _ | refine blk_drew ?_ | refine blk_alloc ?_ _)); exact BK291.out) hb); have n1_ := Aside0.mk (below_step (by repeat (first | (with_reducible first | exact HB.out | apply below_alloc | apply pw_below_drewN | apply below_drew1 | refine below_set ?_ GE291.out) | exact HB.out)) hb); have n2_ := Aside0.mk (hbox); have n3_ := Aside0.mk ((by rw [hg]; exact (below_size (by repeat (first | (with_reducible first | exact HB.out | apply below_alloc | apply pw_below_drewN | apply below_drew1 | refine below_set ?_ GE291.out) | exact HB.out))) : w.heap.size ≤ gb292)); have n4_ := Aside0.mk ((by rw [hg]; exact (below_size (by repeat (first | (with_reducible first | exact HB.out | apply below_alloc | apply pw_below_drewN | apply below_drew1 | refine below_set ?_ GE291.out) | exact HB.out))) : w.heap.size ≤ gb292)); have n5_ := Aside0.mk ((by rw [hg]; exact Nat.ne_of_lt (blk_lt (g := gb291) (o := .cells #[.int .i64 0, .int .i64 0, .int .i64 0, .int .i64 0, .int .i64 0, .int .i64 0, .int .i64 0, .int .i64 0, .int .i64 0, .int .i64 0, .int .i64 0] 30 (0, 0)) (by (with_reducible repeat (first | refine blk_drewN ?_ _ | refine blk_drew ?_ | refine blk_alloc ?_ _)); exact BK291.out)) : gb291 ≠ gb292)); have n6_ := Aside0.mk ((by rw [hg]; exact Nat.ne_of_gt (blk_lt (g := gb291) (o := .cells #[.int .i64 0, .int .i64 0, .int .i64 0, .int .i64 0, .int .i64 0, .int .i64 0, .int .i64 0, .int .i64 0, .int .i64 0, .int .i64 0, .int .i64 0] 30 (0, 0)) (by (with_reducible repeat (first | refine blk_drewN ?_ _ | refine blk_drew ?_ | refine blk_alloc ?_ _)); exact BK291.out)) : gb292 ≠ gb291)); clear BK291; clear HB; have BK291 := n0_; have HB := n1_; have BK292 := n2_; have GW292 := n3_; have GE292 := n4_; have NB291_292 := n5_; have NB292_291 := n6_; clear n0_ n1_ n2_ n3_ n4_ n5_ n6_; clear hb hbox hg; have hnb5 := NB292_291.out; have hnc5 := NB291_292.out; have hcz6_0 : w4.cell? ⟨gb292, 0, none⟩ = some (.int .i64 0) := (blk_cell BK292.out 0).trans rfl; have hcz6_1 : w4.cell? ⟨gb292, 1, none⟩ = some (.int .i64 0) := (blk_cell BK292.out 1).trans rfl; have hcz6_2 : w4.cell? ⟨gb292, 2, none⟩ = some (.int .i64 0) := (blk_cell BK292.out 2).trans rfl; have hcz6_3 : w4.cell? ⟨gb292, 3, none⟩ = some (.int .i64 0) := (blk_cell BK292.out 3).trans rfl; have hcz6_4 : w4.cell? ⟨gb292, 4, none⟩ = some (.int .i64 0) := (blk_cell BK292.out 4).trans rfl; have hcz6_5 : w4.cell? ⟨gb292, 5, none⟩ = some (.int .i64 0) := (blk_cell BK292.out 5).trans rfl; have hcz6_6 : w4.cell? ⟨gb292, 6, none⟩ = some (.int .i64 0) := (blk_cell BK292.out 6).trans rfl; have hcz6_7 : w4.cell? ⟨gb292, 7, none⟩ = some (.int .i64 0) := (blk_cell BK292.out 7).trans rfl; have hcz6_8 : w4.cell? ⟨gb292, 8, none⟩ = some (.int .i64 0) := (blk_cell BK292.out 8).trans rfl; have hcz6_9 : w4.cell? ⟨gb292, 9, none⟩ = some (.int .i64 0) := (blk_cell BK292.out 9).trans rfl; have hcz6_10 : w4.cell? ⟨gb292, 10, none⟩ = some (.int .i64 0) := (blk_cell BK292.out 10).trans rfl; have hfz6_0 := blk_frozen BK292.out 0; have hfz6_1 := blk_frozen BK292.out 1; have hfz6_2 := blk_frozen BK292.out 2; have hfz6_3 := blk_frozen BK292.out 3; have hfz6_4 := blk_frozen BK292.out 4; have hfz6_5 := blk_frozen BK292.out 5; have hfz6_6 := blk_frozen BK292.out 6; have hfz6_7 := blk_frozen BK292.out 7; have hfz6_8 := blk_frozen BK292.out 8; have hfz6_9 := blk_frozen BK292.out 9; have hfz6_10 := blk_frozen BK292.out 10))
  go_loopg [15] k (fun kq v15 w' => ∃ (x15_1 : Int) (x293000_1 : Int) (x293001_1 : Int) (x293002_1 : Int) (x293003_1 : Int) (x293004_1 : Int) (x293005_1 : Int) (x293006_1 : Int) (x293007_1 : Int) (x293008_1 : Int) (x293009_1 : Int) (x293010_1 : Int), v15 = .int .i64 x15_1 ∧ Aside0 (hawalalaw14_Make.l0 kq l1 (l1.length : Int) x15_1 x293000_1 x293001_1 x293002_1 x293003_1 x293004_1 x293005_1 x293006_1 x293007_1 x293008_1 x293009_1 x293010_1 = some (r1, r2, r3, r4, r5, r6, r7, r8, r9, r10, r11)) ∧ Aside0 (kq ≤ k) ∧ Aside0 (w'.heap[gb291]? = some (.cells #[.int .i64 0, .int .i64 0, .int .i64 0, .int .i64 0, .int .i64 0, .int .i64 0, .int .i64 0, .int .i64 0, .int .i64 0, .int .i64 0, .int .i64 0] 30 (0, 0))) ∧ Aside0 (w'.heap[gb292]? = some (.cells #[.int .i64 x293000_1, .int .i64 x293001_1, .int .i64 x293002_1, .int .i64 x293003_1, .int .i64 x293004_1, .int .i64 x293005_1, .int .i64 x293006_1, .int .i64 x293007_1, .int .i64 x293008_1, .int .i64 x293009_1, .int .i64 x293010_1] 30 (0, 0))) ∧ Aside0 (Below w.heap.size w w'))
  case atStart => exact ⟨(0), (0), (0), (0), (0), (0), (wrap64 (Int.tmod a0 5)), (0), (0), (0), (0), (0), (by first | rfl | (simp; done) | (simp [*]; done)), H', ⟨Nat.le_refl _⟩, ⟨by (with_reducible repeat (first | refine blk_drewN ?_ _ | refine blk_drew ?_ | refine blk_alloc ?_ _)); refine blk_far ?_ NB291_292.out _; (with_reducible repeat (first | refine blk_drewN ?_ _ | refine blk_drew ?_ | refine blk_alloc ?_ _)); refine blk_far ?_ NB291_292.out _; (with_reducible repeat (first | refine blk_drewN ?_ _ | refine blk_drew ?_ | refine blk_alloc ?_ _)); refine blk_far ?_ NB291_292.out _; (with_reducible repeat (first | refine blk_drewN ?_ _ | refine blk_drew ?_ | refine blk_alloc ?_ _)); refine blk_far ?_ NB291_292.out _; (with_reducible repeat (first | refine blk_drewN ?_ _ | refine blk_drew ?_ | refine blk_alloc ?_ _)); refine blk_far ?_ NB291_292.out _; (with_reducible repeat (first | refine blk_drewN ?_ _ | refine blk_drew ?_ | refine blk_alloc ?_ _)); refine blk_far ?_ NB291_292.out _; (with_reducible repeat (first | refine blk_drewN ?_ _ | refine blk_drew ?_ | refine blk_alloc ?_ _)); refine blk_far ?_ NB291_292.out _; (with_reducible repeat (first | refine blk_drewN ?_ _ | refine blk_drew ?_ | refine blk_alloc ?_ _)); refine blk_far ?_ NB291_292.out _; (with_reducible repeat (first | refine blk_drewN ?_ _ | refine blk_drew ?_ | refine blk_alloc ?_ _)); refine blk_far ?_ NB291_292.out _; (with_reducible repeat (first | refine blk_drewN ?_ _ | refine blk_drew ?_ | refine blk_alloc ?_ _)); refine blk_far ?_ NB291_292.out _; (with_reducible repeat (first | refine blk_drewN ?_ _ | refine blk_drew ?_ | refine blk_alloc ?_ _)); refine blk_far ?_ NB291_292.out _; (with_reducible repeat (first | refine blk_drewN ?_ _ | refine blk_drew ?_ | refine blk_alloc ?_ _)); exact BK291.out⟩, ⟨by (with_reducible repeat (first | refine blk_drewN ?_ _ | refine blk_drew ?_ | refine blk_alloc ?_ _)); refine blk_put (cs := #[.int .i64 0, .int .i64 0, .int .i64 0, .int .i64 0, .int .i64 0, .int .i64 (wrap64 (Int.tmod a0 5)), .int .i64 0, .int .i64 0, .int .i64 0, .int .i64 0, .int .i64 0]) ?_ 10 _ rfl; (with_reducible repeat (first | refine blk_drewN ?_ _ | refine blk_drew ?_ | refine blk_alloc ?_ _)); refine blk_put (cs := #[.int .i64 0, .int .i64 0, .int .i64 0, .int .i64 0, .int .i64 0, .int .i64 (wrap64 (Int.tmod a0 5)), .int .i64 0, .int .i64 0, .int .i64 0, .int .i64 0, .int .i64 0]) ?_ 9 _ rfl; (with_reducible repeat (first | refine blk_drewN ?_ _ | refine blk_drew ?_ | refine blk_alloc ?_ _)); refine blk_put (cs := #[.int .i64 0, .int .i64 0, .int .i64 0, .int .i64 0, .int .i64 0, .int .i64 (wrap64 (Int.tmod a0 5)), .int .i64 0, .int .i64 0, .int .i64 0, .int .i64 0, .int .i64 0]) ?_ 8 _ rfl; (with_reducible repeat (first | refine blk_drewN ?_ _ | refine blk_drew ?_ | refine blk_alloc ?_ _)); refine blk_put (cs := #[.int .i64 0, .int .i64 0, .int .i64 0, .int .i64 0, .int .i64 0, .int .i64 (wrap64 (Int.tmod a0 5)), .int .i64 0, .int .i64 0, .int .i64 0, .int .i64 0, .int .i64 0]) ?_ 7 _ rfl; (with_reducible repeat (first | refine blk_drewN ?_ _ | refine blk_drew ?_ | refine blk_alloc ?_ _)); refine blk_put (cs := #[.int .i64 0, .int .i64 0, .int .i64 0, .int .i64 0, .int .i64 0, .int .i64 (wrap64 (Int.tmod a0 5)), .int .i64 0, .int .i64 0, .int .i64 0, .int .i64 0, .int .i64 0]) ?_ 6 _ rfl; (with_reducible repeat (first | refine blk_drewN ?_ _ | refine blk_drew ?_ | refine blk_alloc ?_ _)); refine blk_put (cs := #[.int .i64 0, .int .i64 0, .int .i64 0, .int .i64 0, .int .i64 0, .int .i64 0, .int .i64 0, .int .i64 0, .int .i64 0, .int .i64 0, .int .i64 0]) ?_ 5 _ rfl; (with_reducible repeat (first | refine blk_drewN ?_ _ | refine blk_drew ?_ | refine blk_alloc ?_ _)); refine blk_put (cs := #[.int .i64 0, .int .i64 0, .int .i64 0, .int .i64 0, .int .i64 0, .int .i64 0, .int .i64 0, .int .i64 0, .int .i64 0, .int .i64 0, .int .i64 0]) ?_ 4 _ rfl; (with_reducible repeat (first | refine blk_drewN ?_ _ | refine blk_drew ?_ | refine blk_alloc ?_ _)); refine blk_put (cs := #[.int .i64 0, .int .i64 0, .int .i64 0, .int .i64 0, .int .i64 0, .int .i64 0, .int .i64 0, .int .i64 0, .int .i64 0, .int .i64 0, .int .i64 0]) ?_ 3 _ rfl; (with_reducible repeat (first | refine blk_drewN ?_ _ | refine blk_drew ?_ | refine blk_alloc ?_ _)); refine blk_put (cs := #[.int .i64 0, .int .i64 0, .int .i64 0, .int .i64 0, .int .i64 0, .int .i64 0, .int .i64 0, .int .i64 0, .int .i64 0, .int .i64 0, .int .i64 0]) ?_ 2 _ rfl; (with_reducible repeat (first | refine blk_drewN ?_ _ | refine blk_drew ?_ | refine blk_alloc ?_ _)); refine blk_put (cs := #[.int .i64 0, .int .i64 0, .int .i64 0, .int .i64 0, .int .i64 0, .int .i64 0, .int .i64 0, .int .i64 0, .int .i64 0, .int .i64 0, .int .i64 0]) ?_ 1 _ rfl; (with_reducible repeat (first | refine blk_drewN ?_ _ | refine blk_drew ?_ | refine blk_alloc ?_ _)); refine blk_put (cs := #[.int .i64 0, .int .i64 0, .int .i64 0, .int .i64 0, .int .i64 0, .int .i64 0, .int .i64 0, .int .i64 0, .int .i64 0, .int .i64 0, .int .i64 0]) ?_ 0 _ rfl; (with_reducible repeat (first | refine blk_drewN ?_ _ | refine blk_drew ?_ | refine blk_alloc ?_ _)); exact BK292.out⟩, ⟨by repeat (first | (with_reducible first | exact HB.out | apply below_alloc | apply pw_below_drewN | apply below_drew1 | refine below_set ?_ GE291.out | refine below_set ?_ GE292.out) | exact HB.out)⟩⟩
  case round =>
    clear H'
    try clear c1
    try clear p2
    try clear c5
    try clear p6
    try clear hcz6_0
    try clear hcz6_1
    try clear hcz6_10
    try clear hcz6_2
    try clear hcz6_3
    try clear hcz6_4
    try clear hcz6_5
    try clear hcz6_6
    try clear hcz6_7
    try clear hcz6_8
    try clear hcz6_9
    try clear hfz6_0
    try clear hfz6_1
    try clear hfz6_10
    try clear hfz6_2
    try clear hfz6_3
    try clear hfz6_4
    try clear hfz6_5
    try clear hfz6_6
    try clear hfz6_7
    try clear hfz6_8
    try clear hfz6_9
    obtain ⟨x15_1, x293000_1, x293001_1, x293002_1, x293003_1, x293004_1, x293005_1, x293006_1, x293007_1, x293008_1, x293009_1, x293010_1, rfl, HA, HK1, BK291, BK292, HB⟩ := hrel
    cases gk with
    | zero => exact absurd HA.out (by simp [hawalalaw14_Make.l0])
    | succ k1 =>
      have H := HA.out
      clear HA
      simp only [hawalalaw14_Make.l0] at H
      by_cases c7 : x15_1 < (l1.length : Int)
      · rw [if_pos c7] at H
        have c7b0 : decide (x15_1 < (l1.length : Int)) = true := decide_eq_true c7
        clear c7
        by_cases c8 : 0 ≤ x15_1
        · rw [if_pos c8] at H
          have c8b0 : decide (0 ≤ x15_1) = true := decide_eq_true c8
          clear c8
          by_cases c9 : x15_1 < (l1.length : Int)
          · rw [if_pos c9] at H
            have c9b0 : decide (x15_1 < (l1.length : Int)) = true := decide_eq_true c9
            clear c9
            replace H := Option.bind_eq_some_iff.mp H
            obtain ⟨⟨t294, t295, t296, t297, t298, t299, t300, t301, t302, t303, t304⟩, A100, H⟩ := H
            replace H : (hawalalaw14_Make.l0 k1 l1 (l1.length : Int) (wrap64 (x15_1 + 1)) t294 t295 t296 t297 t298 t299 t300 t301 t302 t303 t304) = some (r1, r2, r3, r4, r5, r6, r7, r8, r9, r10, r11) := H
            have A10 := Aside0.mk A100
            clear A100
            have H' := Aside0.mk H
            clear H
            have p293 : 0 ≤ (x15_1 : Int) := of_decide_eq_true (by first | (with_reducible assumption) | assumption)
            have q293 : x15_1 < (l1.length : Int) := of_decide_eq_true (by first | (with_reducible assumption) | assumption)
            obtain ⟨ad293, e293, hx293_0⟩ := Kd.at_bool HR1.out x15_1 p293 q293
            cases e293
            replace hx293_0 := (HB.out.cell (World.block_lt_of_cell? w _ hx293_0)).trans hx293_0
            replace p293 := eq_true p293
            replace q293 := eq_true q293
            have hnb11 := NB292_291.out
            have hnc11 := NB291_292.out
            have hcz12_0 : wr.cell? ⟨gb292, 0, none⟩ = some (.int .i64 x293000_1) := (blk_cell BK292.out 0).trans rfl
            have hcz12_1 : wr.cell? ⟨gb292, 1, none⟩ = some (.int .i64 x293001_1) := (blk_cell BK292.out 1).trans rfl
            have hcz12_2 : wr.cell? ⟨gb292, 2, none⟩ = some (.int .i64 x293002_1) := (blk_cell BK292.out 2).trans rfl
            have hcz12_3 : wr.cell? ⟨gb292, 3, none⟩ = some (.int .i64 x293003_1) := (blk_cell BK292.out 3).trans rfl
            have hcz12_4 : wr.cell? ⟨gb292, 4, none⟩ = some (.int .i64 x293004_1) := (blk_cell BK292.out 4).trans rfl
            have hcz12_5 : wr.cell? ⟨gb292, 5, none⟩ = some (.int .i64 x293005_1) := (blk_cell BK292.out 5).trans rfl
            have hcz12_6 : wr.cell? ⟨gb292, 6, none⟩ = some (.int .i64 x293006_1) := (blk_cell BK292.out 6).trans rfl
            have hcz12_7 : wr.cell? ⟨gb292, 7, none⟩ = some (.int .i64 x293007_1) := (blk_cell BK292.out 7).trans rfl
            have hcz12_8 : wr.cell? ⟨gb292, 8, none⟩ = some (.int .i64 x293008_1) := (blk_cell BK292.out 8).trans rfl
            have hcz12_9 : wr.cell? ⟨gb292, 9, none⟩ = some (.int .i64 x293009_1) := (blk_cell BK292.out 9).trans rfl
            have hcz12_10 : wr.cell? ⟨gb292, 10, none⟩ = some (.int .i64 x293010_1) := (blk_cell BK292.out 10).trans rfl
            have hfz12_0 := blk_frozen BK292.out 0
            have hfz12_1 := blk_frozen BK292.out 1
            have hfz12_2 := blk_frozen BK292.out 2
            have hfz12_3 := blk_frozen BK292.out 3
            have hfz12_4 := blk_frozen BK292.out 4
            have hfz12_5 := blk_frozen BK292.out 5
            have hfz12_6 := blk_frozen BK292.out 6
            have hfz12_7 := blk_frozen BK292.out 7
            have hfz12_8 := blk_frozen BK292.out 8
            have hfz12_9 := blk_frozen BK292.out 9
            have hfz12_10 := blk_frozen BK292.out 10
            go_wp2_with (first | ((with_reducible refine gate_callee (f := 11) rfl ?_); refine goesL_ (some 21) rfl rfl Try.func11 (by kernel_rfl) rfl #[.agg #[.int .i64 x293000_1, .int .i64 x293001_1, .int .i64 x293002_1, .int .i64 x293003_1, .int .i64 x293004_1, .int .i64 x293005_1, .int .i64 x293006_1, .int .i64 x293007_1, .int .i64 x293008_1, .int .i64 x293009_1, .int .i64 x293010_1], .bool (rdOf false l1 x15_1)] rfl (by (try simp only [List.map_toArray, List.map_cons, List.map_nil]); first | done | rfl | (simp only [List.length_drop, List.length_take]; rfl)) ?_; (with_reducible refine (hawalalaw14_leg.calls k1 x293000_1 x293001_1 x293002_1 x293003_1 x293004_1 x293005_1 x293006_1 x293007_1 x293008_1 x293009_1 x293010_1 (rdOf false l1 x15_1) t294 t295 t296 t297 t298 t299 t300 t301 t302 t303 t304 _ A10.out).mono ?_); rintro e w13 ⟨rfl, hb⟩; refine ⟨_, rfl, ?_⟩; have n0_ := Aside0.mk (blk_below (g := gb291) (o := .cells #[.int .i64 0, .int .i64 0, .int .i64 0, .int .i64 0, .int .i64 0, .int .i64 0, .int .i64 0, .int .i64 0, .int .i64 0, .int .i64 0, .int .i64 0] 30 (0, 0)) (by (with_reducible repeat (first | refine blk_drewN ?_ _ | refine blk_drew ?_ | refine blk_alloc ?_ _)); exact BK291.out) hb); have n1_ := Aside0.mk (blk_below (g := gb292) (o := .cells #[.int .i64 x293000_1, .int .i64 x293001_1, .int .i64 x293002_1, .int .i64 x293003_1, .int .i64 x293004_1, .int .i64 x293005_1, .int .i64 x293006_1, .int .i64 x293007_1, .int .i64 x293008_1, .int .i64 x293009_1, .int .i64 x293010_1] 30 (0, 0)) (by (with_reducible repeat (first | refine blk_drewN ?_ _ | refine blk_drew ?_ | refine blk_alloc ?_ _)); exact BK292.out) hb); have n2_ := Aside0.mk (below_step (by repeat (first | (with_reducible first | exact HB.out | apply below_alloc | apply pw_below_drewN | apply below_drew1 | refine below_set ?_ GE291.out | refine below_set ?_ GE292.out) | exact HB.out)) hb); clear BK291; clear BK292; clear HB; have BK291 := n0_; have BK292 := n1_; have HB := n2_; clear n0_ n1_ n2_; (try clear hb); (try clear hb2); (try clear hk); (try clear hi); have hcz14_0 : w13.cell? ⟨gb292, 0, none⟩ = some (.int .i64 x293000_1) := (blk_cell BK292.out 0).trans rfl; have hcz14_1 : w13.cell? ⟨gb292, 1, none⟩ = some (.int .i64 x293001_1) := (blk_cell BK292.out 1).trans rfl; have hcz14_2 : w13.cell? ⟨gb292, 2, none⟩ = some (.int .i64 x293002_1) := (blk_cell BK292.out 2).trans rfl; have hcz14_3 : w13.cell? ⟨gb292, 3, none⟩ = some (.int .i64 x293003_1) := (blk_cell BK292.out 3).trans rfl; have hcz14_4 : w13.cell? ⟨gb292, 4, none⟩ = some (.int .i64 x293004_1) := (blk_cell BK292.out 4).trans rfl; have hcz14_5 : w13.cell? ⟨gb292, 5, none⟩ = some (.int .i64 x293005_1) := (blk_cell BK292.out 5).trans rfl; have hcz14_6 : w13.cell? ⟨gb292, 6, none⟩ = some (.int .i64 x293006_1) := (blk_cell BK292.out 6).trans rfl; have hcz14_7 : w13.cell? ⟨gb292, 7, none⟩ = some (.int .i64 x293007_1) := (blk_cell BK292.out 7).trans rfl; have hcz14_8 : w13.cell? ⟨gb292, 8, none⟩ = some (.int .i64 x293008_1) := (blk_cell BK292.out 8).trans rfl; have hcz14_9 : w13.cell? ⟨gb292, 9, none⟩ = some (.int .i64 x293009_1) := (blk_cell BK292.out 9).trans rfl; have hcz14_10 : w13.cell? ⟨gb292, 10, none⟩ = some (.int .i64 x293010_1) := (blk_cell BK292.out 10).trans rfl; have hfz14_0 := blk_frozen BK292.out 0; have hfz14_1 := blk_frozen BK292.out 1; have hfz14_2 := blk_frozen BK292.out 2; have hfz14_3 := blk_frozen BK292.out 3; have hfz14_4 := blk_frozen BK292.out 4; have hfz14_5 := blk_frozen BK292.out 5; have hfz14_6 := blk_frozen BK292.out 6; have hfz14_7 := blk_frozen BK292.out 7; have hfz14_8 := blk_frozen BK292.out 8; have hfz14_9 := blk_frozen BK292.out 9; have hfz14_10 := blk_frozen BK292.out 10))
            go_roundg k1
            case measure => have := HK1.out; omega
            case rel => exact ⟨(wrap64 (x15_1 + 1)), (t294), (t295), (t296), (t297), (t298), (t299), (t300), (t301), (t302), (t303), (t304), (by first | rfl | (simp; done) | (simp [*]; done)), H', ⟨by have := HK1.out; omega⟩, ⟨by (with_reducible repeat (first | refine blk_drewN ?_ _ | refine blk_drew ?_ | refine blk_alloc ?_ _)); refine blk_far ?_ NB291_292.out _; (with_reducible repeat (first | refine blk_drewN ?_ _ | refine blk_drew ?_ | refine blk_alloc ?_ _)); refine blk_far ?_ NB291_292.out _; (with_reducible repeat (first | refine blk_drewN ?_ _ | refine blk_drew ?_ | refine blk_alloc ?_ _)); refine blk_far ?_ NB291_292.out _; (with_reducible repeat (first | refine blk_drewN ?_ _ | refine blk_drew ?_ | refine blk_alloc ?_ _)); refine blk_far ?_ NB291_292.out _; (with_reducible repeat (first | refine blk_drewN ?_ _ | refine blk_drew ?_ | refine blk_alloc ?_ _)); refine blk_far ?_ NB291_292.out _; (with_reducible repeat (first | refine blk_drewN ?_ _ | refine blk_drew ?_ | refine blk_alloc ?_ _)); refine blk_far ?_ NB291_292.out _; (with_reducible repeat (first | refine blk_drewN ?_ _ | refine blk_drew ?_ | refine blk_alloc ?_ _)); refine blk_far ?_ NB291_292.out _; (with_reducible repeat (first | refine blk_drewN ?_ _ | refine blk_drew ?_ | refine blk_alloc ?_ _)); refine blk_far ?_ NB291_292.out _; (with_reducible repeat (first | refine blk_drewN ?_ _ | refine blk_drew ?_ | refine blk_alloc ?_ _)); refine blk_far ?_ NB291_292.out _; (with_reducible repeat (first | refine blk_drewN ?_ _ | refine blk_drew ?_ | refine blk_alloc ?_ _)); refine blk_far ?_ NB291_292.out _; (with_reducible repeat (first | refine blk_drewN ?_ _ | refine blk_drew ?_ | refine blk_alloc ?_ _)); refine blk_far ?_ NB291_292.out _; (with_reducible repeat (first | refine blk_drewN ?_ _ | refine blk_drew ?_ | refine blk_alloc ?_ _)); exact BK291.out⟩, ⟨by (with_reducible repeat (first | refine blk_drewN ?_ _ | refine blk_drew ?_ | refine blk_alloc ?_ _)); refine blk_put (cs := #[.int .i64 t294, .int .i64 t295, .int .i64 t296, .int .i64 t297, .int .i64 t298, .int .i64 t299, .int .i64 t300, .int .i64 t301, .int .i64 t302, .int .i64 t303, .int .i64 x293010_1]) ?_ 10 _ rfl; (with_reducible repeat (first | refine blk_drewN ?_ _ | refine blk_drew ?_ | refine blk_alloc ?_ _)); refine blk_put (cs := #[.int .i64 t294, .int .i64 t295, .int .i64 t296, .int .i64 t297, .int .i64 t298, .int .i64 t299, .int .i64 t300, .int .i64 t301, .int .i64 t302, .int .i64 x293009_1, .int .i64 x293010_1]) ?_ 9 _ rfl; (with_reducible repeat (first | refine blk_drewN ?_ _ | refine blk_drew ?_ | refine blk_alloc ?_ _)); refine blk_put (cs := #[.int .i64 t294, .int .i64 t295, .int .i64 t296, .int .i64 t297, .int .i64 t298, .int .i64 t299, .int .i64 t300, .int .i64 t301, .int .i64 x293008_1, .int .i64 x293009_1, .int .i64 x293010_1]) ?_ 8 _ rfl; (with_reducible repeat (first | refine blk_drewN ?_ _ | refine blk_drew ?_ | refine blk_alloc ?_ _)); refine blk_put (cs := #[.int .i64 t294, .int .i64 t295, .int .i64 t296, .int .i64 t297, .int .i64 t298, .int .i64 t299, .int .i64 t300, .int .i64 x293007_1, .int .i64 x293008_1, .int .i64 x293009_1, .int .i64 x293010_1]) ?_ 7 _ rfl; (with_reducible repeat (first | refine blk_drewN ?_ _ | refine blk_drew ?_ | refine blk_alloc ?_ _)); refine blk_put (cs := #[.int .i64 t294, .int .i64 t295, .int .i64 t296, .int .i64 t297, .int .i64 t298, .int .i64 t299, .int .i64 x293006_1, .int .i64 x293007_1, .int .i64 x293008_1, .int .i64 x293009_1, .int .i64 x293010_1]) ?_ 6 _ rfl; (with_reducible repeat (first | refine blk_drewN ?_ _ | refine blk_drew ?_ | refine blk_alloc ?_ _)); refine blk_put (cs := #[.int .i64 t294, .int .i64 t295, .int .i64 t296, .int .i64 t297, .int .i64 t298, .int .i64 x293005_1, .int .i64 x293006_1, .int .i64 x293007_1, .int .i64 x293008_1, .int .i64 x293009_1, .int .i64 x293010_1]) ?_ 5 _ rfl; (with_reducible repeat (first | refine blk_drewN ?_ _ | refine blk_drew ?_ | refine blk_alloc ?_ _)); refine blk_put (cs := #[.int .i64 t294, .int .i64 t295, .int .i64 t296, .int .i64 t297, .int .i64 x293004_1, .int .i64 x293005_1, .int .i64 x293006_1, .int .i64 x293007_1, .int .i64 x293008_1, .int .i64 x293009_1, .int .i64 x293010_1]) ?_ 4 _ rfl; (with_reducible repeat (first | refine blk_drewN ?_ _ | refine blk_drew ?_ | refine blk_alloc ?_ _)); refine blk_put (cs := #[.int .i64 t294, .int .i64 t295, .int .i64 t296, .int .i64 x293003_1, .int .i64 x293004_1, .int .i64 x293005_1, .int .i64 x293006_1, .int .i64 x293007_1, .int .i64 x293008_1, .int .i64 x293009_1, .int .i64 x293010_1]) ?_ 3 _ rfl; (with_reducible repeat (first | refine blk_drewN ?_ _ | refine blk_drew ?_ | refine blk_alloc ?_ _)); refine blk_put (cs := #[.int .i64 t294, .int .i64 t295, .int .i64 x293002_1, .int .i64 x293003_1, .int .i64 x293004_1, .int .i64 x293005_1, .int .i64 x293006_1, .int .i64 x293007_1, .int .i64 x293008_1, .int .i64 x293009_1, .int .i64 x293010_1]) ?_ 2 _ rfl; (with_reducible repeat (first | refine blk_drewN ?_ _ | refine blk_drew ?_ | refine blk_alloc ?_ _)); refine blk_put (cs := #[.int .i64 t294, .int .i64 x293001_1, .int .i64 x293002_1, .int .i64 x293003_1, .int .i64 x293004_1, .int .i64 x293005_1, .int .i64 x293006_1, .int .i64 x293007_1, .int .i64 x293008_1, .int .i64 x293009_1, .int .i64 x293010_1]) ?_ 1 _ rfl; (with_reducible repeat (first | refine blk_drewN ?_ _ | refine blk_drew ?_ | refine blk_alloc ?_ _)); refine blk_put (cs := #[.int .i64 x293000_1, .int .i64 x293001_1, .int .i64 x293002_1, .int .i64 x293003_1, .int .i64 x293004_1, .int .i64 x293005_1, .int .i64 x293006_1, .int .i64 x293007_1, .int .i64 x293008_1, .int .i64 x293009_1, .int .i64 x293010_1]) ?_ 0 _ rfl; (with_reducible repeat (first | refine blk_drewN ?_ _ | refine blk_drew ?_ | refine blk_alloc ?_ _)); exact BK292.out⟩, ⟨by repeat (first | (with_reducible first | exact HB.out | apply below_alloc | apply pw_below_drewN | apply below_drew1 | refine below_set ?_ GE291.out | refine below_set ?_ GE292.out) | exact HB.out)⟩⟩
          · rw [if_neg c9] at H
            exact absurd H (by simp)
        · rw [if_neg c8] at H
          exact absurd H (by simp)
      · rw [if_neg c7] at H
        have c7b0 : decide (x15_1 < (l1.length : Int)) = false := decide_eq_false c7
        clear c7
        simp only [Option.some.injEq, Prod.mk.injEq] at H
        obtain ⟨rfl, rfl, rfl, rfl, rfl, rfl, rfl, rfl, rfl, rfl, rfl⟩ := H
        have hnb15 := NB292_291.out
        have hnc15 := NB291_292.out
        have hcz16_0 : wr.cell? ⟨gb292, 0, none⟩ = some (.int .i64 x293000_1) := (blk_cell BK292.out 0).trans rfl
        have hcz16_1 : wr.cell? ⟨gb292, 1, none⟩ = some (.int .i64 x293001_1) := (blk_cell BK292.out 1).trans rfl
        have hcz16_2 : wr.cell? ⟨gb292, 2, none⟩ = some (.int .i64 x293002_1) := (blk_cell BK292.out 2).trans rfl
        have hcz16_3 : wr.cell? ⟨gb292, 3, none⟩ = some (.int .i64 x293003_1) := (blk_cell BK292.out 3).trans rfl
        have hcz16_4 : wr.cell? ⟨gb292, 4, none⟩ = some (.int .i64 x293004_1) := (blk_cell BK292.out 4).trans rfl
        have hcz16_5 : wr.cell? ⟨gb292, 5, none⟩ = some (.int .i64 x293005_1) := (blk_cell BK292.out 5).trans rfl
        have hcz16_6 : wr.cell? ⟨gb292, 6, none⟩ = some (.int .i64 x293006_1) := (blk_cell BK292.out 6).trans rfl
        have hcz16_7 : wr.cell? ⟨gb292, 7, none⟩ = some (.int .i64 x293007_1) := (blk_cell BK292.out 7).trans rfl
        have hcz16_8 : wr.cell? ⟨gb292, 8, none⟩ = some (.int .i64 x293008_1) := (blk_cell BK292.out 8).trans rfl
        have hcz16_9 : wr.cell? ⟨gb292, 9, none⟩ = some (.int .i64 x293009_1) := (blk_cell BK292.out 9).trans rfl
        have hcz16_10 : wr.cell? ⟨gb292, 10, none⟩ = some (.int .i64 x293010_1) := (blk_cell BK292.out 10).trans rfl
        have hfz16_0 := blk_frozen BK292.out 0
        have hfz16_1 := blk_frozen BK292.out 1
        have hfz16_2 := blk_frozen BK292.out 2
        have hfz16_3 := blk_frozen BK292.out 3
        have hfz16_4 := blk_frozen BK292.out 4
        have hfz16_5 := blk_frozen BK292.out 5
        have hfz16_6 := blk_frozen BK292.out 6
        have hfz16_7 := blk_frozen BK292.out 7
        have hfz16_8 := blk_frozen BK292.out 8
        have hfz16_9 := blk_frozen BK292.out 9
        have hfz16_10 := blk_frozen BK292.out 10
        have hcz17_0 : wr.cell? ⟨gb291, 0, none⟩ = some (.int .i64 0) := (blk_cell BK291.out 0).trans rfl
        have hcz17_1 : wr.cell? ⟨gb291, 1, none⟩ = some (.int .i64 0) := (blk_cell BK291.out 1).trans rfl
        have hcz17_2 : wr.cell? ⟨gb291, 2, none⟩ = some (.int .i64 0) := (blk_cell BK291.out 2).trans rfl
        have hcz17_3 : wr.cell? ⟨gb291, 3, none⟩ = some (.int .i64 0) := (blk_cell BK291.out 3).trans rfl
        have hcz17_4 : wr.cell? ⟨gb291, 4, none⟩ = some (.int .i64 0) := (blk_cell BK291.out 4).trans rfl
        have hcz17_5 : wr.cell? ⟨gb291, 5, none⟩ = some (.int .i64 0) := (blk_cell BK291.out 5).trans rfl
        have hcz17_6 : wr.cell? ⟨gb291, 6, none⟩ = some (.int .i64 0) := (blk_cell BK291.out 6).trans rfl
        have hcz17_7 : wr.cell? ⟨gb291, 7, none⟩ = some (.int .i64 0) := (blk_cell BK291.out 7).trans rfl
        have hcz17_8 : wr.cell? ⟨gb291, 8, none⟩ = some (.int .i64 0) := (blk_cell BK291.out 8).trans rfl
        have hcz17_9 : wr.cell? ⟨gb291, 9, none⟩ = some (.int .i64 0) := (blk_cell BK291.out 9).trans rfl
        have hcz17_10 : wr.cell? ⟨gb291, 10, none⟩ = some (.int .i64 0) := (blk_cell BK291.out 10).trans rfl
        have hfz17_0 := blk_frozen BK291.out 0
        have hfz17_1 := blk_frozen BK291.out 1
        have hfz17_2 := blk_frozen BK291.out 2
        have hfz17_3 := blk_frozen BK291.out 3
        have hfz17_4 := blk_frozen BK291.out 4
        have hfz17_5 := blk_frozen BK291.out 5
        have hfz17_6 := blk_frozen BK291.out 6
        have hfz17_7 := blk_frozen BK291.out 7
        have hfz17_8 := blk_frozen BK291.out 8
        have hfz17_9 := blk_frozen BK291.out 9
        have hfz17_10 := blk_frozen BK291.out 10
        go_wp2
        refine bodyPost_ret (results_cell_row rfl _ _ gb291 30 #[.int .i64 x293000_1, .int .i64 x293001_1, .int .i64 x293002_1, .int .i64 x293003_1, .int .i64 x293004_1, .int .i64 x293005_1, .int .i64 x293006_1, .int .i64 x293007_1, .int .i64 x293008_1, .int .i64 x293009_1, .int .i64 x293010_1] (0, 0) _ rfl (by (with_reducible repeat (first | refine blk_drewN ?_ _ | refine blk_drew ?_ | refine blk_alloc ?_ _)); refine blk_put (cs := #[.int .i64 x293000_1, .int .i64 x293001_1, .int .i64 x293002_1, .int .i64 x293003_1, .int .i64 x293004_1, .int .i64 x293005_1, .int .i64 x293006_1, .int .i64 x293007_1, .int .i64 x293008_1, .int .i64 x293009_1, .int .i64 0]) ?_ 10 _ rfl; (with_reducible repeat (first | refine blk_drewN ?_ _ | refine blk_drew ?_ | refine blk_alloc ?_ _)); refine blk_put (cs := #[.int .i64 x293000_1, .int .i64 x293001_1, .int .i64 x293002_1, .int .i64 x293003_1, .int .i64 x293004_1, .int .i64 x293005_1, .int .i64 x293006_1, .int .i64 x293007_1, .int .i64 x293008_1, .int .i64 0, .int .i64 0]) ?_ 9 _ rfl; (with_reducible repeat (first | refine blk_drewN ?_ _ | refine blk_drew ?_ | refine blk_alloc ?_ _)); refine blk_put (cs := #[.int .i64 x293000_1, .int .i64 x293001_1, .int .i64 x293002_1, .int .i64 x293003_1, .int .i64 x293004_1, .int .i64 x293005_1, .int .i64 x293006_1, .int .i64 x293007_1, .int .i64 0, .int .i64 0, .int .i64 0]) ?_ 8 _ rfl; (with_reducible repeat (first | refine blk_drewN ?_ _ | refine blk_drew ?_ | refine blk_alloc ?_ _)); refine blk_put (cs := #[.int .i64 x293000_1, .int .i64 x293001_1, .int .i64 x293002_1, .int .i64 x293003_1, .int .i64 x293004_1, .int .i64 x293005_1, .int .i64 x293006_1, .int .i64 0, .int .i64 0, .int .i64 0, .int .i64 0]) ?_ 7 _ rfl; (with_reducible repeat (first | refine blk_drewN ?_ _ | refine blk_drew ?_ | refine blk_alloc ?_ _)); refine blk_put (cs := #[.int .i64 x293000_1, .int .i64 x293001_1, .int .i64 x293002_1, .int .i64 x293003_1, .int .i64 x293004_1, .int .i64 x293005_1, .int .i64 0, .int .i64 0, .int .i64 0, .int .i64 0, .int .i64 0]) ?_ 6 _ rfl; (with_reducible repeat (first | refine blk_drewN ?_ _ | refine blk_drew ?_ | refine blk_alloc ?_ _)); refine blk_put (cs := #[.int .i64 x293000_1, .int .i64 x293001_1, .int .i64 x293002_1, .int .i64 x293003_1, .int .i64 x293004_1, .int .i64 0, .int .i64 0, .int .i64 0, .int .i64 0, .int .i64 0, .int .i64 0]) ?_ 5 _ rfl; (with_reducible repeat (first | refine blk_drewN ?_ _ | refine blk_drew ?_ | refine blk_alloc ?_ _)); refine blk_put (cs := #[.int .i64 x293000_1, .int .i64 x293001_1, .int .i64 x293002_1, .int .i64 x293003_1, .int .i64 0, .int .i64 0, .int .i64 0, .int .i64 0, .int .i64 0, .int .i64 0, .int .i64 0]) ?_ 4 _ rfl; (with_reducible repeat (first | refine blk_drewN ?_ _ | refine blk_drew ?_ | refine blk_alloc ?_ _)); refine blk_put (cs := #[.int .i64 x293000_1, .int .i64 x293001_1, .int .i64 x293002_1, .int .i64 0, .int .i64 0, .int .i64 0, .int .i64 0, .int .i64 0, .int .i64 0, .int .i64 0, .int .i64 0]) ?_ 3 _ rfl; (with_reducible repeat (first | refine blk_drewN ?_ _ | refine blk_drew ?_ | refine blk_alloc ?_ _)); refine blk_put (cs := #[.int .i64 x293000_1, .int .i64 x293001_1, .int .i64 0, .int .i64 0, .int .i64 0, .int .i64 0, .int .i64 0, .int .i64 0, .int .i64 0, .int .i64 0, .int .i64 0]) ?_ 2 _ rfl; (with_reducible repeat (first | refine blk_drewN ?_ _ | refine blk_drew ?_ | refine blk_alloc ?_ _)); refine blk_put (cs := #[.int .i64 x293000_1, .int .i64 0, .int .i64 0, .int .i64 0, .int .i64 0, .int .i64 0, .int .i64 0, .int .i64 0, .int .i64 0, .int .i64 0, .int .i64 0]) ?_ 1 _ rfl; (with_reducible repeat (first | refine blk_drewN ?_ _ | refine blk_drew ?_ | refine blk_alloc ?_ _)); refine blk_put (cs := #[.int .i64 0, .int .i64 0, .int .i64 0, .int .i64 0, .int .i64 0, .int .i64 0, .int .i64 0, .int .i64 0, .int .i64 0, .int .i64 0, .int .i64 0]) ?_ 0 _ rfl; (with_reducible repeat (first | refine blk_drewN ?_ _ | refine blk_drew ?_ | refine blk_alloc ?_ _)); exact BK291.out) Try.underlying30 rfl (by kernel_rfl)) rfl ?_
        exact ⟨by first | rfl | (simp [errW_none, errW_some] <;> rfl) | (simp [*, errW_none, errW_some] <;> rfl), by repeat (first | (with_reducible first | exact HB.out | apply below_alloc | apply pw_below_drewN | apply below_drew1 | refine below_set ?_ GE291.out | refine below_set ?_ GE292.out) | exact HB.out)⟩

end Go.Proofs.Ytinjmjgfhpojfaa.PAll
