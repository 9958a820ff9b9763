/- What each Go function computes, as a plain Lean function, and the proof that the machine comes to it; for every input. Laid by wip/tools of this session over the kit's print, with small turns of ours. Not trusted: Lean checks it. -/
import Derived.Test.YtinjmjgfhpojfaaPAllx0
import Derived.Test.YtinjmjgfhpojfaaPAllx2
import Derived.Test.YtinjmjgfhpojfaaPAllx3
import Derived.Test.YtinjmjgfhpojfaaPAllx4
namespace Go.Proofs.Ytinjmjgfhpojfaa.PAll
open Go.Proofs.YtinjmjgfhpojfaaW
open Go.RowKit Go.Proofs.YtinjmjgfhpojfaaW.PrintWords Go.Proofs.YtinjmjgfhpojfaaW.PrintLast Go.Proofs.YtinjmjgfhpojfaaW.PrintMore
attribute [local go_sem] max2_int min2_int max_two min_two max_three min_three max_four min_four   -- for this text's walks alone
set_option linter.unusedVariables false
set_option linter.unusedSimpArgs false

/-! ### hawalalaw14_awake: function 7 -/
def hawalalaw14_awake.l0 : Nat → Int → Int → Int → Int → Int → Int → Int → Int → Int → Int → Int → Int → Option (Bool)
  | 0, _, _, _, _, _, _, _, _, _, _, _, _ => none
  | k + 1, x2, x146000, x146001, x146002, x146003, x146004, x146005, x146006, x146007, x146008, x146009, x146010 => if x2 < 4 then ((saga_Leg.f k x146000 x146001 x146002 x146003 x146004 x146005 x146006 x146007 x146008 x146009 x146010 false).bind fun bt146 => (hawalalaw14_awake.l0 k (wrap64 (x2 + 1)) bt146.1 bt146.2.1 bt146.2.2.1 bt146.2.2.2.1 bt146.2.2.2.2.1 bt146.2.2.2.2.2.1 bt146.2.2.2.2.2.2.1 bt146.2.2.2.2.2.2.2.1 bt146.2.2.2.2.2.2.2.2.1 bt146.2.2.2.2.2.2.2.2.2.1 bt146.2.2.2.2.2.2.2.2.2.2)) else (if x146007 = 1 then (if x146010 = 9 then (if x146009 = 4 then (if x146005 = 2 then ((saga_Right.f k x146000 x146001 x146002 x146003 x146004 x146005 x146006 x146007 x146008 x146009 x146010).bind fun t157 => (some t157)) else (some false)) else (some false)) else (some false)) else (some false))
def hawalalaw14_awake.f (k : Nat)  : Option (Bool) := (saga_Begin.f 0 0 0 0 0 2 0).bind fun bt134 => (hawalalaw14_awake.l0 k 0 bt134.1 bt134.2.1 bt134.2.2.1 bt134.2.2.2.1 bt134.2.2.2.2.1 bt134.2.2.2.2.2.1 bt134.2.2.2.2.2.2.1 bt134.2.2.2.2.2.2.2.1 bt134.2.2.2.2.2.2.2.2.1 bt134.2.2.2.2.2.2.2.2.2.1 bt134.2.2.2.2.2.2.2.2.2.2)
theorem hawalalaw14_awake.mono_l : ∀ k, (∀ y0 y1 y2 y3 y4 y5 y6 y7 y8 y9 y10 y11, LeO (hawalalaw14_awake.l0 k y0 y1 y2 y3 y4 y5 y6 y7 y8 y9 y10 y11) (hawalalaw14_awake.l0 (k + 1) y0 y1 y2 y3 y4 y5 y6 y7 y8 y9 y10 y11))
  | 0 => fun _ _ _ _ _ _ _ _ _ _ _ _ r h => by simp [hawalalaw14_awake.l0] at h
  | k + 1 => by
    have ih0 := hawalalaw14_awake.mono_l k
    · intro y0 y1 y2 y3 y4 y5 y6 y7 y8 y9 y10 y11
      unfold hawalalaw14_awake.l0
      repeat' first
      | (with_reducible exact ih0 _ _ _ _ _ _ _ _ _ _ _ _)
      | (with_reducible exact saga_Leg.mono _ _ _ _ _ _ _ _ _ _ _ _ _)
      | (with_reducible exact saga_Right.mono _ _ _ _ _ _ _ _ _ _ _ _)
      | (with_reducible exact LeO.refl _)
      | (with_reducible exact LeO.none _)
      | (with_reducible refine LeO.ite ?_ ?_)
      | (with_reducible refine LeO.bind ?_ (fun _ => ?_))
      | exact ih0 _ _ _ _ _ _ _ _ _ _ _ _
      | exact saga_Leg.mono _ _ _ _ _ _ _ _ _ _ _ _ _
      | exact saga_Right.mono _ _ _ _ _ _ _ _ _ _ _ _
      | exact LeO.none _
      | refine LeO.ite ?_ ?_
      | refine LeO.bind ?_ (fun _ => ?_)
theorem hawalalaw14_awake.mono : ∀ k, LeO (hawalalaw14_awake.f k ) (hawalalaw14_awake.f (k + 1) ) := by
  intro  k
  have ih0 := hawalalaw14_awake.mono_l k
  unfold hawalalaw14_awake.f
  repeat' first
      | (with_reducible exact ih0 _ _ _ _ _ _ _ _ _ _ _ _)
      | (with_reducible exact saga_Leg.mono _ _ _ _ _ _ _ _ _ _ _ _ _)
      | (with_reducible exact saga_Right.mono _ _ _ _ _ _ _ _ _ _ _ _)
      | (with_reducible exact LeO.refl _)
      | (with_reducible exact LeO.none _)
      | (with_reducible refine LeO.ite ?_ ?_)
      | (with_reducible refine LeO.bind ?_ (fun _ => ?_))
      | exact ih0 _ _ _ _ _ _ _ _ _ _ _ _
      | exact saga_Leg.mono _ _ _ _ _ _ _ _ _ _ _ _ _
      | exact saga_Right.mono _ _ _ _ _ _ _ _ _ _ _ _
      | exact LeO.none _
      | refine LeO.ite ?_ ?_
      | refine LeO.bind ?_ (fun _ => ?_)
set_option maxHeartbeats 8000000 in
set_option maxRecDepth 100000 in
theorem hawalalaw14_awake.calls (k : Nat)  (r : Bool) (w : World) (h : hawalalaw14_awake.f k  = some r) :
    Calls Try.prog 7 #[] w fun e w' => e = .returned (.bool r) ∧ Below w.heap.size w w' := by
  have hu25 := Try.underlying25
  have hu30 := Try.underlying30
  have HB := Aside0.mk (Below.refl w.heap.size w)
  have H : ((saga_Begin.f 0 0 0 0 0 2 0).bind fun bt134 => (hawalalaw14_awake.l0 k 0 bt134.1 bt134.2.1 bt134.2.2.1 bt134.2.2.2.1 bt134.2.2.2.2.1 bt134.2.2.2.2.2.1 bt134.2.2.2.2.2.2.1 bt134.2.2.2.2.2.2.2.1 bt134.2.2.2.2.2.2.2.2.1 bt134.2.2.2.2.2.2.2.2.2.1 bt134.2.2.2.2.2.2.2.2.2.2)) = some r := h
  clear h
  replace H := Option.bind_eq_some_iff.mp H
  obtain ⟨⟨t134, t135, t136, t137, t138, t139, t140, t141, t142, t143, t144⟩, A10, H⟩ := H
  replace H : (hawalalaw14_awake.l0 k 0 t134 t135 t136 t137 t138 t139 t140 t141 t142 t143 t144) = some r := H
  have A1 := Aside0.mk A10
  clear A10
  have H' := Aside0.mk H
  clear H
  go_enter Try.func7, Try.ntmps7
  go_wp2_with (first | ((with_reducible refine gate_callee (f := 8) rfl ?_); refine goesL_ (some 4) rfl rfl Try.func8 (by kernel_rfl) rfl #[.agg #[.int .i64 0, .int .i64 0, .int .i64 0, .int .i64 0, .int .i64 0, .int .i64 2, .int .i64 0]] rfl (by (try simp only [List.map_toArray, List.map_cons, List.map_nil]); first | done | rfl | (simp only [List.length_drop, List.length_take]; rfl)) ?_; (with_reducible refine (saga_Begin.calls 0 0 0 0 0 2 0 t134 t135 t136 t137 t138 t139 t140 t141 t142 t143 t144 _ A1.out).mono ?_); rintro e w2 ⟨rfl, hb⟩; refine ⟨_, rfl, ?_⟩; have n0_ := Aside0.mk (below_step (by repeat (first | (with_reducible first | exact HB.out | apply below_alloc | apply pw_below_drewN | apply below_drew1) | exact HB.out)) hb); clear HB; have HB := n0_; clear n0_; (try clear hb); (try clear hb2); (try clear hk); (try clear hi)) | ((with_reducible refine gate_dst (N := 1) rfl ?_); refine box_event ?hg (N := 1) ?hd (cs := #[.int .i64 0, .int .i64 0, .int .i64 0, .int .i64 0, .int .i64 0, .int .i64 0, .int .i64 0, .int .i64 0, .int .i64 0, .int .i64 0, .int .i64 0]) (t := 30) ?hr ?_; (case hd => rfl); (case hg => rfl); (case hr => first | (go_simp; done) | (go_simp; rfl)); intro gb145 hg w3 hbox hb; have n0_ := Aside0.mk (below_step (by repeat (first | (with_reducible first | exact HB.out | apply below_alloc | apply pw_below_drewN | apply below_drew1) | exact HB.out)) hb); have n1_ := Aside0.mk (hbox); have n2_ := Aside0.mk ((by rw [hg]; exact (below_size (by repeat (first | (with_reducible first | exact HB.out | apply below_alloc | apply pw_below_drewN | apply below_drew1) | exact HB.out))) : w.heap.size ≤ gb145)); have n3_ := Aside0.mk ((by rw [hg]; exact (below_size (by repeat (first | (with_reducible first | exact HB.out | apply below_alloc | apply pw_below_drewN | apply below_drew1) | exact HB.out))) : w.heap.size ≤ gb145)); clear HB; have HB := n0_; have BK145 := n1_; have GW145 := n2_; have GE145 := n3_; clear n0_ n1_ n2_ n3_; clear hb hbox hg; have hcz4_0 : w3.cell? ⟨gb145, 0, none⟩ = some (.int .i64 0) := (blk_cell BK145.out 0).trans rfl; have hcz4_1 : w3.cell? ⟨gb145, 1, none⟩ = some (.int .i64 0) := (blk_cell BK145.out 1).trans rfl; have hcz4_2 : w3.cell? ⟨gb145, 2, none⟩ = some (.int .i64 0) := (blk_cell BK145.out 2).trans rfl; have hcz4_3 : w3.cell? ⟨gb145, 3, none⟩ = some (.int .i64 0) := (blk_cell BK145.out 3).trans rfl; have hcz4_4 : w3.cell? ⟨gb145, 4, none⟩ = some (.int .i64 0) := (blk_cell BK145.out 4).trans rfl; have hcz4_5 : w3.cell? ⟨gb145, 5, none⟩ = some (.int .i64 0) := (blk_cell BK145.out 5).trans rfl; have hcz4_6 : w3.cell? ⟨gb145, 6, none⟩ = some (.int .i64 0) := (blk_cell BK145.out 6).trans rfl; have hcz4_7 : w3.cell? ⟨gb145, 7, none⟩ = some (.int .i64 0) := (blk_cell BK145.out 7).trans rfl; have hcz4_8 : w3.cell? ⟨gb145, 8, none⟩ = some (.int .i64 0) := (blk_cell BK145.out 8).trans rfl; have hcz4_9 : w3.cell? ⟨gb145, 9, none⟩ = some (.int .i64 0) := (blk_cell BK145.out 9).trans rfl; have hcz4_10 : w3.cell? ⟨gb145, 10, none⟩ = some (.int .i64 0) := (blk_cell BK145.out 10).trans rfl; have hfz4_0 := blk_frozen BK145.out 0; have hfz4_1 := blk_frozen BK145.out 1; have hfz4_2 := blk_frozen BK145.out 2; have hfz4_3 := blk_frozen BK145.out 3; have hfz4_4 := blk_frozen BK145.out 4; have hfz4_5 := blk_frozen BK145.out 5; have hfz4_6 := blk_frozen BK145.out 6; have hfz4_7 := blk_frozen BK145.out 7; have hfz4_8 := blk_frozen BK145.out 8; have hfz4_9 := blk_frozen BK145.out 9; have hfz4_10 := blk_frozen BK145.out 10))
  go_loopg [2] k (fun kq v2 w' => ∃ (x2_1 : Int) (x146000_1 : Int) (x146001_1 : Int) (x146002_1 : Int) (x146003_1 : Int) (x146004_1 : Int) (x146005_1 : Int) (x146006_1 : Int) (x146007_1 : Int) (x146008_1 : Int) (x146009_1 : Int) (x146010_1 : Int), v2 = .int .i64 x2_1 ∧ Aside0 (hawalalaw14_awake.l0 kq x2_1 x146000_1 x146001_1 x146002_1 x146003_1 x146004_1 x146005_1 x146006_1 x146007_1 x146008_1 x146009_1 x146010_1 = some r) ∧ Aside0 (kq ≤ k) ∧ Aside0 (w'.heap[gb145]? = some (.cells #[.int .i64 x146000_1, .int .i64 x146001_1, .int .i64 x146002_1, .int .i64 x146003_1, .int .i64 x146004_1, .int .i64 x146005_1, .int .i64 x146006_1, .int .i64 x146007_1, .int .i64 x146008_1, .int .i64 x146009_1, .int .i64 x146010_1] 30 (0, 0))) ∧ Aside0 (Below w.heap.size w w'))
  case atStart => exact ⟨(0), (t134), (t135), (t136), (t137), (t138), (t139), (t140), (t141), (t142), (t143), (t144), (by first | rfl | (simp; done) | (simp [*]; done)), H', ⟨Nat.le_refl _⟩, ⟨by (with_reducible repeat (first | refine blk_drewN ?_ _ | refine blk_drew ?_ | refine blk_alloc ?_ _)); refine blk_put (cs := #[.int .i64 t134, .int .i64 t135, .int .i64 t136, .int .i64 t137, .int .i64 t138, .int .i64 t139, .int .i64 t140, .int .i64 t141, .int .i64 t142, .int .i64 t143, .int .i64 0]) ?_ 10 _ rfl; (with_reducible repeat (first | refine blk_drewN ?_ _ | refine blk_drew ?_ | refine blk_alloc ?_ _)); refine blk_put (cs := #[.int .i64 t134, .int .i64 t135, .int .i64 t136, .int .i64 t137, .int .i64 t138, .int .i64 t139, .int .i64 t140, .int .i64 t141, .int .i64 t142, .int .i64 0, .int .i64 0]) ?_ 9 _ rfl; (with_reducible repeat (first | refine blk_drewN ?_ _ | refine blk_drew ?_ | refine blk_alloc ?_ _)); refine blk_put (cs := #[.int .i64 t134, .int .i64 t135, .int .i64 t136, .int .i64 t137, .int .i64 t138, .int .i64 t139, .int .i64 t140, .int .i64 t141, .int .i64 0, .int .i64 0, .int .i64 0]) ?_ 8 _ rfl; (with_reducible repeat (first | refine blk_drewN ?_ _ | refine blk_drew ?_ | refine blk_alloc ?_ _)); refine blk_put (cs := #[.int .i64 t134, .int .i64 t135, .int .i64 t136, .int .i64 t137, .int .i64 t138, .int .i64 t139, .int .i64 t140, .int .i64 0, .int .i64 0, .int .i64 0, .int .i64 0]) ?_ 7 _ rfl; (with_reducible repeat (first | refine blk_drewN ?_ _ | refine blk_drew ?_ | refine blk_alloc ?_ _)); refine blk_put (cs := #[.int .i64 t134, .int .i64 t135, .int .i64 t136, .int .i64 t137, .int .i64 t138, .int .i64 t139, .int .i64 0, .int .i64 0, .int .i64 0, .int .i64 0, .int .i64 0]) ?_ 6 _ rfl; (with_reducible repeat (first | refine blk_drewN ?_ _ | refine blk_drew ?_ | refine blk_alloc ?_ _)); refine blk_put (cs := #[.int .i64 t134, .int .i64 t135, .int .i64 t136, .int .i64 t137, .int .i64 t138, .int .i64 0, .int .i64 0, .int .i64 0, .int .i64 0, .int .i64 0, .int .i64 0]) ?_ 5 _ rfl; (with_reducible repeat (first | refine blk_drewN ?_ _ | refine blk_drew ?_ | refine blk_alloc ?_ _)); refine blk_put (cs := #[.int .i64 t134, .int .i64 t135, .int .i64 t136, .int .i64 t137, .int .i64 0, .int .i64 0, .int .i64 0, .int .i64 0, .int .i64 0, .int .i64 0, .int .i64 0]) ?_ 4 _ rfl; (with_reducible repeat (first | refine blk_drewN ?_ _ | refine blk_drew ?_ | refine blk_alloc ?_ _)); refine blk_put (cs := #[.int .i64 t134, .int .i64 t135, .int .i64 t136, .int .i64 0, .int .i64 0, .int .i64 0, .int .i64 0, .int .i64 0, .int .i64 0, .int .i64 0, .int .i64 0]) ?_ 3 _ rfl; (with_reducible repeat (first | refine blk_drewN ?_ _ | refine blk_drew ?_ | refine blk_alloc ?_ _)); refine blk_put (cs := #[.int .i64 t134, .int .i64 t135, .int .i64 0, .int .i64 0, .int .i64 0, .int .i64 0, .int .i64 0, .int .i64 0, .int .i64 0, .int .i64 0, .int .i64 0]) ?_ 2 _ rfl; (with_reducible repeat (first | refine blk_drewN ?_ _ | refine blk_drew ?_ | refine blk_alloc ?_ _)); refine blk_put (cs := #[.int .i64 t134, .int .i64 0, .int .i64 0, .int .i64 0, .int .i64 0, .int .i64 0, .int .i64 0, .int .i64 0, .int .i64 0, .int .i64 0, .int .i64 0]) ?_ 1 _ rfl; (with_reducible repeat (first | refine blk_drewN ?_ _ | refine blk_drew ?_ | refine blk_alloc ?_ _)); refine blk_put (cs := #[.int .i64 0, .int .i64 0, .int .i64 0, .int .i64 0, .int .i64 0, .int .i64 0, .int .i64 0, .int .i64 0, .int .i64 0, .int .i64 0, .int .i64 0]) ?_ 0 _ rfl; (with_reducible repeat (first | refine blk_drewN ?_ _ | refine blk_drew ?_ | refine blk_alloc ?_ _)); exact BK145.out⟩, ⟨by repeat (first | (with_reducible first | exact HB.out | apply below_alloc | apply pw_below_drewN | apply below_drew1 | refine below_set ?_ GE145.out) | exact HB.out)⟩⟩
  case round =>
    clear H'
    try clear p2
    try clear hcz4_0
    try clear hcz4_1
    try clear hcz4_10
    try clear hcz4_2
    try clear hcz4_3
    try clear hcz4_4
    try clear hcz4_5
    try clear hcz4_6
    try clear hcz4_7
    try clear hcz4_8
    try clear hcz4_9
    try clear hfz4_0
    try clear hfz4_1
    try clear hfz4_10
    try clear hfz4_2
    try clear hfz4_3
    try clear hfz4_4
    try clear hfz4_5
    try clear hfz4_6
    try clear hfz4_7
    try clear hfz4_8
    try clear hfz4_9
    obtain ⟨x2_1, x146000_1, x146001_1, x146002_1, x146003_1, x146004_1, x146005_1, x146006_1, x146007_1, x146008_1, x146009_1, x146010_1, rfl, HA, HK1, BK145, HB⟩ := hrel
    cases gk with
    | zero => exact absurd HA.out (by simp [hawalalaw14_awake.l0])
    | succ k1 =>
      have H := HA.out
      clear HA
      simp only [hawalalaw14_awake.l0] at H
      by_cases c5 : x2_1 < 4
      · rw [if_pos c5] at H
        have c5b0 : decide (x2_1 < 4) = true := decide_eq_true c5
        clear c5
        replace H := Option.bind_eq_some_iff.mp H
        obtain ⟨⟨t146, t147, t148, t149, t150, t151, t152, t153, t154, t155, t156⟩, A60, H⟩ := H
        replace H : (hawalalaw14_awake.l0 k1 (wrap64 (x2_1 + 1)) t146 t147 t148 t149 t150 t151 t152 t153 t154 t155 t156) = some r := H
        have A6 := Aside0.mk A60
        clear A60
        have H' := Aside0.mk H
        clear H
        have hcz7_0 : wr.cell? ⟨gb145, 0, none⟩ = some (.int .i64 x146000_1) := (blk_cell BK145.out 0).trans rfl
        have hcz7_1 : wr.cell? ⟨gb145, 1, none⟩ = some (.int .i64 x146001_1) := (blk_cell BK145.out 1).trans rfl
        have hcz7_2 : wr.cell? ⟨gb145, 2, none⟩ = some (.int .i64 x146002_1) := (blk_cell BK145.out 2).trans rfl
        have hcz7_3 : wr.cell? ⟨gb145, 3, none⟩ = some (.int .i64 x146003_1) := (blk_cell BK145.out 3).trans rfl
        have hcz7_4 : wr.cell? ⟨gb145, 4, none⟩ = some (.int .i64 x146004_1) := (blk_cell BK145.out 4).trans rfl
        have hcz7_5 : wr.cell? ⟨gb145, 5, none⟩ = some (.int .i64 x146005_1) := (blk_cell BK145.out 5).trans rfl
        have hcz7_6 : wr.cell? ⟨gb145, 6, none⟩ = some (.int .i64 x146006_1) := (blk_cell BK145.out 6).trans rfl
        have hcz7_7 : wr.cell? ⟨gb145, 7, none⟩ = some (.int .i64 x146007_1) := (blk_cell BK145.out 7).trans rfl
        have hcz7_8 : wr.cell? ⟨gb145, 8, none⟩ = some (.int .i64 x146008_1) := (blk_cell BK145.out 8).trans rfl
        have hcz7_9 : wr.cell? ⟨gb145, 9, none⟩ = some (.int .i64 x146009_1) := (blk_cell BK145.out 9).trans rfl
        have hcz7_10 : wr.cell? ⟨gb145, 10, none⟩ = some (.int .i64 x146010_1) := (blk_cell BK145.out 10).trans rfl
        have hfz7_0 := blk_frozen BK145.out 0
        have hfz7_1 := blk_frozen BK145.out 1
        have hfz7_2 := blk_frozen BK145.out 2
        have hfz7_3 := blk_frozen BK145.out 3
        have hfz7_4 := blk_frozen BK145.out 4
        have hfz7_5 := blk_frozen BK145.out 5
        have hfz7_6 := blk_frozen BK145.out 6
        have hfz7_7 := blk_frozen BK145.out 7
        have hfz7_8 := blk_frozen BK145.out 8
        have hfz7_9 := blk_frozen BK145.out 9
        have hfz7_10 := blk_frozen BK145.out 10
        go_wp2_with (first | ((with_reducible refine gate_callee (f := 10) rfl ?_); refine goesL_ (some 10) rfl rfl Try.func10 (by kernel_rfl) rfl #[.agg #[.int .i64 x146000_1, .int .i64 x146001_1, .int .i64 x146002_1, .int .i64 x146003_1, .int .i64 x146004_1, .int .i64 x146005_1, .int .i64 x146006_1, .int .i64 x146007_1, .int .i64 x146008_1, .int .i64 x146009_1, .int .i64 x146010_1], .bool false] rfl (by (try simp only [List.map_toArray, List.map_cons, List.map_nil]); first | done | rfl | (simp only [List.length_drop, List.length_take]; rfl)) ?_; (with_reducible refine (saga_Leg.calls k1 x146000_1 x146001_1 x146002_1 x146003_1 x146004_1 x146005_1 x146006_1 x146007_1 x146008_1 x146009_1 x146010_1 false t146 t147 t148 t149 t150 t151 t152 t153 t154 t155 t156 _ A6.out).mono ?_); rintro e w8 ⟨rfl, hb⟩; refine ⟨_, rfl, ?_⟩; have n0_ := Aside0.mk (blk_below (g := gb145) (o := .cells #[.int .i64 x146000_1, .int .i64 x146001_1, .int .i64 x146002_1, .int .i64 x146003_1, .int .i64 x146004_1, .int .i64 x146005_1, .int .i64 x146006_1, .int .i64 x146007_1, .int .i64 x146008_1, .int .i64 x146009_1, .int .i64 x146010_1] 30 (0, 0)) (by (with_reducible repeat (first | refine blk_drewN ?_ _ | refine blk_drew ?_ | refine blk_alloc ?_ _)); exact BK145.out) hb); have n1_ := Aside0.mk (below_step (by repeat (first | (with_reducible first | exact HB.out | apply below_alloc | apply pw_below_drewN | apply below_drew1 | refine below_set ?_ GE145.out) | exact HB.out)) hb); clear BK145; clear HB; have BK145 := n0_; have HB := n1_; clear n0_ n1_; (try clear hb); (try clear hb2); (try clear hk); (try clear hi); have hcz9_0 : w8.cell? ⟨gb145, 0, none⟩ = some (.int .i64 x146000_1) := (blk_cell BK145.out 0).trans rfl; have hcz9_1 : w8.cell? ⟨gb145, 1, none⟩ = some (.int .i64 x146001_1) := (blk_cell BK145.out 1).trans rfl; have hcz9_2 : w8.cell? ⟨gb145, 2, none⟩ = some (.int .i64 x146002_1) := (blk_cell BK145.out 2).trans rfl; have hcz9_3 : w8.cell? ⟨gb145, 3, none⟩ = some (.int .i64 x146003_1) := (blk_cell BK145.out 3).trans rfl; have hcz9_4 : w8.cell? ⟨gb145, 4, none⟩ = some (.int .i64 x146004_1) := (blk_cell BK145.out 4).trans rfl; have hcz9_5 : w8.cell? ⟨gb145, 5, none⟩ = some (.int .i64 x146005_1) := (blk_cell BK145.out 5).trans rfl; have hcz9_6 : w8.cell? ⟨gb145, 6, none⟩ = some (.int .i64 x146006_1) := (blk_cell BK145.out 6).trans rfl; have hcz9_7 : w8.cell? ⟨gb145, 7, none⟩ = some (.int .i64 x146007_1) := (blk_cell BK145.out 7).trans rfl; have hcz9_8 : w8.cell? ⟨gb145, 8, none⟩ = some (.int .i64 x146008_1) := (blk_cell BK145.out 8).trans rfl; have hcz9_9 : w8.cell? ⟨gb145, 9, none⟩ = some (.int .i64 x146009_1) := (blk_cell BK145.out 9).trans rfl; have hcz9_10 : w8.cell? ⟨gb145, 10, none⟩ = some (.int .i64 x146010_1) := (blk_cell BK145.out 10).trans rfl; have hfz9_0 := blk_frozen BK145.out 0; have hfz9_1 := blk_frozen BK145.out 1; have hfz9_2 := blk_frozen BK145.out 2; have hfz9_3 := blk_frozen BK145.out 3; have hfz9_4 := blk_frozen BK145.out 4; have hfz9_5 := blk_frozen BK145.out 5; have hfz9_6 := blk_frozen BK145.out 6; have hfz9_7 := blk_frozen BK145.out 7; have hfz9_8 := blk_frozen BK145.out 8; have hfz9_9 := blk_frozen BK145.out 9; have hfz9_10 := blk_frozen BK145.out 10))
        go_roundg k1
        case measure => have := HK1.out; omega
        case rel => exact ⟨(wrap64 (x2_1 + 1)), (t146), (t147), (t148), (t149), (t150), (t151), (t152), (t153), (t154), (t155), (t156), (by first | rfl | (simp; done) | (simp [*]; done)), H', ⟨by have := HK1.out; omega⟩, ⟨by (with_reducible repeat (first | refine blk_drewN ?_ _ | refine blk_drew ?_ | refine blk_alloc ?_ _)); refine blk_put (cs := #[.int .i64 t146, .int .i64 t147, .int .i64 t148, .int .i64 t149, .int .i64 t150, .int .i64 t151, .int .i64 t152, .int .i64 t153, .int .i64 t154, .int .i64 t155, .int .i64 x146010_1]) ?_ 10 _ rfl; (with_reducible repeat (first | refine blk_drewN ?_ _ | refine blk_drew ?_ | refine blk_alloc ?_ _)); refine blk_put (cs := #[.int .i64 t146, .int .i64 t147, .int .i64 t148, .int .i64 t149, .int .i64 t150, .int .i64 t151, .int .i64 t152, .int .i64 t153, .int .i64 t154, .int .i64 x146009_1, .int .i64 x146010_1]) ?_ 9 _ rfl; (with_reducible repeat (first | refine blk_drewN ?_ _ | refine blk_drew ?_ | refine blk_alloc ?_ _)); refine blk_put (cs := #[.int .i64 t146, .int .i64 t147, .int .i64 t148, .int .i64 t149, .int .i64 t150, .int .i64 t151, .int .i64 t152, .int .i64 t153, .int .i64 x146008_1, .int .i64 x146009_1, .int .i64 x146010_1]) ?_ 8 _ rfl; (with_reducible repeat (first | refine blk_drewN ?_ _ | refine blk_drew ?_ | refine blk_alloc ?_ _)); refine blk_put (cs := #[.int .i64 t146, .int .i64 t147, .int .i64 t148, .int .i64 t149, .int .i64 t150, .int .i64 t151, .int .i64 t152, .int .i64 x146007_1, .int .i64 x146008_1, .int .i64 x146009_1, .int .i64 x146010_1]) ?_ 7 _ rfl; (with_reducible repeat (first | refine blk_drewN ?_ _ | refine blk_drew ?_ | refine blk_alloc ?_ _)); refine blk_put (cs := #[.int .i64 t146, .int .i64 t147, .int .i64 t148, .int .i64 t149, .int .i64 t150, .int .i64 t151, .int .i64 x146006_1, .int .i64 x146007_1, .int .i64 x146008_1, .int .i64 x146009_1, .int .i64 x146010_1]) ?_ 6 _ rfl; (with_reducible repeat (first | refine blk_drewN ?_ _ | refine blk_drew ?_ | refine blk_alloc ?_ _)); refine blk_put (cs := #[.int .i64 t146, .int .i64 t147, .int .i64 t148, .int .i64 t149, .int .i64 t150, .int .i64 x146005_1, .int .i64 x146006_1, .int .i64 x146007_1, .int .i64 x146008_1, .int .i64 x146009_1, .int .i64 x146010_1]) ?_ 5 _ rfl; (with_reducible repeat (first | refine blk_drewN ?_ _ | refine blk_drew ?_ | refine blk_alloc ?_ _)); refine blk_put (cs := #[.int .i64 t146, .int .i64 t147, .int .i64 t148, .int .i64 t149, .int .i64 x146004_1, .int .i64 x146005_1, .int .i64 x146006_1, .int .i64 x146007_1, .int .i64 x146008_1, .int .i64 x146009_1, .int .i64 x146010_1]) ?_ 4 _ rfl; (with_reducible repeat (first | refine blk_drewN ?_ _ | refine blk_drew ?_ | refine blk_alloc ?_ _)); refine blk_put (cs := #[.int .i64 t146, .int .i64 t147, .int .i64 t148, .int .i64 x146003_1, .int .i64 x146004_1, .int .i64 x146005_1, .int .i64 x146006_1, .int .i64 x146007_1, .int .i64 x146008_1, .int .i64 x146009_1, .int .i64 x146010_1]) ?_ 3 _ rfl; (with_reducible repeat (first | refine blk_drewN ?_ _ | refine blk_drew ?_ | refine blk_alloc ?_ _)); refine blk_put (cs := #[.int .i64 t146, .int .i64 t147, .int .i64 x146002_1, .int .i64 x146003_1, .int .i64 x146004_1, .int .i64 x146005_1, .int .i64 x146006_1, .int .i64 x146007_1, .int .i64 x146008_1, .int .i64 x146009_1, .int .i64 x146010_1]) ?_ 2 _ rfl; (with_reducible repeat (first | refine blk_drewN ?_ _ | refine blk_drew ?_ | refine blk_alloc ?_ _)); refine blk_put (cs := #[.int .i64 t146, .int .i64 x146001_1, .int .i64 x146002_1, .int .i64 x146003_1, .int .i64 x146004_1, .int .i64 x146005_1, .int .i64 x146006_1, .int .i64 x146007_1, .int .i64 x146008_1, .int .i64 x146009_1, .int .i64 x146010_1]) ?_ 1 _ rfl; (with_reducible repeat (first | refine blk_drewN ?_ _ | refine blk_drew ?_ | refine blk_alloc ?_ _)); refine blk_put (cs := #[.int .i64 x146000_1, .int .i64 x146001_1, .int .i64 x146002_1, .int .i64 x146003_1, .int .i64 x146004_1, .int .i64 x146005_1, .int .i64 x146006_1, .int .i64 x146007_1, .int .i64 x146008_1, .int .i64 x146009_1, .int .i64 x146010_1]) ?_ 0 _ rfl; (with_reducible repeat (first | refine blk_drewN ?_ _ | refine blk_drew ?_ | refine blk_alloc ?_ _)); exact BK145.out⟩, ⟨by repeat (first | (with_reducible first | exact HB.out | apply below_alloc | apply pw_below_drewN | apply below_drew1 | refine below_set ?_ GE145.out) | exact HB.out)⟩⟩
      · rw [if_neg c5] at H
        have c5b0 : decide (x2_1 < 4) = false := decide_eq_false c5
        clear c5
        by_cases c10 : x146007_1 = 1
        · rw [if_pos c10] at H
          have c10b0 : (x146007_1 == 1) = true := beq_iff_eq.mpr c10
          have c10b1 : (x146007_1 != 1) = false := bne_eq_false_iff_eq.mpr c10
          clear c10
          by_cases c11 : x146010_1 = 9
          · rw [if_pos c11] at H
            have c11b0 : (x146010_1 == 9) = true := beq_iff_eq.mpr c11
            have c11b1 : (x146010_1 != 9) = false := bne_eq_false_iff_eq.mpr c11
            clear c11
            by_cases c12 : x146009_1 = 4
            · rw [if_pos c12] at H
              have c12b0 : (x146009_1 == 4) = true := beq_iff_eq.mpr c12
              have c12b1 : (x146009_1 != 4) = false := bne_eq_false_iff_eq.mpr c12
              clear c12
              by_cases c13 : x146005_1 = 2
              · rw [if_pos c13] at H
                have c13b0 : (x146005_1 == 2) = true := beq_iff_eq.mpr c13
                have c13b1 : (x146005_1 != 2) = false := bne_eq_false_iff_eq.mpr c13
                clear c13
                replace H := Option.bind_eq_some_iff.mp H
                obtain ⟨t157, A140, H⟩ := H
                replace H : (some t157) = some r := H
                have A14 := Aside0.mk A140
                clear A140
                obtain rfl := Option.some.inj H
                have hcz15_0 : wr.cell? ⟨gb145, 0, none⟩ = some (.int .i64 x146000_1) := (blk_cell BK145.out 0).trans rfl
                have hcz15_1 : wr.cell? ⟨gb145, 1, none⟩ = some (.int .i64 x146001_1) := (blk_cell BK145.out 1).trans rfl
                have hcz15_2 : wr.cell? ⟨gb145, 2, none⟩ = some (.int .i64 x146002_1) := (blk_cell BK145.out 2).trans rfl
                have hcz15_3 : wr.cell? ⟨gb145, 3, none⟩ = some (.int .i64 x146003_1) := (blk_cell BK145.out 3).trans rfl
                have hcz15_4 : wr.cell? ⟨gb145, 4, none⟩ = some (.int .i64 x146004_1) := (blk_cell BK145.out 4).trans rfl
                have hcz15_5 : wr.cell? ⟨gb145, 5, none⟩ = some (.int .i64 x146005_1) := (blk_cell BK145.out 5).trans rfl
                have hcz15_6 : wr.cell? ⟨gb145, 6, none⟩ = some (.int .i64 x146006_1) := (blk_cell BK145.out 6).trans rfl
                have hcz15_7 : wr.cell? ⟨gb145, 7, none⟩ = some (.int .i64 x146007_1) := (blk_cell BK145.out 7).trans rfl
                have hcz15_8 : wr.cell? ⟨gb145, 8, none⟩ = some (.int .i64 x146008_1) := (blk_cell BK145.out 8).trans rfl
                have hcz15_9 : wr.cell? ⟨gb145, 9, none⟩ = some (.int .i64 x146009_1) := (blk_cell BK145.out 9).trans rfl
                have hcz15_10 : wr.cell? ⟨gb145, 10, none⟩ = some (.int .i64 x146010_1) := (blk_cell BK145.out 10).trans rfl
                have hfz15_0 := blk_frozen BK145.out 0
                have hfz15_1 := blk_frozen BK145.out 1
                have hfz15_2 := blk_frozen BK145.out 2
                have hfz15_3 := blk_frozen BK145.out 3
                have hfz15_4 := blk_frozen BK145.out 4
                have hfz15_5 := blk_frozen BK145.out 5
                have hfz15_6 := blk_frozen BK145.out 6
                have hfz15_7 := blk_frozen BK145.out 7
                have hfz15_8 := blk_frozen BK145.out 8
                have hfz15_9 := blk_frozen BK145.out 9
                have hfz15_10 := blk_frozen BK145.out 10
                go_wp2_with (first | (go_at_call 16; (with_reducible refine (saga_Right.calls k1 x146000_1 x146001_1 x146002_1 x146003_1 x146004_1 x146005_1 x146006_1 x146007_1 x146008_1 x146009_1 x146010_1 t157 _ A14.out).mono ?_); rintro e w16 ⟨rfl, hb⟩; have n0_ := Aside0.mk (blk_below (g := gb145) (o := .cells #[.int .i64 x146000_1, .int .i64 x146001_1, .int .i64 x146002_1, .int .i64 x146003_1, .int .i64 x146004_1, .int .i64 x146005_1, .int .i64 x146006_1, .int .i64 x146007_1, .int .i64 x146008_1, .int .i64 x146009_1, .int .i64 x146010_1] 30 (0, 0)) (by (with_reducible repeat (first | refine blk_drewN ?_ _ | refine blk_drew ?_ | refine blk_alloc ?_ _)); exact BK145.out) hb); have n1_ := Aside0.mk (below_step (by repeat (first | (with_reducible first | exact HB.out | apply below_alloc | apply pw_below_drewN | apply below_drew1 | refine below_set ?_ GE145.out) | exact HB.out)) hb); clear BK145; clear HB; have BK145 := n0_; have HB := n1_; clear n0_ n1_; (try clear hb); (try clear hb2); (try clear hk); (try clear hi)))
                go_ret
                exact ⟨by first | rfl | (simp [errW_none, errW_some] <;> rfl) | (simp [*, errW_none, errW_some] <;> rfl), by repeat (first | (with_reducible first | exact HB.out | apply below_alloc | apply pw_below_drewN | apply below_drew1 | refine below_set ?_ GE145.out) | exact HB.out)⟩
              · rw [if_neg c13] at H
                have c13b0 : (x146005_1 == 2) = false := beq_eq_false_iff_ne.mpr c13
                have c13b1 : (x146005_1 != 2) = true := bne_iff_ne.mpr c13
                obtain rfl := Option.some.inj H
                have hcz17_0 : wr.cell? ⟨gb145, 0, none⟩ = some (.int .i64 x146000_1) := (blk_cell BK145.out 0).trans rfl
                have hcz17_1 : wr.cell? ⟨gb145, 1, none⟩ = some (.int .i64 x146001_1) := (blk_cell BK145.out 1).trans rfl
                have hcz17_2 : wr.cell? ⟨gb145, 2, none⟩ = some (.int .i64 x146002_1) := (blk_cell BK145.out 2).trans rfl
                have hcz17_3 : wr.cell? ⟨gb145, 3, none⟩ = some (.int .i64 x146003_1) := (blk_cell BK145.out 3).trans rfl
                have hcz17_4 : wr.cell? ⟨gb145, 4, none⟩ = some (.int .i64 x146004_1) := (blk_cell BK145.out 4).trans rfl
                have hcz17_5 : wr.cell? ⟨gb145, 5, none⟩ = some (.int .i64 x146005_1) := (blk_cell BK145.out 5).trans rfl
                have hcz17_6 : wr.cell? ⟨gb145, 6, none⟩ = some (.int .i64 x146006_1) := (blk_cell BK145.out 6).trans rfl
                have hcz17_7 : wr.cell? ⟨gb145, 7, none⟩ = some (.int .i64 x146007_1) := (blk_cell BK145.out 7).trans rfl
                have hcz17_8 : wr.cell? ⟨gb145, 8, none⟩ = some (.int .i64 x146008_1) := (blk_cell BK145.out 8).trans rfl
                have hcz17_9 : wr.cell? ⟨gb145, 9, none⟩ = some (.int .i64 x146009_1) := (blk_cell BK145.out 9).trans rfl
                have hcz17_10 : wr.cell? ⟨gb145, 10, none⟩ = some (.int .i64 x146010_1) := (blk_cell BK145.out 10).trans rfl
                have hfz17_0 := blk_frozen BK145.out 0
                have hfz17_1 := blk_frozen BK145.out 1
                have hfz17_2 := blk_frozen BK145.out 2
                have hfz17_3 := blk_frozen BK145.out 3
                have hfz17_4 := blk_frozen BK145.out 4
                have hfz17_5 := blk_frozen BK145.out 5
                have hfz17_6 := blk_frozen BK145.out 6
                have hfz17_7 := blk_frozen BK145.out 7
                have hfz17_8 := blk_frozen BK145.out 8
                have hfz17_9 := blk_frozen BK145.out 9
                have hfz17_10 := blk_frozen BK145.out 10
                go_wp2
                go_ret
                exact ⟨by first | rfl | (simp [errW_none, errW_some] <;> rfl) | (simp [*, errW_none, errW_some] <;> rfl), by repeat (first | (with_reducible first | exact HB.out | apply below_alloc | apply pw_below_drewN | apply below_drew1 | refine below_set ?_ GE145.out) | exact HB.out)⟩
            · rw [if_neg c12] at H
              have c12b0 : (x146009_1 == 4) = false := beq_eq_false_iff_ne.mpr c12
              have c12b1 : (x146009_1 != 4) = true := bne_iff_ne.mpr c12
              obtain rfl := Option.some.inj H
              have hcz18_0 : wr.cell? ⟨gb145, 0, none⟩ = some (.int .i64 x146000_1) := (blk_cell BK145.out 0).trans rfl
              have hcz18_1 : wr.cell? ⟨gb145, 1, none⟩ = some (.int .i64 x146001_1) := (blk_cell BK145.out 1).trans rfl
              have hcz18_2 : wr.cell? ⟨gb145, 2, none⟩ = some (.int .i64 x146002_1) := (blk_cell BK145.out 2).trans rfl
              have hcz18_3 : wr.cell? ⟨gb145, 3, none⟩ = some (.int .i64 x146003_1) := (blk_cell BK145.out 3).trans rfl
              have hcz18_4 : wr.cell? ⟨gb145, 4, none⟩ = some (.int .i64 x146004_1) := (blk_cell BK145.out 4).trans rfl
              have hcz18_5 : wr.cell? ⟨gb145, 5, none⟩ = some (.int .i64 x146005_1) := (blk_cell BK145.out 5).trans rfl
              have hcz18_6 : wr.cell? ⟨gb145, 6, none⟩ = some (.int .i64 x146006_1) := (blk_cell BK145.out 6).trans rfl
              have hcz18_7 : wr.cell? ⟨gb145, 7, none⟩ = some (.int .i64 x146007_1) := (blk_cell BK145.out 7).trans rfl
              have hcz18_8 : wr.cell? ⟨gb145, 8, none⟩ = some (.int .i64 x146008_1) := (blk_cell BK145.out 8).trans rfl
              have hcz18_9 : wr.cell? ⟨gb145, 9, none⟩ = some (.int .i64 x146009_1) := (blk_cell BK145.out 9).trans rfl
              have hcz18_10 : wr.cell? ⟨gb145, 10, none⟩ = some (.int .i64 x146010_1) := (blk_cell BK145.out 10).trans rfl
              have hfz18_0 := blk_frozen BK145.out 0
              have hfz18_1 := blk_frozen BK145.out 1
              have hfz18_2 := blk_frozen BK145.out 2
              have hfz18_3 := blk_frozen BK145.out 3
              have hfz18_4 := blk_frozen BK145.out 4
              have hfz18_5 := blk_frozen BK145.out 5
              have hfz18_6 := blk_frozen BK145.out 6
              have hfz18_7 := blk_frozen BK145.out 7
              have hfz18_8 := blk_frozen BK145.out 8
              have hfz18_9 := blk_frozen BK145.out 9
              have hfz18_10 := blk_frozen BK145.out 10
              go_wp2
              go_ret
              exact ⟨by first | rfl | (simp [errW_none, errW_some] <;> rfl) | (simp [*, errW_none, errW_some] <;> rfl), by repeat (first | (with_reducible first | exact HB.out | apply below_alloc | apply pw_below_drewN | apply below_drew1 | refine below_set ?_ GE145.out) | exact HB.out)⟩
          · rw [if_neg c11] at H
            have c11b0 : (x146010_1 == 9) = false := beq_eq_false_iff_ne.mpr c11
            have c11b1 : (x146010_1 != 9) = true := bne_iff_ne.mpr c11
            obtain rfl := Option.some.inj H
            have hcz19_0 : wr.cell? ⟨gb145, 0, none⟩ = some (.int .i64 x146000_1) := (blk_cell BK145.out 0).trans rfl
            have hcz19_1 : wr.cell? ⟨gb145, 1, none⟩ = some (.int .i64 x146001_1) := (blk_cell BK145.out 1).trans rfl
            have hcz19_2 : wr.cell? ⟨gb145, 2, none⟩ = some (.int .i64 x146002_1) := (blk_cell BK145.out 2).trans rfl
            have hcz19_3 : wr.cell? ⟨gb145, 3, none⟩ = some (.int .i64 x146003_1) := (blk_cell BK145.out 3).trans rfl
            have hcz19_4 : wr.cell? ⟨gb145, 4, none⟩ = some (.int .i64 x146004_1) := (blk_cell BK145.out 4).trans rfl
            have hcz19_5 : wr.cell? ⟨gb145, 5, none⟩ = some (.int .i64 x146005_1) := (blk_cell BK145.out 5).trans rfl
            have hcz19_6 : wr.cell? ⟨gb145, 6, none⟩ = some (.int .i64 x146006_1) := (blk_cell BK145.out 6).trans rfl
            have hcz19_7 : wr.cell? ⟨gb145, 7, none⟩ = some (.int .i64 x146007_1) := (blk_cell BK145.out 7).trans rfl
            have hcz19_8 : wr.cell? ⟨gb145, 8, none⟩ = some (.int .i64 x146008_1) := (blk_cell BK145.out 8).trans rfl
            have hcz19_9 : wr.cell? ⟨gb145, 9, none⟩ = some (.int .i64 x146009_1) := (blk_cell BK145.out 9).trans rfl
            have hcz19_10 : wr.cell? ⟨gb145, 10, none⟩ = some (.int .i64 x146010_1) := (blk_cell BK145.out 10).trans rfl
            have hfz19_0 := blk_frozen BK145.out 0
            have hfz19_1 := blk_frozen BK145.out 1
            have hfz19_2 := blk_frozen BK145.out 2
            have hfz19_3 := blk_frozen BK145.out 3
            have hfz19_4 := blk_frozen BK145.out 4
            have hfz19_5 := blk_frozen BK145.out 5
            have hfz19_6 := blk_frozen BK145.out 6
            have hfz19_7 := blk_frozen BK145.out 7
            have hfz19_8 := blk_frozen BK145.out 8
            have hfz19_9 := blk_frozen BK145.out 9
            have hfz19_10 := blk_frozen BK145.out 10
            go_wp2
            go_ret
            exact ⟨by first | rfl | (simp [errW_none, errW_some] <;> rfl) | (simp [*, errW_none, errW_some] <;> rfl), by repeat (first | (with_reducible first | exact HB.out | apply below_alloc | apply pw_below_drewN | apply below_drew1 | refine below_set ?_ GE145.out) | exact HB.out)⟩
        · rw [if_neg c10] at H
          have c10b0 : (x146007_1 == 1) = false := beq_eq_false_iff_ne.mpr c10
          have c10b1 : (x146007_1 != 1) = true := bne_iff_ne.mpr c10
          obtain rfl := Option.some.inj H
          have hcz20_0 : wr.cell? ⟨gb145, 0, none⟩ = some (.int .i64 x146000_1) := (blk_cell BK145.out 0).trans rfl
          have hcz20_1 : wr.cell? ⟨gb145, 1, none⟩ = some (.int .i64 x146001_1) := (blk_cell BK145.out 1).trans rfl
          have hcz20_2 : wr.cell? ⟨gb145, 2, none⟩ = some (.int .i64 x146002_1) := (blk_cell BK145.out 2).trans rfl
          have hcz20_3 : wr.cell? ⟨gb145, 3, none⟩ = some (.int .i64 x146003_1) := (blk_cell BK145.out 3).trans rfl
          have hcz20_4 : wr.cell? ⟨gb145, 4, none⟩ = some (.int .i64 x146004_1) := (blk_cell BK145.out 4).trans rfl
          have hcz20_5 : wr.cell? ⟨gb145, 5, none⟩ = some (.int .i64 x146005_1) := (blk_cell BK145.out 5).trans rfl
          have hcz20_6 : wr.cell? ⟨gb145, 6, none⟩ = some (.int .i64 x146006_1) := (blk_cell BK145.out 6).trans rfl
          have hcz20_7 : wr.cell? ⟨gb145, 7, none⟩ = some (.int .i64 x146007_1) := (blk_cell BK145.out 7).trans rfl
          have hcz20_8 : wr.cell? ⟨gb145, 8, none⟩ = some (.int .i64 x146008_1) := (blk_cell BK145.out 8).trans rfl
          have hcz20_9 : wr.cell? ⟨gb145, 9, none⟩ = some (.int .i64 x146009_1) := (blk_cell BK145.out 9).trans rfl
          have hcz20_10 : wr.cell? ⟨gb145, 10, none⟩ = some (.int .i64 x146010_1) := (blk_cell BK145.out 10).trans rfl
          have hfz20_0 := blk_frozen BK145.out 0
          have hfz20_1 := blk_frozen BK145.out 1
          have hfz20_2 := blk_frozen BK145.out 2
          have hfz20_3 := blk_frozen BK145.out 3
          have hfz20_4 := blk_frozen BK145.out 4
          have hfz20_5 := blk_frozen BK145.out 5
          have hfz20_6 := blk_frozen BK145.out 6
          have hfz20_7 := blk_frozen BK145.out 7
          have hfz20_8 := blk_frozen BK145.out 8
          have hfz20_9 := blk_frozen BK145.out 9
          have hfz20_10 := blk_frozen BK145.out 10
          go_wp2
          go_ret
          exact ⟨by first | rfl | (simp [errW_none, errW_some] <;> rfl) | (simp [*, errW_none, errW_some] <;> rfl), by repeat (first | (with_reducible first | exact HB.out | apply below_alloc | apply pw_below_drewN | apply below_drew1 | refine below_set ?_ GE145.out) | exact HB.out)⟩

end Go.Proofs.Ytinjmjgfhpojfaa.PAll
