/- What each Go function computes, as a plain Lean function, and the proof that the machine comes to it; for every input. Laid by wip/tools of this session over the kit's print, with small turns of ours. Not trusted: Lean checks it. -/
import Derived.Test.YtinjmjgfhpojfaaPAllx0
import Derived.Test.YtinjmjgfhpojfaaPAllx1
import Derived.Test.YtinjmjgfhpojfaaPAllx3
import Derived.Test.YtinjmjgfhpojfaaPAllx5
import Derived.Test.YtinjmjgfhpojfaaPAllx6
import Derived.Test.YtinjmjgfhpojfaaPAllx10
namespace Go.Proofs.Ytinjmjgfhpojfaa.PAll
open Go.Proofs.YtinjmjgfhpojfaaW
open Go.RowKit Go.Proofs.YtinjmjgfhpojfaaW.PrintWords Go.Proofs.YtinjmjgfhpojfaaW.PrintLast Go.Proofs.YtinjmjgfhpojfaaW.PrintMore
attribute [local go_sem] max2_int min2_int max_two min_two max_three min_three max_four min_four   -- for this text's walks alone
set_option linter.unusedVariables false
set_option linter.unusedSimpArgs false

attribute [local go_sem high] eqA30
/-! ### hawalalaw14_SagaAny: function 5 -/
def hawalalaw14_SagaAny.j0 : Nat → Bool → Int → Int → Int → Int → Int → Int → Int → Int → Int → Int → Int → Int → Int → Int → Int → Int → Int → Int → Int → Int → Int → Int → Int → Int → Int → Int → Int → Int → Int → Int → Int → Int → Int → Int → Option (Bool)
  | 0, _, _, _, _, _, _, _, _, _, _, _, _, _, _, _, _, _, _, _, _, _, _, _, _, _, _, _, _, _, _, _, _, _, _, _ => none
  | k + 1, x1, x2, x244000, x244001, x244002, x244003, x244004, x244005, x244006, x244007, x244008, x244009, x244010, x246000, x246001, x246002, x246003, x246004, x246005, x246006, x246007, x246008, x246009, x246010, x247000, x247001, x247002, x247003, x247004, x247005, x247006, x247007, x247008, x247009, x247010 => (saga_Leg.f k x244000 x244001 x244002 x244003 x244004 x244005 x244006 x244007 x244008 x244009 x244010 x1).bind fun bt247 => ((hawalalaw14_leg.f k x244000 x244001 x244002 x244003 x244004 x244005 x244006 x244007 x244008 x244009 x244010 x1).bind fun bt258 => (if ((bt247.1 == bt258.1 && (bt247.2.1 == bt258.2.1 && (bt247.2.2.1 == bt258.2.2.1 && (bt247.2.2.2.1 == bt258.2.2.2.1 && (bt247.2.2.2.2.1 == bt258.2.2.2.2.1 && (bt247.2.2.2.2.2.1 == bt258.2.2.2.2.2.1 && (bt247.2.2.2.2.2.2.1 == bt258.2.2.2.2.2.2.1))))))) && (bt247.2.2.2.2.2.2.2.1 == bt258.2.2.2.2.2.2.2.1 && (bt247.2.2.2.2.2.2.2.2.1 == bt258.2.2.2.2.2.2.2.2.1 && (bt247.2.2.2.2.2.2.2.2.2.1 == bt258.2.2.2.2.2.2.2.2.2.1 && (bt247.2.2.2.2.2.2.2.2.2.2 == bt258.2.2.2.2.2.2.2.2.2.2))))) = true then ((saga_Turn.f x244000 x244001 x244002 x244003 x244004 x244005 x244006 x244007 x244008 x244009 x244010 (wrap64 (x2))).bind fun bt269 => (if ((bt269.1 == x246000 && (bt269.2.1 == x246001 && (bt269.2.2.1 == x246002 && (bt269.2.2.2.1 == x246003 && (bt269.2.2.2.2.1 == x246004 && (bt269.2.2.2.2.2.1 == x246005 && (bt269.2.2.2.2.2.2.1 == x246006))))))) && (bt269.2.2.2.2.2.2.2.1 == x246007 && (bt269.2.2.2.2.2.2.2.2.1 == x246008 && (bt269.2.2.2.2.2.2.2.2.2.1 == x246009 && (bt269.2.2.2.2.2.2.2.2.2.2 == x246010))))) = true then ((saga_End.f x244000 x244001 x244002 x244003 x244004 x244005 x244006 x244007 x244008 x244009 x244010).bind fun bt280 => (some ((bt280.1 == x247000 && (bt280.2.1 == x247001 && (bt280.2.2.1 == x247002 && (bt280.2.2.2.1 == x247003 && (bt280.2.2.2.2.1 == x247004 && (bt280.2.2.2.2.2.1 == x247005 && (bt280.2.2.2.2.2.2.1 == x247006))))))) && (bt280.2.2.2.2.2.2.2.1 == 2 && (bt280.2.2.2.2.2.2.2.2.1 == x247008 && (bt280.2.2.2.2.2.2.2.2.2.1 == x247009 && (bt280.2.2.2.2.2.2.2.2.2.2 == x247010))))))) else (some false))) else (some false)))
def hawalalaw14_SagaAny.f (k : Nat) (a0_0 : Int) (a0_1 : Int) (a0_2 : Int) (a0_3 : Int) (a0_4 : Int) (a0_5 : Int) (a0_6 : Int) (a0_7 : Int) (a0_8 : Int) (a0_9 : Int) (a0_10 : Int) (a1 : Bool) (a2 : Int) : Option (Bool) := (hawalalaw14_awake.f k).bind fun t244 => (if t244 = true then (if a0_7 = 0 then (hawalalaw14_SagaAny.j0 k a1 a2 a0_0 a0_1 a0_2 a0_3 a0_4 a0_5 a0_6 a0_7 a0_8 a0_9 a0_10 a0_0 a0_1 a0_2 a0_3 a0_4 a0_5 a0_6 1 a0_8 a0_9 (wrap64 (a2)) a0_0 a0_1 a0_2 a0_3 a0_4 a0_5 a0_6 a0_7 a0_8 a0_9 a0_10) else (hawalalaw14_SagaAny.j0 k a1 a2 a0_0 a0_1 a0_2 a0_3 a0_4 a0_5 a0_6 a0_7 a0_8 a0_9 a0_10 a0_0 a0_1 a0_2 a0_3 a0_4 a0_5 a0_6 a0_7 a0_8 a0_9 a0_10 a0_0 a0_1 a0_2 a0_3 a0_4 a0_5 a0_6 a0_7 a0_8 a0_9 a0_10)) else (some false))
theorem hawalalaw14_SagaAny.mono_l : ∀ k, (∀ y0 y1 y2 y3 y4 y5 y6 y7 y8 y9 y10 y11 y12 y13 y14 y15 y16 y17 y18 y19 y20 y21 y22 y23 y24 y25 y26 y27 y28 y29 y30 y31 y32 y33 y34, LeO (hawalalaw14_SagaAny.j0 k y0 y1 y2 y3 y4 y5 y6 y7 y8 y9 y10 y11 y12 y13 y14 y15 y16 y17 y18 y19 y20 y21 y22 y23 y24 y25 y26 y27 y28 y29 y30 y31 y32 y33 y34) (hawalalaw14_SagaAny.j0 (k + 1) y0 y1 y2 y3 y4 y5 y6 y7 y8 y9 y10 y11 y12 y13 y14 y15 y16 y17 y18 y19 y20 y21 y22 y23 y24 y25 y26 y27 y28 y29 y30 y31 y32 y33 y34))
  | 0 => fun _ _ _ _ _ _ _ _ _ _ _ _ _ _ _ _ _ _ _ _ _ _ _ _ _ _ _ _ _ _ _ _ _ _ _ r h => by simp [hawalalaw14_SagaAny.j0] at h
  | k + 1 => by
    have ih0 := hawalalaw14_SagaAny.mono_l k
    · intro y0 y1 y2 y3 y4 y5 y6 y7 y8 y9 y10 y11 y12 y13 y14 y15 y16 y17 y18 y19 y20 y21 y22 y23 y24 y25 y26 y27 y28 y29 y30 y31 y32 y33 y34
      unfold hawalalaw14_SagaAny.j0
      repeat' first
      | (with_reducible exact ih0 _ _ _ _ _ _ _ _ _ _ _ _ _ _ _ _ _ _ _ _ _ _ _ _ _ _ _ _ _ _ _ _ _ _ _)
      | (with_reducible exact hawalalaw14_awake.mono _)
      | (with_reducible exact hawalalaw14_leg.mono _ _ _ _ _ _ _ _ _ _ _ _ _)
      | (with_reducible exact saga_Leg.mono _ _ _ _ _ _ _ _ _ _ _ _ _)
      | (with_reducible exact LeO.refl _)
      | (with_reducible exact LeO.none _)
      | (with_reducible refine LeO.ite ?_ ?_)
      | (with_reducible refine LeO.bind ?_ (fun _ => ?_))
      | exact ih0 _ _ _ _ _ _ _ _ _ _ _ _ _ _ _ _ _ _ _ _ _ _ _ _ _ _ _ _ _ _ _ _ _ _ _
      | exact hawalalaw14_awake.mono _
      | exact hawalalaw14_leg.mono _ _ _ _ _ _ _ _ _ _ _ _ _
      | exact saga_Leg.mono _ _ _ _ _ _ _ _ _ _ _ _ _
      | exact LeO.none _
      | refine LeO.ite ?_ ?_
      | refine LeO.bind ?_ (fun _ => ?_)
theorem hawalalaw14_SagaAny.mono : ∀ a0 a1 a2 a3 a4 a5 a6 a7 a8 a9 a10 a11 a12 k, LeO (hawalalaw14_SagaAny.f k a0 a1 a2 a3 a4 a5 a6 a7 a8 a9 a10 a11 a12) (hawalalaw14_SagaAny.f (k + 1) a0 a1 a2 a3 a4 a5 a6 a7 a8 a9 a10 a11 a12) := by
  intro a0 a1 a2 a3 a4 a5 a6 a7 a8 a9 a10 a11 a12 k
  have ih0 := hawalalaw14_SagaAny.mono_l k
  unfold hawalalaw14_SagaAny.f
  repeat' first
      | (with_reducible exact ih0 _ _ _ _ _ _ _ _ _ _ _ _ _ _ _ _ _ _ _ _ _ _ _ _ _ _ _ _ _ _ _ _ _ _ _)
      | (with_reducible exact hawalalaw14_awake.mono _)
      | (with_reducible exact hawalalaw14_leg.mono _ _ _ _ _ _ _ _ _ _ _ _ _)
      | (with_reducible exact saga_Leg.mono _ _ _ _ _ _ _ _ _ _ _ _ _)
      | (with_reducible exact LeO.refl _)
      | (with_reducible exact LeO.none _)
      | (with_reducible refine LeO.ite ?_ ?_)
      | (with_reducible refine LeO.bind ?_ (fun _ => ?_))
      | exact ih0 _ _ _ _ _ _ _ _ _ _ _ _ _ _ _ _ _ _ _ _ _ _ _ _ _ _ _ _ _ _ _ _ _ _ _
      | exact hawalalaw14_awake.mono _
      | exact hawalalaw14_leg.mono _ _ _ _ _ _ _ _ _ _ _ _ _
      | exact saga_Leg.mono _ _ _ _ _ _ _ _ _ _ _ _ _
      | exact LeO.none _
      | refine LeO.ite ?_ ?_
      | refine LeO.bind ?_ (fun _ => ?_)
def hawalalaw14_SagaAny.T7 : Bool × List (List Nat × List Nat) := (true, [([], []), ([], []), ([0, 1], [0, 1]), ([], []), ([], []), ([3, 4, 2], [3, 4]), ([2, 5], [2, 5]), ([6, 5], [6]), ([7], [7]), ([7], [7]), ([9, 7], [7, 9]), ([8, 10, 7, 7], [7, 8, 10]), ([7], [7]), ([11, 12, 7], [7, 11, 12]), ([7, 13], [7, 13]), ([14, 11], [14]), ([15], [15]), ([16, 15, 15], [15, 16]), ([15], [15]), ([17, 18, 15], [15, 17, 18]), ([15, 19], [15, 19]), ([20, 17, 0, 1, 2, 3, 4, 5, 6, 7, 8, 9, 10, 11, 12, 13, 14, 15, 16, 17, 18, 19, 20], [20])])
def hawalalaw14_SagaAny.B7 : List Nat := [0, 0, 3, 0, 0, 31, 63, 127, 255, 255, 767, 2047, 255, 8191, 16383, 32767, 65535, 131071, 65535, 524287, 1048575, 2097151]
theorem hawalalaw14_SagaAny.tab7 : rtab .any (opsOf Try.f5 7) = hawalalaw14_SagaAny.T7 := by kernel_rfl
theorem hawalalaw14_SagaAny.bits7 : waitsOk hawalalaw14_SagaAny.T7.2 hawalalaw14_SagaAny.B7 = true := by kernel_rfl
set_option maxHeartbeats 8000000 in
set_option maxRecDepth 100000 in
theorem hawalalaw14_SagaAny.calls (k : Nat) (a0_0 : Int) (a0_1 : Int) (a0_2 : Int) (a0_3 : Int) (a0_4 : Int) (a0_5 : Int) (a0_6 : Int) (a0_7 : Int) (a0_8 : Int) (a0_9 : Int) (a0_10 : Int) (a1 : Bool) (a2 : Int) (r : Bool) (w : World) (h : hawalalaw14_SagaAny.f k a0_0 a0_1 a0_2 a0_3 a0_4 a0_5 a0_6 a0_7 a0_8 a0_9 a0_10 a1 a2 = some r) :
    Calls Try.prog 5 #[.agg #[.int .i64 a0_0, .int .i64 a0_1, .int .i64 a0_2, .int .i64 a0_3, .int .i64 a0_4, .int .i64 a0_5, .int .i64 a0_6, .int .i64 a0_7, .int .i64 a0_8, .int .i64 a0_9, .int .i64 a0_10], .bool a1, .int .i8 a2] w fun e w' => e = .returned (.bool r) ∧ Below w.heap.size w w' := by
  have hu30 := Try.underlying30
  have HB := Aside0.mk (Below.refl w.heap.size w)
  have H : ((hawalalaw14_awake.f k).bind fun t244 => (if t244 = true then (if a0_7 = 0 then (hawalalaw14_SagaAny.j0 k a1 a2 a0_0 a0_1 a0_2 a0_3 a0_4 a0_5 a0_6 a0_7 a0_8 a0_9 a0_10 a0_0 a0_1 a0_2 a0_3 a0_4 a0_5 a0_6 1 a0_8 a0_9 (wrap64 (a2)) a0_0 a0_1 a0_2 a0_3 a0_4 a0_5 a0_6 a0_7 a0_8 a0_9 a0_10) else (hawalalaw14_SagaAny.j0 k a1 a2 a0_0 a0_1 a0_2 a0_3 a0_4 a0_5 a0_6 a0_7 a0_8 a0_9 a0_10 a0_0 a0_1 a0_2 a0_3 a0_4 a0_5 a0_6 a0_7 a0_8 a0_9 a0_10 a0_0 a0_1 a0_2 a0_3 a0_4 a0_5 a0_6 a0_7 a0_8 a0_9 a0_10)) else (some false))) = some r := h
  clear h
  replace H := Option.bind_eq_some_iff.mp H
  obtain ⟨t244, A40, H⟩ := H
  replace H : (if t244 = true then (if a0_7 = 0 then (hawalalaw14_SagaAny.j0 k a1 a2 a0_0 a0_1 a0_2 a0_3 a0_4 a0_5 a0_6 a0_7 a0_8 a0_9 a0_10 a0_0 a0_1 a0_2 a0_3 a0_4 a0_5 a0_6 1 a0_8 a0_9 (wrap64 (a2)) a0_0 a0_1 a0_2 a0_3 a0_4 a0_5 a0_6 a0_7 a0_8 a0_9 a0_10) else (hawalalaw14_SagaAny.j0 k a1 a2 a0_0 a0_1 a0_2 a0_3 a0_4 a0_5 a0_6 a0_7 a0_8 a0_9 a0_10 a0_0 a0_1 a0_2 a0_3 a0_4 a0_5 a0_6 a0_7 a0_8 a0_9 a0_10 a0_0 a0_1 a0_2 a0_3 a0_4 a0_5 a0_6 a0_7 a0_8 a0_9 a0_10)) else (some false)) = some r := H
  have A4 := Aside0.mk A40
  clear A40
  by_cases c5 : t244 = true
  · subst c5
    have H1 : (if a0_7 = 0 then (hawalalaw14_SagaAny.j0 k a1 a2 a0_0 a0_1 a0_2 a0_3 a0_4 a0_5 a0_6 a0_7 a0_8 a0_9 a0_10 a0_0 a0_1 a0_2 a0_3 a0_4 a0_5 a0_6 1 a0_8 a0_9 (wrap64 (a2)) a0_0 a0_1 a0_2 a0_3 a0_4 a0_5 a0_6 a0_7 a0_8 a0_9 a0_10) else (hawalalaw14_SagaAny.j0 k a1 a2 a0_0 a0_1 a0_2 a0_3 a0_4 a0_5 a0_6 a0_7 a0_8 a0_9 a0_10 a0_0 a0_1 a0_2 a0_3 a0_4 a0_5 a0_6 a0_7 a0_8 a0_9 a0_10 a0_0 a0_1 a0_2 a0_3 a0_4 a0_5 a0_6 a0_7 a0_8 a0_9 a0_10)) = some r := by rw [if_pos rfl] at H; exact H
    clear H
    have H := H1
    clear H1
    have HC6 := Aside0.mk H
    clear H
    go_enter Try.func5, Try.ntmps5
    try go_wp2_with (first | ((with_reducible refine gate_dst (N := 3) rfl ?_); refine box_event ?hg (N := 3) ?hd (cs := #[.int .i64 a0_0, .int .i64 a0_1, .int .i64 a0_2, .int .i64 a0_3, .int .i64 a0_4, .int .i64 a0_5, .int .i64 a0_6, .int .i64 a0_7, .int .i64 a0_8, .int .i64 a0_9, .int .i64 a0_10]) (t := 30) ?hr ?_; (case hd => rfl); (case hg => rfl); (case hr => first | (go_simp; done) | (go_simp; rfl)); intro gb243 hg w7 hbox hb; have n0_ := Aside0.mk (below_step (by repeat (first | (with_reducible first | exact HB.out | apply below_alloc | apply pw_below_drewN | apply below_drew1) | exact HB.out)) hb); have n1_ := Aside0.mk (hbox); have n2_ := Aside0.mk ((by rw [hg]; exact (below_size (by repeat (first | (with_reducible first | exact HB.out | apply below_alloc | apply pw_below_drewN | apply below_drew1) | exact HB.out))) : w.heap.size ≤ gb243)); have n3_ := Aside0.mk ((by rw [hg]; exact (below_size (by repeat (first | (with_reducible first | exact HB.out | apply below_alloc | apply pw_below_drewN | apply below_drew1) | exact HB.out))) : w.heap.size ≤ gb243)); clear HB; have HB := n0_; have BK243 := n1_; have GW243 := n2_; have GE243 := n3_; clear n0_ n1_ n2_ n3_; clear hb hbox hg) | ((with_reducible refine gate_callee (f := 7) rfl ?_); refine goesL_ (some 9) rfl rfl Try.func7 (by kernel_rfl) rfl #[] rfl (by (try simp only [List.map_toArray, List.map_cons, List.map_nil]); first | done | rfl | (simp only [List.length_drop, List.length_take]; rfl)) ?_; (with_reducible refine (hawalalaw14_awake.calls k  true _ A4.out).mono ?_); rintro e w8 ⟨rfl, hb⟩; refine ⟨_, rfl, ?_⟩; have n0_ := Aside0.mk (blk_below (g := gb243) (o := .cells #[.int .i64 a0_0, .int .i64 a0_1, .int .i64 a0_2, .int .i64 a0_3, .int .i64 a0_4, .int .i64 a0_5, .int .i64 a0_6, .int .i64 a0_7, .int .i64 a0_8, .int .i64 a0_9, .int .i64 a0_10] 30 (0, 0)) (by (with_reducible repeat (first | refine blk_drewN ?_ _ | refine blk_drew ?_ | refine blk_alloc ?_ _)); exact BK243.out) hb); have n1_ := Aside0.mk (below_step (by repeat (first | (with_reducible first | exact HB.out | apply below_alloc | apply pw_below_drewN | apply below_drew1 | refine below_set ?_ GE243.out) | exact HB.out)) hb); clear BK243; clear HB; have BK243 := n0_; have HB := n1_; clear n0_ n1_; (try clear hb); (try clear hb2); (try clear hk); (try clear hi)))
    have n0_ := Aside0.mk (blk_drew BK243.out)
    have n1_ := Aside0.mk (below_drew1 HB.out)
    clear BK243
    clear HB
    have BK243 := n0_
    have HB := n1_
    clear n0_ n1_
    refine start_ (n := 6) (S := fun w' => w'.cell? ⟨gb243, 0, none⟩ = some (.int .i64 a0_0) ∧ w'.cell? ⟨gb243, 1, none⟩ = some (.int .i64 a0_1) ∧ w'.cell? ⟨gb243, 2, none⟩ = some (.int .i64 a0_2) ∧ w'.cell? ⟨gb243, 3, none⟩ = some (.int .i64 a0_3) ∧ w'.cell? ⟨gb243, 4, none⟩ = some (.int .i64 a0_4) ∧ w'.cell? ⟨gb243, 5, none⟩ = some (.int .i64 a0_5) ∧ w'.cell? ⟨gb243, 6, none⟩ = some (.int .i64 a0_6) ∧ w'.cell? ⟨gb243, 7, none⟩ = some (.int .i64 a0_7) ∧ w'.cell? ⟨gb243, 8, none⟩ = some (.int .i64 a0_8) ∧ w'.cell? ⟨gb243, 9, none⟩ = some (.int .i64 a0_9) ∧ w'.cell? ⟨gb243, 10, none⟩ = some (.int .i64 a0_10)) (ds := []) #[false, false, false, false, false, false] (by kernel_rfl) rfl rfl ⟨(blk_cell BK243.out 0).trans rfl, (blk_cell BK243.out 1).trans rfl, (blk_cell BK243.out 2).trans rfl, (blk_cell BK243.out 3).trans rfl, (blk_cell BK243.out 4).trans rfl, (blk_cell BK243.out 5).trans rfl, (blk_cell BK243.out 6).trans rfl, (blk_cell BK243.out 7).trans rfl, (blk_cell BK243.out 8).trans rfl, (blk_cell BK243.out 9).trans rfl, (blk_cell BK243.out 10).trans rfl⟩ (fun hHeld => ?_)
    generalize w8.drew = w9 at BK243 HB hHeld ⊢
    refine take_ (i := 0) (N := some 11) (v := ?_) (a' := ?_) #[true, false, false, false, false, false] rfl rfl (by kernel_rfl) (fun _ _ _ h => h) (Or.inl ⟨by rfl, ?_⟩) hHeld ?_ ?_
    rotate_left
    · rintro w' ⟨s0, s1, s2, s3, s4, s5, s6, s7, s8, s9, s10⟩
      go_simp
      with_reducible rfl
    rotate_left
    · simp only [Act.put, List.setIfInBounds_toArray, List.set_cons_zero, List.set_cons_succ, i64_w, i32_w]
      rfl
    refine take_ (i := 1) (N := some 12) (v := ?_) (a' := ?_) #[true, true, false, false, false, false] rfl rfl (by kernel_rfl) (fun _ _ _ h => h) (Or.inl ⟨by rfl, ?_⟩) hHeld ?_ ?_
    rotate_left
    · rintro w' ⟨s0, s1, s2, s3, s4, s5, s6, s7, s8, s9, s10⟩
      go_simp
      with_reducible rfl
    rotate_left
    · simp only [Act.put, List.setIfInBounds_toArray, List.set_cons_zero, List.set_cons_succ, i64_w, i32_w]
      rfl
    refine join_ (σ := Nat × Nat) 2 #[true, true, true, true, false, false] (fun s_ => [(7, .pointer (some ⟨s_.1, 0, none⟩)), (8, .pointer (some ⟨s_.2, 0, none⟩))]) (fun s_ w' => (w'.cell? ⟨gb243, 0, none⟩ = some (.int .i64 a0_0) ∧ w'.cell? ⟨gb243, 1, none⟩ = some (.int .i64 a0_1) ∧ w'.cell? ⟨gb243, 2, none⟩ = some (.int .i64 a0_2) ∧ w'.cell? ⟨gb243, 3, none⟩ = some (.int .i64 a0_3) ∧ w'.cell? ⟨gb243, 4, none⟩ = some (.int .i64 a0_4) ∧ w'.cell? ⟨gb243, 5, none⟩ = some (.int .i64 a0_5) ∧ w'.cell? ⟨gb243, 6, none⟩ = some (.int .i64 a0_6) ∧ w'.cell? ⟨gb243, 7, none⟩ = some (.int .i64 a0_7) ∧ w'.cell? ⟨gb243, 8, none⟩ = some (.int .i64 a0_8) ∧ w'.cell? ⟨gb243, 9, none⟩ = some (.int .i64 a0_9) ∧ w'.cell? ⟨gb243, 10, none⟩ = some (.int .i64 a0_10)) ∧ (w'.heap[gb243]? = some (.cells #[.int .i64 a0_0, .int .i64 a0_1, .int .i64 a0_2, .int .i64 a0_3, .int .i64 a0_4, .int .i64 a0_5, .int .i64 a0_6, .int .i64 a0_7, .int .i64 a0_8, .int .i64 a0_9, .int .i64 a0_10] 30 (0, 0))) ∧ (w'.heap[s_.1]? = some (.cells #[.int .i64 0, .int .i64 0, .int .i64 0, .int .i64 0, .int .i64 0, .int .i64 0, .int .i64 0, .int .i64 0, .int .i64 0, .int .i64 0, .int .i64 0] 30 (0, 0))) ∧ (w'.heap[s_.2]? = some (.cells #[.int .i64 0, .int .i64 0, .int .i64 0, .int .i64 0, .int .i64 0, .int .i64 0, .int .i64 0, .int .i64 0, .int .i64 0, .int .i64 0, .int .i64 0] 30 (0, 0))) ∧ (w.heap.size ≤ s_.1) ∧ (w.heap.size ≤ s_.1) ∧ (gb243 ≠ s_.1) ∧ (s_.1 ≠ gb243) ∧ (s_.2 ≠ s_.1) ∧ (s_.1 ≠ s_.2) ∧ (w.heap.size ≤ s_.2) ∧ (w.heap.size ≤ s_.2) ∧ (gb243 ≠ s_.2) ∧ (s_.2 ≠ gb243) ∧ (Below w.heap.size w w')) ?_ ?_
    rotate_left
    · intro hCont
      refine two_ (i := 2) (j := 3) (Ni := some 7) (Nj := some 8) #[true, true, true, false, false, false] #[true, true, false, true, false, false] rfl rfl rfl rfl (by kernel_rfl) (by decide) (by decide) (fun K hK => ?_) (fun K hK => ?_)
      · skip
        refine box_step ?hg (N := 7) ?hd (cs := #[.int .i64 0, .int .i64 0, .int .i64 0, .int .i64 0, .int .i64 0, .int .i64 0, .int .i64 0, .int .i64 0, .int .i64 0, .int .i64 0, .int .i64 0]) (t := 30) ?hr ?_; (case hd => rfl); (case hg => rfl); (case hr => first | (go_simp; done) | (go_simp; rfl))
        intro gb245 hg w10 hbox hb
        have n0_ := Aside0.mk (blk_below (g := gb243) (o := .cells #[.int .i64 a0_0, .int .i64 a0_1, .int .i64 a0_2, .int .i64 a0_3, .int .i64 a0_4, .int .i64 a0_5, .int .i64 a0_6, .int .i64 a0_7, .int .i64 a0_8, .int .i64 a0_9, .int .i64 a0_10] 30 (0, 0)) (by (with_reducible repeat (first | refine blk_drewN ?_ _ | refine blk_drew ?_ | refine blk_alloc ?_ _)); exact BK243.out) hb)
        have n1_ := Aside0.mk (below_step (by repeat (first | (with_reducible first | exact HB.out | apply below_alloc | apply pw_below_drewN | apply below_drew1 | refine below_set ?_ GE243.out) | exact HB.out)) hb)
        have n2_ := Aside0.mk (hbox)
        have n3_ := Aside0.mk ((by rw [hg]; exact (below_size (by repeat (first | (with_reducible first | exact HB.out | apply below_alloc | apply pw_below_drewN | apply below_drew1 | refine below_set ?_ GE243.out) | exact HB.out))) : w.heap.size ≤ gb245))
        have n4_ := Aside0.mk ((by rw [hg]; exact (below_size (by repeat (first | (with_reducible first | exact HB.out | apply below_alloc | apply pw_below_drewN | apply below_drew1 | refine below_set ?_ GE243.out) | exact HB.out))) : w.heap.size ≤ gb245))
        have n5_ := Aside0.mk ((by rw [hg]; exact Nat.ne_of_lt (blk_lt (g := gb243) (o := .cells #[.int .i64 a0_0, .int .i64 a0_1, .int .i64 a0_2, .int .i64 a0_3, .int .i64 a0_4, .int .i64 a0_5, .int .i64 a0_6, .int .i64 a0_7, .int .i64 a0_8, .int .i64 a0_9, .int .i64 a0_10] 30 (0, 0)) (by (with_reducible repeat (first | refine blk_drewN ?_ _ | refine blk_drew ?_ | refine blk_alloc ?_ _)); exact BK243.out)) : gb243 ≠ gb245))
        have n6_ := Aside0.mk ((by rw [hg]; exact Nat.ne_of_gt (blk_lt (g := gb243) (o := .cells #[.int .i64 a0_0, .int .i64 a0_1, .int .i64 a0_2, .int .i64 a0_3, .int .i64 a0_4, .int .i64 a0_5, .int .i64 a0_6, .int .i64 a0_7, .int .i64 a0_8, .int .i64 a0_9, .int .i64 a0_10] 30 (0, 0)) (by (with_reducible repeat (first | refine blk_drewN ?_ _ | refine blk_drew ?_ | refine blk_alloc ?_ _)); exact BK243.out)) : gb245 ≠ gb243))
        clear BK243
        clear HB
        have BK243 := n0_
        have HB := n1_
        have BK245 := n2_
        have GW245 := n3_
        have GE245 := n4_
        have NB243_245 := n5_
        have NB245_243 := n6_
        clear n0_ n1_ n2_ n3_ n4_ n5_ n6_
        clear hb hbox hg
        refine hK.out _ _ ⟨(blk_cell BK243.out 0).trans rfl, (blk_cell BK243.out 1).trans rfl, (blk_cell BK243.out 2).trans rfl, (blk_cell BK243.out 3).trans rfl, (blk_cell BK243.out 4).trans rfl, (blk_cell BK243.out 5).trans rfl, (blk_cell BK243.out 6).trans rfl, (blk_cell BK243.out 7).trans rfl, (blk_cell BK243.out 8).trans rfl, (blk_cell BK243.out 9).trans rfl, (blk_cell BK243.out 10).trans rfl⟩ (fun hHeld => ?_)
        clear hK K
        refine norm_ (a' := ?_) ?_ ?_
        rotate_left
        · show Act.put _ (some 7) _ = _
          simp only [Act.put, List.setIfInBounds_toArray, List.set_cons_zero, List.set_cons_succ, i64_w, i32_w]
          rfl
        refine one_ (i := 3) (N := some 8) #[true, true, true, true, false, false] rfl rfl (by kernel_rfl) (by decide) (fun K hK => ?_)
        refine box_step ?hg (N := 8) ?hd (cs := #[.int .i64 0, .int .i64 0, .int .i64 0, .int .i64 0, .int .i64 0, .int .i64 0, .int .i64 0, .int .i64 0, .int .i64 0, .int .i64 0, .int .i64 0]) (t := 30) ?hr ?_; (case hd => rfl); (case hg => rfl); (case hr => first | (go_simp; done) | (go_simp; rfl))
        intro gb246 hg w11 hbox hb
        have n0_ := Aside0.mk (blk_below (g := gb243) (o := .cells #[.int .i64 a0_0, .int .i64 a0_1, .int .i64 a0_2, .int .i64 a0_3, .int .i64 a0_4, .int .i64 a0_5, .int .i64 a0_6, .int .i64 a0_7, .int .i64 a0_8, .int .i64 a0_9, .int .i64 a0_10] 30 (0, 0)) (by (with_reducible repeat (first | refine blk_drewN ?_ _ | refine blk_drew ?_ | refine blk_alloc ?_ _)); exact BK243.out) hb)
        have n1_ := Aside0.mk (blk_below (g := gb245) (o := .cells #[.int .i64 0, .int .i64 0, .int .i64 0, .int .i64 0, .int .i64 0, .int .i64 0, .int .i64 0, .int .i64 0, .int .i64 0, .int .i64 0, .int .i64 0] 30 (0, 0)) (by (with_reducible repeat (first | refine blk_drewN ?_ _ | refine blk_drew ?_ | refine blk_alloc ?_ _)); exact BK245.out) hb)
        have n2_ := Aside0.mk (below_step (by repeat (first | (with_reducible first | exact HB.out | apply below_alloc | apply pw_below_drewN | apply below_drew1 | refine below_set ?_ GE243.out | refine below_set ?_ GE245.out) | exact HB.out)) hb)
        have n3_ := Aside0.mk (hbox)
        have n4_ := Aside0.mk ((by rw [hg]; exact (below_size (by repeat (first | (with_reducible first | exact HB.out | apply below_alloc | apply pw_below_drewN | apply below_drew1 | refine below_set ?_ GE243.out | refine below_set ?_ GE245.out) | exact HB.out))) : w.heap.size ≤ gb246))
        have n5_ := Aside0.mk ((by rw [hg]; exact (below_size (by repeat (first | (with_reducible first | exact HB.out | apply below_alloc | apply pw_below_drewN | apply below_drew1 | refine below_set ?_ GE243.out | refine below_set ?_ GE245.out) | exact HB.out))) : w.heap.size ≤ gb246))
        have n6_ := Aside0.mk ((by rw [hg]; exact Nat.ne_of_lt (blk_lt (g := gb243) (o := .cells #[.int .i64 a0_0, .int .i64 a0_1, .int .i64 a0_2, .int .i64 a0_3, .int .i64 a0_4, .int .i64 a0_5, .int .i64 a0_6, .int .i64 a0_7, .int .i64 a0_8, .int .i64 a0_9, .int .i64 a0_10] 30 (0, 0)) (by (with_reducible repeat (first | refine blk_drewN ?_ _ | refine blk_drew ?_ | refine blk_alloc ?_ _)); exact BK243.out)) : gb243 ≠ gb246))
        have n7_ := Aside0.mk ((by rw [hg]; exact Nat.ne_of_gt (blk_lt (g := gb243) (o := .cells #[.int .i64 a0_0, .int .i64 a0_1, .int .i64 a0_2, .int .i64 a0_3, .int .i64 a0_4, .int .i64 a0_5, .int .i64 a0_6, .int .i64 a0_7, .int .i64 a0_8, .int .i64 a0_9, .int .i64 a0_10] 30 (0, 0)) (by (with_reducible repeat (first | refine blk_drewN ?_ _ | refine blk_drew ?_ | refine blk_alloc ?_ _)); exact BK243.out)) : gb246 ≠ gb243))
        have n8_ := Aside0.mk ((by rw [hg]; exact Nat.ne_of_lt (blk_lt (g := gb245) (o := .cells #[.int .i64 0, .int .i64 0, .int .i64 0, .int .i64 0, .int .i64 0, .int .i64 0, .int .i64 0, .int .i64 0, .int .i64 0, .int .i64 0, .int .i64 0] 30 (0, 0)) (by (with_reducible repeat (first | refine blk_drewN ?_ _ | refine blk_drew ?_ | refine blk_alloc ?_ _)); exact BK245.out)) : gb245 ≠ gb246))
        have n9_ := Aside0.mk ((by rw [hg]; exact Nat.ne_of_gt (blk_lt (g := gb245) (o := .cells #[.int .i64 0, .int .i64 0, .int .i64 0, .int .i64 0, .int .i64 0, .int .i64 0, .int .i64 0, .int .i64 0, .int .i64 0, .int .i64 0, .int .i64 0] 30 (0, 0)) (by (with_reducible repeat (first | refine blk_drewN ?_ _ | refine blk_drew ?_ | refine blk_alloc ?_ _)); exact BK245.out)) : gb246 ≠ gb245))
        clear BK243
        clear BK245
        clear HB
        have BK243 := n0_
        have BK245 := n1_
        have HB := n2_
        have BK246 := n3_
        have GW246 := n4_
        have GE246 := n5_
        have NB243_246 := n6_
        have NB246_243 := n7_
        have NB245_246 := n8_
        have NB246_245 := n9_
        clear n0_ n1_ n2_ n3_ n4_ n5_ n6_ n7_ n8_ n9_
        clear hb hbox hg
        refine hK.out _ _ ⟨(blk_cell BK243.out 0).trans rfl, (blk_cell BK243.out 1).trans rfl, (blk_cell BK243.out 2).trans rfl, (blk_cell BK243.out 3).trans rfl, (blk_cell BK243.out 4).trans rfl, (blk_cell BK243.out 5).trans rfl, (blk_cell BK243.out 6).trans rfl, (blk_cell BK243.out 7).trans rfl, (blk_cell BK243.out 8).trans rfl, (blk_cell BK243.out 9).trans rfl, (blk_cell BK243.out 10).trans rfl⟩ (fun hHeld => ?_)
        clear hK K
        refine norm_ (a' := ?_) ?_ ?_
        rotate_left
        · show Act.put _ (some 8) _ = _
          simp only [Act.put, List.setIfInBounds_toArray, List.set_cons_zero, List.set_cons_succ, i64_w, i32_w]
          rfl
        exact norm_ (by simp only [putAll, Act.put, List.setIfInBounds_toArray, List.set_cons_zero, List.set_cons_succ]) (hCont (gb245, gb246) _ ⟨hHeld, (by (with_reducible repeat (first | refine blk_drewN ?_ _ | refine blk_drew ?_ | refine blk_alloc ?_ _)); exact BK243.out), (by (with_reducible repeat (first | refine blk_drewN ?_ _ | refine blk_drew ?_ | refine blk_alloc ?_ _)); exact BK245.out), (by (with_reducible repeat (first | refine blk_drewN ?_ _ | refine blk_drew ?_ | refine blk_alloc ?_ _)); exact BK246.out), GW245.out, GE245.out, NB243_245.out, NB245_243.out, NB246_245.out, NB245_246.out, GW246.out, GE246.out, NB243_246.out, NB246_243.out, (by repeat (first | (with_reducible first | exact HB.out | apply below_alloc | apply pw_below_drewN | apply below_drew1 | refine below_set ?_ GE243.out | refine below_set ?_ GE245.out | refine below_set ?_ GE246.out) | exact HB.out))⟩)
      · skip
        refine box_step ?hg (N := 8) ?hd (cs := #[.int .i64 0, .int .i64 0, .int .i64 0, .int .i64 0, .int .i64 0, .int .i64 0, .int .i64 0, .int .i64 0, .int .i64 0, .int .i64 0, .int .i64 0]) (t := 30) ?hr ?_; (case hd => rfl); (case hg => rfl); (case hr => first | (go_simp; done) | (go_simp; rfl))
        intro gb246 hg w10 hbox hb
        have n0_ := Aside0.mk (blk_below (g := gb243) (o := .cells #[.int .i64 a0_0, .int .i64 a0_1, .int .i64 a0_2, .int .i64 a0_3, .int .i64 a0_4, .int .i64 a0_5, .int .i64 a0_6, .int .i64 a0_7, .int .i64 a0_8, .int .i64 a0_9, .int .i64 a0_10] 30 (0, 0)) (by (with_reducible repeat (first | refine blk_drewN ?_ _ | refine blk_drew ?_ | refine blk_alloc ?_ _)); exact BK243.out) hb)
        have n1_ := Aside0.mk (below_step (by repeat (first | (with_reducible first | exact HB.out | apply below_alloc | apply pw_below_drewN | apply below_drew1 | refine below_set ?_ GE243.out) | exact HB.out)) hb)
        have n2_ := Aside0.mk (hbox)
        have n3_ := Aside0.mk ((by rw [hg]; exact (below_size (by repeat (first | (with_reducible first | exact HB.out | apply below_alloc | apply pw_below_drewN | apply below_drew1 | refine below_set ?_ GE243.out) | exact HB.out))) : w.heap.size ≤ gb246))
        have n4_ := Aside0.mk ((by rw [hg]; exact (below_size (by repeat (first | (with_reducible first | exact HB.out | apply below_alloc | apply pw_below_drewN | apply below_drew1 | refine below_set ?_ GE243.out) | exact HB.out))) : w.heap.size ≤ gb246))
        have n5_ := Aside0.mk ((by rw [hg]; exact Nat.ne_of_lt (blk_lt (g := gb243) (o := .cells #[.int .i64 a0_0, .int .i64 a0_1, .int .i64 a0_2, .int .i64 a0_3, .int .i64 a0_4, .int .i64 a0_5, .int .i64 a0_6, .int .i64 a0_7, .int .i64 a0_8, .int .i64 a0_9, .int .i64 a0_10] 30 (0, 0)) (by (with_reducible repeat (first | refine blk_drewN ?_ _ | refine blk_drew ?_ | refine blk_alloc ?_ _)); exact BK243.out)) : gb243 ≠ gb246))
        have n6_ := Aside0.mk ((by rw [hg]; exact Nat.ne_of_gt (blk_lt (g := gb243) (o := .cells #[.int .i64 a0_0, .int .i64 a0_1, .int .i64 a0_2, .int .i64 a0_3, .int .i64 a0_4, .int .i64 a0_5, .int .i64 a0_6, .int .i64 a0_7, .int .i64 a0_8, .int .i64 a0_9, .int .i64 a0_10] 30 (0, 0)) (by (with_reducible repeat (first | refine blk_drewN ?_ _ | refine blk_drew ?_ | refine blk_alloc ?_ _)); exact BK243.out)) : gb246 ≠ gb243))
        clear BK243
        clear HB
        have BK243 := n0_
        have HB := n1_
        have BK246 := n2_
        have GW246 := n3_
        have GE246 := n4_
        have NB243_246 := n5_
        have NB246_243 := n6_
        clear n0_ n1_ n2_ n3_ n4_ n5_ n6_
        clear hb hbox hg
        refine hK.out _ _ ⟨(blk_cell BK243.out 0).trans rfl, (blk_cell BK243.out 1).trans rfl, (blk_cell BK243.out 2).trans rfl, (blk_cell BK243.out 3).trans rfl, (blk_cell BK243.out 4).trans rfl, (blk_cell BK243.out 5).trans rfl, (blk_cell BK243.out 6).trans rfl, (blk_cell BK243.out 7).trans rfl, (blk_cell BK243.out 8).trans rfl, (blk_cell BK243.out 9).trans rfl, (blk_cell BK243.out 10).trans rfl⟩ (fun hHeld => ?_)
        clear hK K
        refine norm_ (a' := ?_) ?_ ?_
        rotate_left
        · show Act.put _ (some 8) _ = _
          simp only [Act.put, List.setIfInBounds_toArray, List.set_cons_zero, List.set_cons_succ, i64_w, i32_w]
          rfl
        refine one_ (i := 2) (N := some 7) #[true, true, true, true, false, false] rfl rfl (by kernel_rfl) (by decide) (fun K hK => ?_)
        refine box_step ?hg (N := 7) ?hd (cs := #[.int .i64 0, .int .i64 0, .int .i64 0, .int .i64 0, .int .i64 0, .int .i64 0, .int .i64 0, .int .i64 0, .int .i64 0, .int .i64 0, .int .i64 0]) (t := 30) ?hr ?_; (case hd => rfl); (case hg => rfl); (case hr => first | (go_simp; done) | (go_simp; rfl))
        intro gb245 hg w11 hbox hb
        have n0_ := Aside0.mk (blk_below (g := gb243) (o := .cells #[.int .i64 a0_0, .int .i64 a0_1, .int .i64 a0_2, .int .i64 a0_3, .int .i64 a0_4, .int .i64 a0_5, .int .i64 a0_6, .int .i64 a0_7, .int .i64 a0_8, .int .i64 a0_9, .int .i64 a0_10] 30 (0, 0)) (by (with_reducible repeat (first | refine blk_drewN ?_ _ | refine blk_drew ?_ | refine blk_alloc ?_ _)); exact BK243.out) hb)
        have n1_ := Aside0.mk (blk_below (g := gb246) (o := .cells #[.int .i64 0, .int .i64 0, .int .i64 0, .int .i64 0, .int .i64 0, .int .i64 0, .int .i64 0, .int .i64 0, .int .i64 0, .int .i64 0, .int .i64 0] 30 (0, 0)) (by (with_reducible repeat (first | refine blk_drewN ?_ _ | refine blk_drew ?_ | refine blk_alloc ?_ _)); exact BK246.out) hb)
        have n2_ := Aside0.mk (below_step (by repeat (first | (with_reducible first | exact HB.out | apply below_alloc | apply pw_below_drewN | apply below_drew1 | refine below_set ?_ GE243.out | refine below_set ?_ GE246.out) | exact HB.out)) hb)
        have n3_ := Aside0.mk (hbox)
        have n4_ := Aside0.mk ((by rw [hg]; exact (below_size (by repeat (first | (with_reducible first | exact HB.out | apply below_alloc | apply pw_below_drewN | apply below_drew1 | refine below_set ?_ GE243.out | refine below_set ?_ GE246.out) | exact HB.out))) : w.heap.size ≤ gb245))
        have n5_ := Aside0.mk ((by rw [hg]; exact (below_size (by repeat (first | (with_reducible first | exact HB.out | apply below_alloc | apply pw_below_drewN | apply below_drew1 | refine below_set ?_ GE243.out | refine below_set ?_ GE246.out) | exact HB.out))) : w.heap.size ≤ gb245))
        have n6_ := Aside0.mk ((by rw [hg]; exact Nat.ne_of_lt (blk_lt (g := gb243) (o := .cells #[.int .i64 a0_0, .int .i64 a0_1, .int .i64 a0_2, .int .i64 a0_3, .int .i64 a0_4, .int .i64 a0_5, .int .i64 a0_6, .int .i64 a0_7, .int .i64 a0_8, .int .i64 a0_9, .int .i64 a0_10] 30 (0, 0)) (by (with_reducible repeat (first | refine blk_drewN ?_ _ | refine blk_drew ?_ | refine blk_alloc ?_ _)); exact BK243.out)) : gb243 ≠ gb245))
        have n7_ := Aside0.mk ((by rw [hg]; exact Nat.ne_of_gt (blk_lt (g := gb243) (o := .cells #[.int .i64 a0_0, .int .i64 a0_1, .int .i64 a0_2, .int .i64 a0_3, .int .i64 a0_4, .int .i64 a0_5, .int .i64 a0_6, .int .i64 a0_7, .int .i64 a0_8, .int .i64 a0_9, .int .i64 a0_10] 30 (0, 0)) (by (with_reducible repeat (first | refine blk_drewN ?_ _ | refine blk_drew ?_ | refine blk_alloc ?_ _)); exact BK243.out)) : gb245 ≠ gb243))
        have n8_ := Aside0.mk ((by rw [hg]; exact Nat.ne_of_lt (blk_lt (g := gb246) (o := .cells #[.int .i64 0, .int .i64 0, .int .i64 0, .int .i64 0, .int .i64 0, .int .i64 0, .int .i64 0, .int .i64 0, .int .i64 0, .int .i64 0, .int .i64 0] 30 (0, 0)) (by (with_reducible repeat (first | refine blk_drewN ?_ _ | refine blk_drew ?_ | refine blk_alloc ?_ _)); exact BK246.out)) : gb246 ≠ gb245))
        have n9_ := Aside0.mk ((by rw [hg]; exact Nat.ne_of_gt (blk_lt (g := gb246) (o := .cells #[.int .i64 0, .int .i64 0, .int .i64 0, .int .i64 0, .int .i64 0, .int .i64 0, .int .i64 0, .int .i64 0, .int .i64 0, .int .i64 0, .int .i64 0] 30 (0, 0)) (by (with_reducible repeat (first | refine blk_drewN ?_ _ | refine blk_drew ?_ | refine blk_alloc ?_ _)); exact BK246.out)) : gb245 ≠ gb246))
        clear BK243
        clear BK246
        clear HB
        have BK243 := n0_
        have BK246 := n1_
        have HB := n2_
        have BK245 := n3_
        have GW245 := n4_
        have GE245 := n5_
        have NB243_245 := n6_
        have NB245_243 := n7_
        have NB246_245 := n8_
        have NB245_246 := n9_
        clear n0_ n1_ n2_ n3_ n4_ n5_ n6_ n7_ n8_ n9_
        clear hb hbox hg
        refine hK.out _ _ ⟨(blk_cell BK243.out 0).trans rfl, (blk_cell BK243.out 1).trans rfl, (blk_cell BK243.out 2).trans rfl, (blk_cell BK243.out 3).trans rfl, (blk_cell BK243.out 4).trans rfl, (blk_cell BK243.out 5).trans rfl, (blk_cell BK243.out 6).trans rfl, (blk_cell BK243.out 7).trans rfl, (blk_cell BK243.out 8).trans rfl, (blk_cell BK243.out 9).trans rfl, (blk_cell BK243.out 10).trans rfl⟩ (fun hHeld => ?_)
        clear hK K
        refine norm_ (a' := ?_) ?_ ?_
        rotate_left
        · show Act.put _ (some 7) _ = _
          simp only [Act.put, List.setIfInBounds_toArray, List.set_cons_zero, List.set_cons_succ, i64_w, i32_w]
          rfl
        exact norm_ (by simp only [putAll, Act.put, List.setIfInBounds_toArray, List.set_cons_zero, List.set_cons_succ]) (hCont (gb245, gb246) _ ⟨hHeld, (by (with_reducible repeat (first | refine blk_drewN ?_ _ | refine blk_drew ?_ | refine blk_alloc ?_ _)); exact BK243.out), (by (with_reducible repeat (first | refine blk_drewN ?_ _ | refine blk_drew ?_ | refine blk_alloc ?_ _)); exact BK245.out), (by (with_reducible repeat (first | refine blk_drewN ?_ _ | refine blk_drew ?_ | refine blk_alloc ?_ _)); exact BK246.out), GW245.out, GE245.out, NB243_245.out, NB245_243.out, NB246_245.out, NB245_246.out, GW246.out, GE246.out, NB243_246.out, NB246_243.out, (by repeat (first | (with_reducible first | exact HB.out | apply below_alloc | apply pw_below_drewN | apply below_drew1 | refine below_set ?_ GE243.out | refine below_set ?_ GE246.out | refine below_set ?_ GE245.out) | exact HB.out))⟩)
    rintro ⟨gb245, gb246⟩ w12 ⟨hS_, h0_, h1_, h2_, h3_, h4_, h5_, h6_, h7_, h8_, h9_, h10_, h11_, h12_, h13_⟩
    have n0_ : Aside0 (w12.heap[gb243]? = some (.cells #[.int .i64 a0_0, .int .i64 a0_1, .int .i64 a0_2, .int .i64 a0_3, .int .i64 a0_4, .int .i64 a0_5, .int .i64 a0_6, .int .i64 a0_7, .int .i64 a0_8, .int .i64 a0_9, .int .i64 a0_10] 30 (0, 0))) := ⟨h0_⟩
    have n1_ : Aside0 (w12.heap[gb245]? = some (.cells #[.int .i64 0, .int .i64 0, .int .i64 0, .int .i64 0, .int .i64 0, .int .i64 0, .int .i64 0, .int .i64 0, .int .i64 0, .int .i64 0, .int .i64 0] 30 (0, 0))) := ⟨h1_⟩
    have n2_ : Aside0 (w12.heap[gb246]? = some (.cells #[.int .i64 0, .int .i64 0, .int .i64 0, .int .i64 0, .int .i64 0, .int .i64 0, .int .i64 0, .int .i64 0, .int .i64 0, .int .i64 0, .int .i64 0] 30 (0, 0))) := ⟨h2_⟩
    have n3_ : Aside0 (w.heap.size ≤ gb245) := ⟨h3_⟩
    have n4_ : Aside0 (w.heap.size ≤ gb245) := ⟨h4_⟩
    have n5_ : Aside0 (gb243 ≠ gb245) := ⟨h5_⟩
    have n6_ : Aside0 (gb245 ≠ gb243) := ⟨h6_⟩
    have n7_ : Aside0 (gb246 ≠ gb245) := ⟨h7_⟩
    have n8_ : Aside0 (gb245 ≠ gb246) := ⟨h8_⟩
    have n9_ : Aside0 (w.heap.size ≤ gb246) := ⟨h9_⟩
    have n10_ : Aside0 (w.heap.size ≤ gb246) := ⟨h10_⟩
    have n11_ : Aside0 (gb243 ≠ gb246) := ⟨h11_⟩
    have n12_ : Aside0 (gb246 ≠ gb243) := ⟨h12_⟩
    have n13_ : Aside0 (Below w.heap.size w w12) := ⟨h13_⟩
    clear BK243
    clear HB
    clear h0_ h1_ h2_ h3_ h4_ h5_ h6_ h7_ h8_ h9_ h10_ h11_ h12_ h13_
    have BK243 := n0_
    have BK245 := n1_
    have BK246 := n2_
    have GW245 := n3_
    have GE245 := n4_
    have NB243_245 := n5_
    have NB245_243 := n6_
    have NB246_245 := n7_
    have NB245_246 := n8_
    have GW246 := n9_
    have GE246 := n10_
    have NB243_246 := n11_
    have NB246_243 := n12_
    have HB := n13_
    clear n0_ n1_ n2_ n3_ n4_ n5_ n6_ n7_ n8_ n9_ n10_ n11_ n12_ n13_
    have hHeld : w12.cell? ⟨gb243, 0, none⟩ = some (.int .i64 a0_0) ∧ w12.cell? ⟨gb243, 1, none⟩ = some (.int .i64 a0_1) ∧ w12.cell? ⟨gb243, 2, none⟩ = some (.int .i64 a0_2) ∧ w12.cell? ⟨gb243, 3, none⟩ = some (.int .i64 a0_3) ∧ w12.cell? ⟨gb243, 4, none⟩ = some (.int .i64 a0_4) ∧ w12.cell? ⟨gb243, 5, none⟩ = some (.int .i64 a0_5) ∧ w12.cell? ⟨gb243, 6, none⟩ = some (.int .i64 a0_6) ∧ w12.cell? ⟨gb243, 7, none⟩ = some (.int .i64 a0_7) ∧ w12.cell? ⟨gb243, 8, none⟩ = some (.int .i64 a0_8) ∧ w12.cell? ⟨gb243, 9, none⟩ = some (.int .i64 a0_9) ∧ w12.cell? ⟨gb243, 10, none⟩ = some (.int .i64 a0_10) := hS_
    refine norm_ (a' := ?_) ?_ ?_
    rotate_left
    · simp only [putAll, Act.put, List.setIfInBounds_toArray, List.set_cons_zero, List.set_cons_succ]
      rfl
    refine one_ (i := 4) (N := none) #[true, true, true, true, true, false] rfl rfl (by kernel_rfl) (by decide) (fun K hK => ?_)
    have hs13 : w12.cell? ⟨gb245, 0, none⟩ = some (.int .i64 0) := (blk_cell BK245.out 0).trans rfl
    have hfs13 := blk_frozen BK245.out 0
    have hns13_0 := NB243_245.out
    have hns13_2 := NB246_245.out
    have hms13_0 := NB245_243.out
    have hms13_2 := NB245_246.out
    have hs14 : w12.cell? ⟨gb245, 1, none⟩ = some (.int .i64 0) := (blk_cell BK245.out 1).trans rfl
    have hfs14 := blk_frozen BK245.out 1
    have hns14_0 := NB243_245.out
    have hns14_2 := NB246_245.out
    have hms14_0 := NB245_243.out
    have hms14_2 := NB245_246.out
    have hs15 : w12.cell? ⟨gb245, 2, none⟩ = some (.int .i64 0) := (blk_cell BK245.out 2).trans rfl
    have hfs15 := blk_frozen BK245.out 2
    have hns15_0 := NB243_245.out
    have hns15_2 := NB246_245.out
    have hms15_0 := NB245_243.out
    have hms15_2 := NB245_246.out
    have hs16 : w12.cell? ⟨gb245, 3, none⟩ = some (.int .i64 0) := (blk_cell BK245.out 3).trans rfl
    have hfs16 := blk_frozen BK245.out 3
    have hns16_0 := NB243_245.out
    have hns16_2 := NB246_245.out
    have hms16_0 := NB245_243.out
    have hms16_2 := NB245_246.out
    have hs17 : w12.cell? ⟨gb245, 4, none⟩ = some (.int .i64 0) := (blk_cell BK245.out 4).trans rfl
    have hfs17 := blk_frozen BK245.out 4
    have hns17_0 := NB243_245.out
    have hns17_2 := NB246_245.out
    have hms17_0 := NB245_243.out
    have hms17_2 := NB245_246.out
    have hs18 : w12.cell? ⟨gb245, 5, none⟩ = some (.int .i64 0) := (blk_cell BK245.out 5).trans rfl
    have hfs18 := blk_frozen BK245.out 5
    have hns18_0 := NB243_245.out
    have hns18_2 := NB246_245.out
    have hms18_0 := NB245_243.out
    have hms18_2 := NB245_246.out
    have hs19 : w12.cell? ⟨gb245, 6, none⟩ = some (.int .i64 0) := (blk_cell BK245.out 6).trans rfl
    have hfs19 := blk_frozen BK245.out 6
    have hns19_0 := NB243_245.out
    have hns19_2 := NB246_245.out
    have hms19_0 := NB245_243.out
    have hms19_2 := NB245_246.out
    have hs20 : w12.cell? ⟨gb245, 7, none⟩ = some (.int .i64 0) := (blk_cell BK245.out 7).trans rfl
    have hfs20 := blk_frozen BK245.out 7
    have hns20_0 := NB243_245.out
    have hns20_2 := NB246_245.out
    have hms20_0 := NB245_243.out
    have hms20_2 := NB245_246.out
    have hs21 : w12.cell? ⟨gb245, 8, none⟩ = some (.int .i64 0) := (blk_cell BK245.out 8).trans rfl
    have hfs21 := blk_frozen BK245.out 8
    have hns21_0 := NB243_245.out
    have hns21_2 := NB246_245.out
    have hms21_0 := NB245_243.out
    have hms21_2 := NB245_246.out
    have hs22 : w12.cell? ⟨gb245, 9, none⟩ = some (.int .i64 0) := (blk_cell BK245.out 9).trans rfl
    have hfs22 := blk_frozen BK245.out 9
    have hns22_0 := NB243_245.out
    have hns22_2 := NB246_245.out
    have hms22_0 := NB245_243.out
    have hms22_2 := NB245_246.out
    have hs23 : w12.cell? ⟨gb245, 10, none⟩ = some (.int .i64 0) := (blk_cell BK245.out 10).trans rfl
    have hfs23 := blk_frozen BK245.out 10
    have hns23_0 := NB243_245.out
    have hns23_2 := NB246_245.out
    have hms23_0 := NB245_243.out
    have hms23_2 := NB245_246.out
    refine skip_ (w1 := ?_) ?hw_ ?hN_ ?_ ?_; (case hw_ => rfl); (case hN_ => rfl)
    rotate_left
    · go_simp
      rfl
    refine hK.out _ _ ⟨((cell_far (p := ⟨gb245, _, none⟩) NB243_245.out _).trans (((cell_far (p := ⟨gb245, _, none⟩) NB243_245.out _).trans (((cell_far (p := ⟨gb245, _, none⟩) NB243_245.out _).trans (((cell_far (p := ⟨gb245, _, none⟩) NB243_245.out _).trans (((cell_far (p := ⟨gb245, _, none⟩) NB243_245.out _).trans (((cell_far (p := ⟨gb245, _, none⟩) NB243_245.out _).trans (((cell_far (p := ⟨gb245, _, none⟩) NB243_245.out _).trans (((cell_far (p := ⟨gb245, _, none⟩) NB243_245.out _).trans (((cell_far (p := ⟨gb245, _, none⟩) NB243_245.out _).trans (((cell_far (p := ⟨gb245, _, none⟩) NB243_245.out _).trans (((cell_far (p := ⟨gb245, _, none⟩) NB243_245.out _).trans (hHeld.1)))))))))))))))))))))), ((cell_far (p := ⟨gb245, _, none⟩) NB243_245.out _).trans (((cell_far (p := ⟨gb245, _, none⟩) NB243_245.out _).trans (((cell_far (p := ⟨gb245, _, none⟩) NB243_245.out _).trans (((cell_far (p := ⟨gb245, _, none⟩) NB243_245.out _).trans (((cell_far (p := ⟨gb245, _, none⟩) NB243_245.out _).trans (((cell_far (p := ⟨gb245, _, none⟩) NB243_245.out _).trans (((cell_far (p := ⟨gb245, _, none⟩) NB243_245.out _).trans (((cell_far (p := ⟨gb245, _, none⟩) NB243_245.out _).trans (((cell_far (p := ⟨gb245, _, none⟩) NB243_245.out _).trans (((cell_far (p := ⟨gb245, _, none⟩) NB243_245.out _).trans (((cell_far (p := ⟨gb245, _, none⟩) NB243_245.out _).trans (hHeld.2.1)))))))))))))))))))))), ((cell_far (p := ⟨gb245, _, none⟩) NB243_245.out _).trans (((cell_far (p := ⟨gb245, _, none⟩) NB243_245.out _).trans (((cell_far (p := ⟨gb245, _, none⟩) NB243_245.out _).trans (((cell_far (p := ⟨gb245, _, none⟩) NB243_245.out _).trans (((cell_far (p := ⟨gb245, _, none⟩) NB243_245.out _).trans (((cell_far (p := ⟨gb245, _, none⟩) NB243_245.out _).trans (((cell_far (p := ⟨gb245, _, none⟩) NB243_245.out _).trans (((cell_far (p := ⟨gb245, _, none⟩) NB243_245.out _).trans (((cell_far (p := ⟨gb245, _, none⟩) NB243_245.out _).trans (((cell_far (p := ⟨gb245, _, none⟩) NB243_245.out _).trans (((cell_far (p := ⟨gb245, _, none⟩) NB243_245.out _).trans (hHeld.2.2.1)))))))))))))))))))))), ((cell_far (p := ⟨gb245, _, none⟩) NB243_245.out _).trans (((cell_far (p := ⟨gb245, _, none⟩) NB243_245.out _).trans (((cell_far (p := ⟨gb245, _, none⟩) NB243_245.out _).trans (((cell_far (p := ⟨gb245, _, none⟩) NB243_245.out _).trans (((cell_far (p := ⟨gb245, _, none⟩) NB243_245.out _).trans (((cell_far (p := ⟨gb245, _, none⟩) NB243_245.out _).trans (((cell_far (p := ⟨gb245, _, none⟩) NB243_245.out _).trans (((cell_far (p := ⟨gb245, _, none⟩) NB243_245.out _).trans (((cell_far (p := ⟨gb245, _, none⟩) NB243_245.out _).trans (((cell_far (p := ⟨gb245, _, none⟩) NB243_245.out _).trans (((cell_far (p := ⟨gb245, _, none⟩) NB243_245.out _).trans (hHeld.2.2.2.1)))))))))))))))))))))), ((cell_far (p := ⟨gb245, _, none⟩) NB243_245.out _).trans (((cell_far (p := ⟨gb245, _, none⟩) NB243_245.out _).trans (((cell_far (p := ⟨gb245, _, none⟩) NB243_245.out _).trans (((cell_far (p := ⟨gb245, _, none⟩) NB243_245.out _).trans (((cell_far (p := ⟨gb245, _, none⟩) NB243_245.out _).trans (((cell_far (p := ⟨gb245, _, none⟩) NB243_245.out _).trans (((cell_far (p := ⟨gb245, _, none⟩) NB243_245.out _).trans (((cell_far (p := ⟨gb245, _, none⟩) NB243_245.out _).trans (((cell_far (p := ⟨gb245, _, none⟩) NB243_245.out _).trans (((cell_far (p := ⟨gb245, _, none⟩) NB243_245.out _).trans (((cell_far (p := ⟨gb245, _, none⟩) NB243_245.out _).trans (hHeld.2.2.2.2.1)))))))))))))))))))))), ((cell_far (p := ⟨gb245, _, none⟩) NB243_245.out _).trans (((cell_far (p := ⟨gb245, _, none⟩) NB243_245.out _).trans (((cell_far (p := ⟨gb245, _, none⟩) NB243_245.out _).trans (((cell_far (p := ⟨gb245, _, none⟩) NB243_245.out _).trans (((cell_far (p := ⟨gb245, _, none⟩) NB243_245.out _).trans (((cell_far (p := ⟨gb245, _, none⟩) NB243_245.out _).trans (((cell_far (p := ⟨gb245, _, none⟩) NB243_245.out _).trans (((cell_far (p := ⟨gb245, _, none⟩) NB243_245.out _).trans (((cell_far (p := ⟨gb245, _, none⟩) NB243_245.out _).trans (((cell_far (p := ⟨gb245, _, none⟩) NB243_245.out _).trans (((cell_far (p := ⟨gb245, _, none⟩) NB243_245.out _).trans (hHeld.2.2.2.2.2.1)))))))))))))))))))))), ((cell_far (p := ⟨gb245, _, none⟩) NB243_245.out _).trans (((cell_far (p := ⟨gb245, _, none⟩) NB243_245.out _).trans (((cell_far (p := ⟨gb245, _, none⟩) NB243_245.out _).trans (((cell_far (p := ⟨gb245, _, none⟩) NB243_245.out _).trans (((cell_far (p := ⟨gb245, _, none⟩) NB243_245.out _).trans (((cell_far (p := ⟨gb245, _, none⟩) NB243_245.out _).trans (((cell_far (p := ⟨gb245, _, none⟩) NB243_245.out _).trans (((cell_far (p := ⟨gb245, _, none⟩) NB243_245.out _).trans (((cell_far (p := ⟨gb245, _, none⟩) NB243_245.out _).trans (((cell_far (p := ⟨gb245, _, none⟩) NB243_245.out _).trans (((cell_far (p := ⟨gb245, _, none⟩) NB243_245.out _).trans (hHeld.2.2.2.2.2.2.1)))))))))))))))))))))), ((cell_far (p := ⟨gb245, _, none⟩) NB243_245.out _).trans (((cell_far (p := ⟨gb245, _, none⟩) NB243_245.out _).trans (((cell_far (p := ⟨gb245, _, none⟩) NB243_245.out _).trans (((cell_far (p := ⟨gb245, _, none⟩) NB243_245.out _).trans (((cell_far (p := ⟨gb245, _, none⟩) NB243_245.out _).trans (((cell_far (p := ⟨gb245, _, none⟩) NB243_245.out _).trans (((cell_far (p := ⟨gb245, _, none⟩) NB243_245.out _).trans (((cell_far (p := ⟨gb245, _, none⟩) NB243_245.out _).trans (((cell_far (p := ⟨gb245, _, none⟩) NB243_245.out _).trans (((cell_far (p := ⟨gb245, _, none⟩) NB243_245.out _).trans (((cell_far (p := ⟨gb245, _, none⟩) NB243_245.out _).trans (hHeld.2.2.2.2.2.2.2.1)))))))))))))))))))))), ((cell_far (p := ⟨gb245, _, none⟩) NB243_245.out _).trans (((cell_far (p := ⟨gb245, _, none⟩) NB243_245.out _).trans (((cell_far (p := ⟨gb245, _, none⟩) NB243_245.out _).trans (((cell_far (p := ⟨gb245, _, none⟩) NB243_245.out _).trans (((cell_far (p := ⟨gb245, _, none⟩) NB243_245.out _).trans (((cell_far (p := ⟨gb245, _, none⟩) NB243_245.out _).trans (((cell_far (p := ⟨gb245, _, none⟩) NB243_245.out _).trans (((cell_far (p := ⟨gb245, _, none⟩) NB243_245.out _).trans (((cell_far (p := ⟨gb245, _, none⟩) NB243_245.out _).trans (((cell_far (p := ⟨gb245, _, none⟩) NB243_245.out _).trans (((cell_far (p := ⟨gb245, _, none⟩) NB243_245.out _).trans (hHeld.2.2.2.2.2.2.2.2.1)))))))))))))))))))))), ((cell_far (p := ⟨gb245, _, none⟩) NB243_245.out _).trans (((cell_far (p := ⟨gb245, _, none⟩) NB243_245.out _).trans (((cell_far (p := ⟨gb245, _, none⟩) NB243_245.out _).trans (((cell_far (p := ⟨gb245, _, none⟩) NB243_245.out _).trans (((cell_far (p := ⟨gb245, _, none⟩) NB243_245.out _).trans (((cell_far (p := ⟨gb245, _, none⟩) NB243_245.out _).trans (((cell_far (p := ⟨gb245, _, none⟩) NB243_245.out _).trans (((cell_far (p := ⟨gb245, _, none⟩) NB243_245.out _).trans (((cell_far (p := ⟨gb245, _, none⟩) NB243_245.out _).trans (((cell_far (p := ⟨gb245, _, none⟩) NB243_245.out _).trans (((cell_far (p := ⟨gb245, _, none⟩) NB243_245.out _).trans (hHeld.2.2.2.2.2.2.2.2.2.1)))))))))))))))))))))), ((cell_far (p := ⟨gb245, _, none⟩) NB243_245.out _).trans (((cell_far (p := ⟨gb245, _, none⟩) NB243_245.out _).trans (((cell_far (p := ⟨gb245, _, none⟩) NB243_245.out _).trans (((cell_far (p := ⟨gb245, _, none⟩) NB243_245.out _).trans (((cell_far (p := ⟨gb245, _, none⟩) NB243_245.out _).trans (((cell_far (p := ⟨gb245, _, none⟩) NB243_245.out _).trans (((cell_far (p := ⟨gb245, _, none⟩) NB243_245.out _).trans (((cell_far (p := ⟨gb245, _, none⟩) NB243_245.out _).trans (((cell_far (p := ⟨gb245, _, none⟩) NB243_245.out _).trans (((cell_far (p := ⟨gb245, _, none⟩) NB243_245.out _).trans (((cell_far (p := ⟨gb245, _, none⟩) NB243_245.out _).trans (hHeld.2.2.2.2.2.2.2.2.2.2))))))))))))))))))))))⟩ (fun hHeld => ?_)
    clear hK K
    refine one_ (i := 5) (N := none) #[true, true, true, true, true, true] rfl rfl (by kernel_rfl) (by decide) (fun K hK => ?_)
    have hs24 : w12.cell? ⟨gb246, 0, none⟩ = some (.int .i64 0) := (blk_cell BK246.out 0).trans rfl
    have hfs24 := blk_frozen BK246.out 0
    have hns24_0 := NB243_246.out
    have hns24_1 := NB245_246.out
    have hms24_0 := NB246_243.out
    have hms24_1 := NB246_245.out
    have hs25 : w12.cell? ⟨gb246, 1, none⟩ = some (.int .i64 0) := (blk_cell BK246.out 1).trans rfl
    have hfs25 := blk_frozen BK246.out 1
    have hns25_0 := NB243_246.out
    have hns25_1 := NB245_246.out
    have hms25_0 := NB246_243.out
    have hms25_1 := NB246_245.out
    have hs26 : w12.cell? ⟨gb246, 2, none⟩ = some (.int .i64 0) := (blk_cell BK246.out 2).trans rfl
    have hfs26 := blk_frozen BK246.out 2
    have hns26_0 := NB243_246.out
    have hns26_1 := NB245_246.out
    have hms26_0 := NB246_243.out
    have hms26_1 := NB246_245.out
    have hs27 : w12.cell? ⟨gb246, 3, none⟩ = some (.int .i64 0) := (blk_cell BK246.out 3).trans rfl
    have hfs27 := blk_frozen BK246.out 3
    have hns27_0 := NB243_246.out
    have hns27_1 := NB245_246.out
    have hms27_0 := NB246_243.out
    have hms27_1 := NB246_245.out
    have hs28 : w12.cell? ⟨gb246, 4, none⟩ = some (.int .i64 0) := (blk_cell BK246.out 4).trans rfl
    have hfs28 := blk_frozen BK246.out 4
    have hns28_0 := NB243_246.out
    have hns28_1 := NB245_246.out
    have hms28_0 := NB246_243.out
    have hms28_1 := NB246_245.out
    have hs29 : w12.cell? ⟨gb246, 5, none⟩ = some (.int .i64 0) := (blk_cell BK246.out 5).trans rfl
    have hfs29 := blk_frozen BK246.out 5
    have hns29_0 := NB243_246.out
    have hns29_1 := NB245_246.out
    have hms29_0 := NB246_243.out
    have hms29_1 := NB246_245.out
    have hs30 : w12.cell? ⟨gb246, 6, none⟩ = some (.int .i64 0) := (blk_cell BK246.out 6).trans rfl
    have hfs30 := blk_frozen BK246.out 6
    have hns30_0 := NB243_246.out
    have hns30_1 := NB245_246.out
    have hms30_0 := NB246_243.out
    have hms30_1 := NB246_245.out
    have hs31 : w12.cell? ⟨gb246, 7, none⟩ = some (.int .i64 0) := (blk_cell BK246.out 7).trans rfl
    have hfs31 := blk_frozen BK246.out 7
    have hns31_0 := NB243_246.out
    have hns31_1 := NB245_246.out
    have hms31_0 := NB246_243.out
    have hms31_1 := NB246_245.out
    have hs32 : w12.cell? ⟨gb246, 8, none⟩ = some (.int .i64 0) := (blk_cell BK246.out 8).trans rfl
    have hfs32 := blk_frozen BK246.out 8
    have hns32_0 := NB243_246.out
    have hns32_1 := NB245_246.out
    have hms32_0 := NB246_243.out
    have hms32_1 := NB246_245.out
    have hs33 : w12.cell? ⟨gb246, 9, none⟩ = some (.int .i64 0) := (blk_cell BK246.out 9).trans rfl
    have hfs33 := blk_frozen BK246.out 9
    have hns33_0 := NB243_246.out
    have hns33_1 := NB245_246.out
    have hms33_0 := NB246_243.out
    have hms33_1 := NB246_245.out
    have hs34 : w12.cell? ⟨gb246, 10, none⟩ = some (.int .i64 0) := (blk_cell BK246.out 10).trans rfl
    have hfs34 := blk_frozen BK246.out 10
    have hns34_0 := NB243_246.out
    have hns34_1 := NB245_246.out
    have hms34_0 := NB246_243.out
    have hms34_1 := NB246_245.out
    refine skip_ (w1 := ?_) ?hw_ ?hN_ ?_ ?_; (case hw_ => rfl); (case hN_ => rfl)
    rotate_left
    · go_simp
      rfl
    refine hK.out _ _ ⟨((cell_far (p := ⟨gb246, _, none⟩) NB243_246.out _).trans (((cell_far (p := ⟨gb246, _, none⟩) NB243_246.out _).trans (((cell_far (p := ⟨gb246, _, none⟩) NB243_246.out _).trans (((cell_far (p := ⟨gb246, _, none⟩) NB243_246.out _).trans (((cell_far (p := ⟨gb246, _, none⟩) NB243_246.out _).trans (((cell_far (p := ⟨gb246, _, none⟩) NB243_246.out _).trans (((cell_far (p := ⟨gb246, _, none⟩) NB243_246.out _).trans (((cell_far (p := ⟨gb246, _, none⟩) NB243_246.out _).trans (((cell_far (p := ⟨gb246, _, none⟩) NB243_246.out _).trans (((cell_far (p := ⟨gb246, _, none⟩) NB243_246.out _).trans (((cell_far (p := ⟨gb246, _, none⟩) NB243_246.out _).trans (hHeld.1)))))))))))))))))))))), ((cell_far (p := ⟨gb246, _, none⟩) NB243_246.out _).trans (((cell_far (p := ⟨gb246, _, none⟩) NB243_246.out _).trans (((cell_far (p := ⟨gb246, _, none⟩) NB243_246.out _).trans (((cell_far (p := ⟨gb246, _, none⟩) NB243_246.out _).trans (((cell_far (p := ⟨gb246, _, none⟩) NB243_246.out _).trans (((cell_far (p := ⟨gb246, _, none⟩) NB243_246.out _).trans (((cell_far (p := ⟨gb246, _, none⟩) NB243_246.out _).trans (((cell_far (p := ⟨gb246, _, none⟩) NB243_246.out _).trans (((cell_far (p := ⟨gb246, _, none⟩) NB243_246.out _).trans (((cell_far (p := ⟨gb246, _, none⟩) NB243_246.out _).trans (((cell_far (p := ⟨gb246, _, none⟩) NB243_246.out _).trans (hHeld.2.1)))))))))))))))))))))), ((cell_far (p := ⟨gb246, _, none⟩) NB243_246.out _).trans (((cell_far (p := ⟨gb246, _, none⟩) NB243_246.out _).trans (((cell_far (p := ⟨gb246, _, none⟩) NB243_246.out _).trans (((cell_far (p := ⟨gb246, _, none⟩) NB243_246.out _).trans (((cell_far (p := ⟨gb246, _, none⟩) NB243_246.out _).trans (((cell_far (p := ⟨gb246, _, none⟩) NB243_246.out _).trans (((cell_far (p := ⟨gb246, _, none⟩) NB243_246.out _).trans (((cell_far (p := ⟨gb246, _, none⟩) NB243_246.out _).trans (((cell_far (p := ⟨gb246, _, none⟩) NB243_246.out _).trans (((cell_far (p := ⟨gb246, _, none⟩) NB243_246.out _).trans (((cell_far (p := ⟨gb246, _, none⟩) NB243_246.out _).trans (hHeld.2.2.1)))))))))))))))))))))), ((cell_far (p := ⟨gb246, _, none⟩) NB243_246.out _).trans (((cell_far (p := ⟨gb246, _, none⟩) NB243_246.out _).trans (((cell_far (p := ⟨gb246, _, none⟩) NB243_246.out _).trans (((cell_far (p := ⟨gb246, _, none⟩) NB243_246.out _).trans (((cell_far (p := ⟨gb246, _, none⟩) NB243_246.out _).trans (((cell_far (p := ⟨gb246, _, none⟩) NB243_246.out _).trans (((cell_far (p := ⟨gb246, _, none⟩) NB243_246.out _).trans (((cell_far (p := ⟨gb246, _, none⟩) NB243_246.out _).trans (((cell_far (p := ⟨gb246, _, none⟩) NB243_246.out _).trans (((cell_far (p := ⟨gb246, _, none⟩) NB243_246.out _).trans (((cell_far (p := ⟨gb246, _, none⟩) NB243_246.out _).trans (hHeld.2.2.2.1)))))))))))))))))))))), ((cell_far (p := ⟨gb246, _, none⟩) NB243_246.out _).trans (((cell_far (p := ⟨gb246, _, none⟩) NB243_246.out _).trans (((cell_far (p := ⟨gb246, _, none⟩) NB243_246.out _).trans (((cell_far (p := ⟨gb246, _, none⟩) NB243_246.out _).trans (((cell_far (p := ⟨gb246, _, none⟩) NB243_246.out _).trans (((cell_far (p := ⟨gb246, _, none⟩) NB243_246.out _).trans (((cell_far (p := ⟨gb246, _, none⟩) NB243_246.out _).trans (((cell_far (p := ⟨gb246, _, none⟩) NB243_246.out _).trans (((cell_far (p := ⟨gb246, _, none⟩) NB243_246.out _).trans (((cell_far (p := ⟨gb246, _, none⟩) NB243_246.out _).trans (((cell_far (p := ⟨gb246, _, none⟩) NB243_246.out _).trans (hHeld.2.2.2.2.1)))))))))))))))))))))), ((cell_far (p := ⟨gb246, _, none⟩) NB243_246.out _).trans (((cell_far (p := ⟨gb246, _, none⟩) NB243_246.out _).trans (((cell_far (p := ⟨gb246, _, none⟩) NB243_246.out _).trans (((cell_far (p := ⟨gb246, _, none⟩) NB243_246.out _).trans (((cell_far (p := ⟨gb246, _, none⟩) NB243_246.out _).trans (((cell_far (p := ⟨gb246, _, none⟩) NB243_246.out _).trans (((cell_far (p := ⟨gb246, _, none⟩) NB243_246.out _).trans (((cell_far (p := ⟨gb246, _, none⟩) NB243_246.out _).trans (((cell_far (p := ⟨gb246, _, none⟩) NB243_246.out _).trans (((cell_far (p := ⟨gb246, _, none⟩) NB243_246.out _).trans (((cell_far (p := ⟨gb246, _, none⟩) NB243_246.out _).trans (hHeld.2.2.2.2.2.1)))))))))))))))))))))), ((cell_far (p := ⟨gb246, _, none⟩) NB243_246.out _).trans (((cell_far (p := ⟨gb246, _, none⟩) NB243_246.out _).trans (((cell_far (p := ⟨gb246, _, none⟩) NB243_246.out _).trans (((cell_far (p := ⟨gb246, _, none⟩) NB243_246.out _).trans (((cell_far (p := ⟨gb246, _, none⟩) NB243_246.out _).trans (((cell_far (p := ⟨gb246, _, none⟩) NB243_246.out _).trans (((cell_far (p := ⟨gb246, _, none⟩) NB243_246.out _).trans (((cell_far (p := ⟨gb246, _, none⟩) NB243_246.out _).trans (((cell_far (p := ⟨gb246, _, none⟩) NB243_246.out _).trans (((cell_far (p := ⟨gb246, _, none⟩) NB243_246.out _).trans (((cell_far (p := ⟨gb246, _, none⟩) NB243_246.out _).trans (hHeld.2.2.2.2.2.2.1)))))))))))))))))))))), ((cell_far (p := ⟨gb246, _, none⟩) NB243_246.out _).trans (((cell_far (p := ⟨gb246, _, none⟩) NB243_246.out _).trans (((cell_far (p := ⟨gb246, _, none⟩) NB243_246.out _).trans (((cell_far (p := ⟨gb246, _, none⟩) NB243_246.out _).trans (((cell_far (p := ⟨gb246, _, none⟩) NB243_246.out _).trans (((cell_far (p := ⟨gb246, _, none⟩) NB243_246.out _).trans (((cell_far (p := ⟨gb246, _, none⟩) NB243_246.out _).trans (((cell_far (p := ⟨gb246, _, none⟩) NB243_246.out _).trans (((cell_far (p := ⟨gb246, _, none⟩) NB243_246.out _).trans (((cell_far (p := ⟨gb246, _, none⟩) NB243_246.out _).trans (((cell_far (p := ⟨gb246, _, none⟩) NB243_246.out _).trans (hHeld.2.2.2.2.2.2.2.1)))))))))))))))))))))), ((cell_far (p := ⟨gb246, _, none⟩) NB243_246.out _).trans (((cell_far (p := ⟨gb246, _, none⟩) NB243_246.out _).trans (((cell_far (p := ⟨gb246, _, none⟩) NB243_246.out _).trans (((cell_far (p := ⟨gb246, _, none⟩) NB243_246.out _).trans (((cell_far (p := ⟨gb246, _, none⟩) NB243_246.out _).trans (((cell_far (p := ⟨gb246, _, none⟩) NB243_246.out _).trans (((cell_far (p := ⟨gb246, _, none⟩) NB243_246.out _).trans (((cell_far (p := ⟨gb246, _, none⟩) NB243_246.out _).trans (((cell_far (p := ⟨gb246, _, none⟩) NB243_246.out _).trans (((cell_far (p := ⟨gb246, _, none⟩) NB243_246.out _).trans (((cell_far (p := ⟨gb246, _, none⟩) NB243_246.out _).trans (hHeld.2.2.2.2.2.2.2.2.1)))))))))))))))))))))), ((cell_far (p := ⟨gb246, _, none⟩) NB243_246.out _).trans (((cell_far (p := ⟨gb246, _, none⟩) NB243_246.out _).trans (((cell_far (p := ⟨gb246, _, none⟩) NB243_246.out _).trans (((cell_far (p := ⟨gb246, _, none⟩) NB243_246.out _).trans (((cell_far (p := ⟨gb246, _, none⟩) NB243_246.out _).trans (((cell_far (p := ⟨gb246, _, none⟩) NB243_246.out _).trans (((cell_far (p := ⟨gb246, _, none⟩) NB243_246.out _).trans (((cell_far (p := ⟨gb246, _, none⟩) NB243_246.out _).trans (((cell_far (p := ⟨gb246, _, none⟩) NB243_246.out _).trans (((cell_far (p := ⟨gb246, _, none⟩) NB243_246.out _).trans (((cell_far (p := ⟨gb246, _, none⟩) NB243_246.out _).trans (hHeld.2.2.2.2.2.2.2.2.2.1)))))))))))))))))))))), ((cell_far (p := ⟨gb246, _, none⟩) NB243_246.out _).trans (((cell_far (p := ⟨gb246, _, none⟩) NB243_246.out _).trans (((cell_far (p := ⟨gb246, _, none⟩) NB243_246.out _).trans (((cell_far (p := ⟨gb246, _, none⟩) NB243_246.out _).trans (((cell_far (p := ⟨gb246, _, none⟩) NB243_246.out _).trans (((cell_far (p := ⟨gb246, _, none⟩) NB243_246.out _).trans (((cell_far (p := ⟨gb246, _, none⟩) NB243_246.out _).trans (((cell_far (p := ⟨gb246, _, none⟩) NB243_246.out _).trans (((cell_far (p := ⟨gb246, _, none⟩) NB243_246.out _).trans (((cell_far (p := ⟨gb246, _, none⟩) NB243_246.out _).trans (((cell_far (p := ⟨gb246, _, none⟩) NB243_246.out _).trans (hHeld.2.2.2.2.2.2.2.2.2.2))))))))))))))))))))))⟩ (fun hHeld => ?_)
    clear hK K
    refine done_ (by kernel_rfl) ?_
    have hnb35 := NB243_245.out
    have hnc35 := NB245_243.out
    have hnb36 := NB243_246.out
    have hnc36 := NB246_243.out
    have hcz37_0 : w12.cell? ⟨gb243, 0, none⟩ = some (.int .i64 a0_0) := (blk_cell BK243.out 0).trans rfl
    have hcz37_1 : w12.cell? ⟨gb243, 1, none⟩ = some (.int .i64 a0_1) := (blk_cell BK243.out 1).trans rfl
    have hcz37_2 : w12.cell? ⟨gb243, 2, none⟩ = some (.int .i64 a0_2) := (blk_cell BK243.out 2).trans rfl
    have hcz37_3 : w12.cell? ⟨gb243, 3, none⟩ = some (.int .i64 a0_3) := (blk_cell BK243.out 3).trans rfl
    have hcz37_4 : w12.cell? ⟨gb243, 4, none⟩ = some (.int .i64 a0_4) := (blk_cell BK243.out 4).trans rfl
    have hcz37_5 : w12.cell? ⟨gb243, 5, none⟩ = some (.int .i64 a0_5) := (blk_cell BK243.out 5).trans rfl
    have hcz37_6 : w12.cell? ⟨gb243, 6, none⟩ = some (.int .i64 a0_6) := (blk_cell BK243.out 6).trans rfl
    have hcz37_7 : w12.cell? ⟨gb243, 7, none⟩ = some (.int .i64 a0_7) := (blk_cell BK243.out 7).trans rfl
    have hcz37_8 : w12.cell? ⟨gb243, 8, none⟩ = some (.int .i64 a0_8) := (blk_cell BK243.out 8).trans rfl
    have hcz37_9 : w12.cell? ⟨gb243, 9, none⟩ = some (.int .i64 a0_9) := (blk_cell BK243.out 9).trans rfl
    have hcz37_10 : w12.cell? ⟨gb243, 10, none⟩ = some (.int .i64 a0_10) := (blk_cell BK243.out 10).trans rfl
    have hfz37_0 := blk_frozen BK243.out 0
    have hfz37_1 := blk_frozen BK243.out 1
    have hfz37_2 := blk_frozen BK243.out 2
    have hfz37_3 := blk_frozen BK243.out 3
    have hfz37_4 := blk_frozen BK243.out 4
    have hfz37_5 := blk_frozen BK243.out 5
    have hfz37_6 := blk_frozen BK243.out 6
    have hfz37_7 := blk_frozen BK243.out 7
    have hfz37_8 := blk_frozen BK243.out 8
    have hfz37_9 := blk_frozen BK243.out 9
    have hfz37_10 := blk_frozen BK243.out 10
    go_upto_if 15 with (fail)
    go_cut [] (fun wc => ∃ (kq : Nat) (x246007_5 : Int) (x246010_5 : Int), Aside0 (hawalalaw14_SagaAny.j0 kq a1 a2 a0_0 a0_1 a0_2 a0_3 a0_4 a0_5 a0_6 a0_7 a0_8 a0_9 a0_10 a0_0 a0_1 a0_2 a0_3 a0_4 a0_5 a0_6 x246007_5 a0_8 a0_9 x246010_5 a0_0 a0_1 a0_2 a0_3 a0_4 a0_5 a0_6 a0_7 a0_8 a0_9 a0_10 = some r) ∧ Aside0 (kq ≤ k) ∧ Aside0 (wc.heap[gb243]? = some (.cells #[.int .i64 a0_0, .int .i64 a0_1, .int .i64 a0_2, .int .i64 a0_3, .int .i64 a0_4, .int .i64 a0_5, .int .i64 a0_6, .int .i64 a0_7, .int .i64 a0_8, .int .i64 a0_9, .int .i64 a0_10] 30 (0, 0))) ∧ Aside0 (wc.heap[gb245]? = some (.cells #[.int .i64 a0_0, .int .i64 a0_1, .int .i64 a0_2, .int .i64 a0_3, .int .i64 a0_4, .int .i64 a0_5, .int .i64 a0_6, .int .i64 x246007_5, .int .i64 a0_8, .int .i64 a0_9, .int .i64 x246010_5] 30 (0, 0))) ∧ Aside0 (wc.heap[gb246]? = some (.cells #[.int .i64 a0_0, .int .i64 a0_1, .int .i64 a0_2, .int .i64 a0_3, .int .i64 a0_4, .int .i64 a0_5, .int .i64 a0_6, .int .i64 a0_7, .int .i64 a0_8, .int .i64 a0_9, .int .i64 a0_10] 30 (0, 0))) ∧ Aside0 (Below w.heap.size w wc))
    case first =>
      have H := HC6.out
      clear HC6
      by_cases c38 : a0_7 = 0
      · rw [if_pos c38] at H
        have c38b0 : (a0_7 == 0) = true := beq_iff_eq.mpr c38
        have c38b1 : (a0_7 != 0) = false := bne_eq_false_iff_eq.mpr c38
        clear c38
        (first | rw [c38b0] | (simp only [i64_w, i32_w]; rw [c38b0]) | skip)
        have H' := Aside0.mk H
        clear H
        have hnb39 := NB245_243.out
        have hnc39 := NB243_245.out
        have hnb40 := NB245_246.out
        have hnc40 := NB246_245.out
        have hcz41_0 : w12.cell? ⟨gb245, 0, none⟩ = some (.int .i64 0) := (blk_cell BK245.out 0).trans rfl
        have hcz41_1 : w12.cell? ⟨gb245, 1, none⟩ = some (.int .i64 0) := (blk_cell BK245.out 1).trans rfl
        have hcz41_2 : w12.cell? ⟨gb245, 2, none⟩ = some (.int .i64 0) := (blk_cell BK245.out 2).trans rfl
        have hcz41_3 : w12.cell? ⟨gb245, 3, none⟩ = some (.int .i64 0) := (blk_cell BK245.out 3).trans rfl
        have hcz41_4 : w12.cell? ⟨gb245, 4, none⟩ = some (.int .i64 0) := (blk_cell BK245.out 4).trans rfl
        have hcz41_5 : w12.cell? ⟨gb245, 5, none⟩ = some (.int .i64 0) := (blk_cell BK245.out 5).trans rfl
        have hcz41_6 : w12.cell? ⟨gb245, 6, none⟩ = some (.int .i64 0) := (blk_cell BK245.out 6).trans rfl
        have hcz41_7 : w12.cell? ⟨gb245, 7, none⟩ = some (.int .i64 0) := (blk_cell BK245.out 7).trans rfl
        have hcz41_8 : w12.cell? ⟨gb245, 8, none⟩ = some (.int .i64 0) := (blk_cell BK245.out 8).trans rfl
        have hcz41_9 : w12.cell? ⟨gb245, 9, none⟩ = some (.int .i64 0) := (blk_cell BK245.out 9).trans rfl
        have hcz41_10 : w12.cell? ⟨gb245, 10, none⟩ = some (.int .i64 0) := (blk_cell BK245.out 10).trans rfl
        have hfz41_0 := blk_frozen BK245.out 0
        have hfz41_1 := blk_frozen BK245.out 1
        have hfz41_2 := blk_frozen BK245.out 2
        have hfz41_3 := blk_frozen BK245.out 3
        have hfz41_4 := blk_frozen BK245.out 4
        have hfz41_5 := blk_frozen BK245.out 5
        have hfz41_6 := blk_frozen BK245.out 6
        have hfz41_7 := blk_frozen BK245.out 7
        have hfz41_8 := blk_frozen BK245.out 8
        have hfz41_9 := blk_frozen BK245.out 9
        have hfz41_10 := blk_frozen BK245.out 10
        go_wp2
        go_meet
        case rel => exact ⟨_, (1), (wrap64 (a2)), H', ⟨by first | omega | exact Nat.le_refl _⟩, ⟨by (with_reducible repeat (first | refine blk_drewN ?_ _ | refine blk_drew ?_ | refine blk_alloc ?_ _)); refine blk_far ?_ NB243_245.out _; (with_reducible repeat (first | refine blk_drewN ?_ _ | refine blk_drew ?_ | refine blk_alloc ?_ _)); refine blk_far ?_ NB243_245.out _; (with_reducible repeat (first | refine blk_drewN ?_ _ | refine blk_drew ?_ | refine blk_alloc ?_ _)); refine blk_far ?_ NB243_246.out _; (with_reducible repeat (first | refine blk_drewN ?_ _ | refine blk_drew ?_ | refine blk_alloc ?_ _)); refine blk_far ?_ NB243_246.out _; (with_reducible repeat (first | refine blk_drewN ?_ _ | refine blk_drew ?_ | refine blk_alloc ?_ _)); refine blk_far ?_ NB243_246.out _; (with_reducible repeat (first | refine blk_drewN ?_ _ | refine blk_drew ?_ | refine blk_alloc ?_ _)); refine blk_far ?_ NB243_246.out _; (with_reducible repeat (first | refine blk_drewN ?_ _ | refine blk_drew ?_ | refine blk_alloc ?_ _)); refine blk_far ?_ NB243_246.out _; (with_reducible repeat (first | refine blk_drewN ?_ _ | refine blk_drew ?_ | refine blk_alloc ?_ _)); refine blk_far ?_ NB243_246.out _; (with_reducible repeat (first | refine blk_drewN ?_ _ | refine blk_drew ?_ | refine blk_alloc ?_ _)); refine blk_far ?_ NB243_246.out _; (with_reducible repeat (first | refine blk_drewN ?_ _ | refine blk_drew ?_ | refine blk_alloc ?_ _)); refine blk_far ?_ NB243_246.out _; (with_reducible repeat (first | refine blk_drewN ?_ _ | refine blk_drew ?_ | refine blk_alloc ?_ _)); refine blk_far ?_ NB243_246.out _; (with_reducible repeat (first | refine blk_drewN ?_ _ | refine blk_drew ?_ | refine blk_alloc ?_ _)); refine blk_far ?_ NB243_246.out _; (with_reducible repeat (first | refine blk_drewN ?_ _ | refine blk_drew ?_ | refine blk_alloc ?_ _)); refine blk_far ?_ NB243_246.out _; (with_reducible repeat (first | refine blk_drewN ?_ _ | refine blk_drew ?_ | refine blk_alloc ?_ _)); refine blk_far ?_ NB243_245.out _; (with_reducible repeat (first | refine blk_drewN ?_ _ | refine blk_drew ?_ | refine blk_alloc ?_ _)); refine blk_far ?_ NB243_245.out _; (with_reducible repeat (first | refine blk_drewN ?_ _ | refine blk_drew ?_ | refine blk_alloc ?_ _)); refine blk_far ?_ NB243_245.out _; (with_reducible repeat (first | refine blk_drewN ?_ _ | refine blk_drew ?_ | refine blk_alloc ?_ _)); refine blk_far ?_ NB243_245.out _; (with_reducible repeat (first | refine blk_drewN ?_ _ | refine blk_drew ?_ | refine blk_alloc ?_ _)); refine blk_far ?_ NB243_245.out _; (with_reducible repeat (first | refine blk_drewN ?_ _ | refine blk_drew ?_ | refine blk_alloc ?_ _)); refine blk_far ?_ NB243_245.out _; (with_reducible repeat (first | refine blk_drewN ?_ _ | refine blk_drew ?_ | refine blk_alloc ?_ _)); refine blk_far ?_ NB243_245.out _; (with_reducible repeat (first | refine blk_drewN ?_ _ | refine blk_drew ?_ | refine blk_alloc ?_ _)); refine blk_far ?_ NB243_245.out _; (with_reducible repeat (first | refine blk_drewN ?_ _ | refine blk_drew ?_ | refine blk_alloc ?_ _)); refine blk_far ?_ NB243_245.out _; (with_reducible repeat (first | refine blk_drewN ?_ _ | refine blk_drew ?_ | refine blk_alloc ?_ _)); refine blk_far ?_ NB243_245.out _; (with_reducible repeat (first | refine blk_drewN ?_ _ | refine blk_drew ?_ | refine blk_alloc ?_ _)); refine blk_far ?_ NB243_245.out _; (with_reducible repeat (first | refine blk_drewN ?_ _ | refine blk_drew ?_ | refine blk_alloc ?_ _)); exact BK243.out⟩, ⟨by (with_reducible repeat (first | refine blk_drewN ?_ _ | refine blk_drew ?_ | refine blk_alloc ?_ _)); refine blk_put (cs := #[.int .i64 a0_0, .int .i64 a0_1, .int .i64 a0_2, .int .i64 a0_3, .int .i64 a0_4, .int .i64 a0_5, .int .i64 a0_6, .int .i64 1, .int .i64 a0_8, .int .i64 a0_9, .int .i64 a0_10]) ?_ 10 _ rfl; (with_reducible repeat (first | refine blk_drewN ?_ _ | refine blk_drew ?_ | refine blk_alloc ?_ _)); refine blk_put (cs := #[.int .i64 a0_0, .int .i64 a0_1, .int .i64 a0_2, .int .i64 a0_3, .int .i64 a0_4, .int .i64 a0_5, .int .i64 a0_6, .int .i64 a0_7, .int .i64 a0_8, .int .i64 a0_9, .int .i64 a0_10]) ?_ 7 _ rfl; (with_reducible repeat (first | refine blk_drewN ?_ _ | refine blk_drew ?_ | refine blk_alloc ?_ _)); refine blk_far ?_ NB245_246.out _; (with_reducible repeat (first | refine blk_drewN ?_ _ | refine blk_drew ?_ | refine blk_alloc ?_ _)); refine blk_far ?_ NB245_246.out _; (with_reducible repeat (first | refine blk_drewN ?_ _ | refine blk_drew ?_ | refine blk_alloc ?_ _)); refine blk_far ?_ NB245_246.out _; (with_reducible repeat (first | refine blk_drewN ?_ _ | refine blk_drew ?_ | refine blk_alloc ?_ _)); refine blk_far ?_ NB245_246.out _; (with_reducible repeat (first | refine blk_drewN ?_ _ | refine blk_drew ?_ | refine blk_alloc ?_ _)); refine blk_far ?_ NB245_246.out _; (with_reducible repeat (first | refine blk_drewN ?_ _ | refine blk_drew ?_ | refine blk_alloc ?_ _)); refine blk_far ?_ NB245_246.out _; (with_reducible repeat (first | refine blk_drewN ?_ _ | refine blk_drew ?_ | refine blk_alloc ?_ _)); refine blk_far ?_ NB245_246.out _; (with_reducible repeat (first | refine blk_drewN ?_ _ | refine blk_drew ?_ | refine blk_alloc ?_ _)); refine blk_far ?_ NB245_246.out _; (with_reducible repeat (first | refine blk_drewN ?_ _ | refine blk_drew ?_ | refine blk_alloc ?_ _)); refine blk_far ?_ NB245_246.out _; (with_reducible repeat (first | refine blk_drewN ?_ _ | refine blk_drew ?_ | refine blk_alloc ?_ _)); refine blk_far ?_ NB245_246.out _; (with_reducible repeat (first | refine blk_drewN ?_ _ | refine blk_drew ?_ | refine blk_alloc ?_ _)); refine blk_far ?_ NB245_246.out _; (with_reducible repeat (first | refine blk_drewN ?_ _ | refine blk_drew ?_ | refine blk_alloc ?_ _)); refine blk_put (cs := #[.int .i64 a0_0, .int .i64 a0_1, .int .i64 a0_2, .int .i64 a0_3, .int .i64 a0_4, .int .i64 a0_5, .int .i64 a0_6, .int .i64 a0_7, .int .i64 a0_8, .int .i64 a0_9, .int .i64 0]) ?_ 10 _ rfl; (with_reducible repeat (first | refine blk_drewN ?_ _ | refine blk_drew ?_ | refine blk_alloc ?_ _)); refine blk_put (cs := #[.int .i64 a0_0, .int .i64 a0_1, .int .i64 a0_2, .int .i64 a0_3, .int .i64 a0_4, .int .i64 a0_5, .int .i64 a0_6, .int .i64 a0_7, .int .i64 a0_8, .int .i64 0, .int .i64 0]) ?_ 9 _ rfl; (with_reducible repeat (first | refine blk_drewN ?_ _ | refine blk_drew ?_ | refine blk_alloc ?_ _)); refine blk_put (cs := #[.int .i64 a0_0, .int .i64 a0_1, .int .i64 a0_2, .int .i64 a0_3, .int .i64 a0_4, .int .i64 a0_5, .int .i64 a0_6, .int .i64 a0_7, .int .i64 0, .int .i64 0, .int .i64 0]) ?_ 8 _ rfl; (with_reducible repeat (first | refine blk_drewN ?_ _ | refine blk_drew ?_ | refine blk_alloc ?_ _)); refine blk_put (cs := #[.int .i64 a0_0, .int .i64 a0_1, .int .i64 a0_2, .int .i64 a0_3, .int .i64 a0_4, .int .i64 a0_5, .int .i64 a0_6, .int .i64 0, .int .i64 0, .int .i64 0, .int .i64 0]) ?_ 7 _ rfl; (with_reducible repeat (first | refine blk_drewN ?_ _ | refine blk_drew ?_ | refine blk_alloc ?_ _)); refine blk_put (cs := #[.int .i64 a0_0, .int .i64 a0_1, .int .i64 a0_2, .int .i64 a0_3, .int .i64 a0_4, .int .i64 a0_5, .int .i64 0, .int .i64 0, .int .i64 0, .int .i64 0, .int .i64 0]) ?_ 6 _ rfl; (with_reducible repeat (first | refine blk_drewN ?_ _ | refine blk_drew ?_ | refine blk_alloc ?_ _)); refine blk_put (cs := #[.int .i64 a0_0, .int .i64 a0_1, .int .i64 a0_2, .int .i64 a0_3, .int .i64 a0_4, .int .i64 0, .int .i64 0, .int .i64 0, .int .i64 0, .int .i64 0, .int .i64 0]) ?_ 5 _ rfl; (with_reducible repeat (first | refine blk_drewN ?_ _ | refine blk_drew ?_ | refine blk_alloc ?_ _)); refine blk_put (cs := #[.int .i64 a0_0, .int .i64 a0_1, .int .i64 a0_2, .int .i64 a0_3, .int .i64 0, .int .i64 0, .int .i64 0, .int .i64 0, .int .i64 0, .int .i64 0, .int .i64 0]) ?_ 4 _ rfl; (with_reducible repeat (first | refine blk_drewN ?_ _ | refine blk_drew ?_ | refine blk_alloc ?_ _)); refine blk_put (cs := #[.int .i64 a0_0, .int .i64 a0_1, .int .i64 a0_2, .int .i64 0, .int .i64 0, .int .i64 0, .int .i64 0, .int .i64 0, .int .i64 0, .int .i64 0, .int .i64 0]) ?_ 3 _ rfl; (with_reducible repeat (first | refine blk_drewN ?_ _ | refine blk_drew ?_ | refine blk_alloc ?_ _)); refine blk_put (cs := #[.int .i64 a0_0, .int .i64 a0_1, .int .i64 0, .int .i64 0, .int .i64 0, .int .i64 0, .int .i64 0, .int .i64 0, .int .i64 0, .int .i64 0, .int .i64 0]) ?_ 2 _ rfl; (with_reducible repeat (first | refine blk_drewN ?_ _ | refine blk_drew ?_ | refine blk_alloc ?_ _)); refine blk_put (cs := #[.int .i64 a0_0, .int .i64 0, .int .i64 0, .int .i64 0, .int .i64 0, .int .i64 0, .int .i64 0, .int .i64 0, .int .i64 0, .int .i64 0, .int .i64 0]) ?_ 1 _ rfl; (with_reducible repeat (first | refine blk_drewN ?_ _ | refine blk_drew ?_ | refine blk_alloc ?_ _)); refine blk_put (cs := #[.int .i64 0, .int .i64 0, .int .i64 0, .int .i64 0, .int .i64 0, .int .i64 0, .int .i64 0, .int .i64 0, .int .i64 0, .int .i64 0, .int .i64 0]) ?_ 0 _ rfl; (with_reducible repeat (first | refine blk_drewN ?_ _ | refine blk_drew ?_ | refine blk_alloc ?_ _)); exact BK245.out⟩, ⟨by (with_reducible repeat (first | refine blk_drewN ?_ _ | refine blk_drew ?_ | refine blk_alloc ?_ _)); refine blk_far ?_ NB246_245.out _; (with_reducible repeat (first | refine blk_drewN ?_ _ | refine blk_drew ?_ | refine blk_alloc ?_ _)); refine blk_far ?_ NB246_245.out _; (with_reducible repeat (first | refine blk_drewN ?_ _ | refine blk_drew ?_ | refine blk_alloc ?_ _)); refine blk_put (cs := #[.int .i64 a0_0, .int .i64 a0_1, .int .i64 a0_2, .int .i64 a0_3, .int .i64 a0_4, .int .i64 a0_5, .int .i64 a0_6, .int .i64 a0_7, .int .i64 a0_8, .int .i64 a0_9, .int .i64 0]) ?_ 10 _ rfl; (with_reducible repeat (first | refine blk_drewN ?_ _ | refine blk_drew ?_ | refine blk_alloc ?_ _)); refine blk_put (cs := #[.int .i64 a0_0, .int .i64 a0_1, .int .i64 a0_2, .int .i64 a0_3, .int .i64 a0_4, .int .i64 a0_5, .int .i64 a0_6, .int .i64 a0_7, .int .i64 a0_8, .int .i64 0, .int .i64 0]) ?_ 9 _ rfl; (with_reducible repeat (first | refine blk_drewN ?_ _ | refine blk_drew ?_ | refine blk_alloc ?_ _)); refine blk_put (cs := #[.int .i64 a0_0, .int .i64 a0_1, .int .i64 a0_2, .int .i64 a0_3, .int .i64 a0_4, .int .i64 a0_5, .int .i64 a0_6, .int .i64 a0_7, .int .i64 0, .int .i64 0, .int .i64 0]) ?_ 8 _ rfl; (with_reducible repeat (first | refine blk_drewN ?_ _ | refine blk_drew ?_ | refine blk_alloc ?_ _)); refine blk_put (cs := #[.int .i64 a0_0, .int .i64 a0_1, .int .i64 a0_2, .int .i64 a0_3, .int .i64 a0_4, .int .i64 a0_5, .int .i64 a0_6, .int .i64 0, .int .i64 0, .int .i64 0, .int .i64 0]) ?_ 7 _ rfl; (with_reducible repeat (first | refine blk_drewN ?_ _ | refine blk_drew ?_ | refine blk_alloc ?_ _)); refine blk_put (cs := #[.int .i64 a0_0, .int .i64 a0_1, .int .i64 a0_2, .int .i64 a0_3, .int .i64 a0_4, .int .i64 a0_5, .int .i64 0, .int .i64 0, .int .i64 0, .int .i64 0, .int .i64 0]) ?_ 6 _ rfl; (with_reducible repeat (first | refine blk_drewN ?_ _ | refine blk_drew ?_ | refine blk_alloc ?_ _)); refine blk_put (cs := #[.int .i64 a0_0, .int .i64 a0_1, .int .i64 a0_2, .int .i64 a0_3, .int .i64 a0_4, .int .i64 0, .int .i64 0, .int .i64 0, .int .i64 0, .int .i64 0, .int .i64 0]) ?_ 5 _ rfl; (with_reducible repeat (first | refine blk_drewN ?_ _ | refine blk_drew ?_ | refine blk_alloc ?_ _)); refine blk_put (cs := #[.int .i64 a0_0, .int .i64 a0_1, .int .i64 a0_2, .int .i64 a0_3, .int .i64 0, .int .i64 0, .int .i64 0, .int .i64 0, .int .i64 0, .int .i64 0, .int .i64 0]) ?_ 4 _ rfl; (with_reducible repeat (first | refine blk_drewN ?_ _ | refine blk_drew ?_ | refine blk_alloc ?_ _)); refine blk_put (cs := #[.int .i64 a0_0, .int .i64 a0_1, .int .i64 a0_2, .int .i64 0, .int .i64 0, .int .i64 0, .int .i64 0, .int .i64 0, .int .i64 0, .int .i64 0, .int .i64 0]) ?_ 3 _ rfl; (with_reducible repeat (first | refine blk_drewN ?_ _ | refine blk_drew ?_ | refine blk_alloc ?_ _)); refine blk_put (cs := #[.int .i64 a0_0, .int .i64 a0_1, .int .i64 0, .int .i64 0, .int .i64 0, .int .i64 0, .int .i64 0, .int .i64 0, .int .i64 0, .int .i64 0, .int .i64 0]) ?_ 2 _ rfl; (with_reducible repeat (first | refine blk_drewN ?_ _ | refine blk_drew ?_ | refine blk_alloc ?_ _)); refine blk_put (cs := #[.int .i64 a0_0, .int .i64 0, .int .i64 0, .int .i64 0, .int .i64 0, .int .i64 0, .int .i64 0, .int .i64 0, .int .i64 0, .int .i64 0, .int .i64 0]) ?_ 1 _ rfl; (with_reducible repeat (first | refine blk_drewN ?_ _ | refine blk_drew ?_ | refine blk_alloc ?_ _)); refine blk_put (cs := #[.int .i64 0, .int .i64 0, .int .i64 0, .int .i64 0, .int .i64 0, .int .i64 0, .int .i64 0, .int .i64 0, .int .i64 0, .int .i64 0, .int .i64 0]) ?_ 0 _ rfl; (with_reducible repeat (first | refine blk_drewN ?_ _ | refine blk_drew ?_ | refine blk_alloc ?_ _)); refine blk_far ?_ NB246_245.out _; (with_reducible repeat (first | refine blk_drewN ?_ _ | refine blk_drew ?_ | refine blk_alloc ?_ _)); refine blk_far ?_ NB246_245.out _; (with_reducible repeat (first | refine blk_drewN ?_ _ | refine blk_drew ?_ | refine blk_alloc ?_ _)); refine blk_far ?_ NB246_245.out _; (with_reducible repeat (first | refine blk_drewN ?_ _ | refine blk_drew ?_ | refine blk_alloc ?_ _)); refine blk_far ?_ NB246_245.out _; (with_reducible repeat (first | refine blk_drewN ?_ _ | refine blk_drew ?_ | refine blk_alloc ?_ _)); refine blk_far ?_ NB246_245.out _; (with_reducible repeat (first | refine blk_drewN ?_ _ | refine blk_drew ?_ | refine blk_alloc ?_ _)); refine blk_far ?_ NB246_245.out _; (with_reducible repeat (first | refine blk_drewN ?_ _ | refine blk_drew ?_ | refine blk_alloc ?_ _)); refine blk_far ?_ NB246_245.out _; (with_reducible repeat (first | refine blk_drewN ?_ _ | refine blk_drew ?_ | refine blk_alloc ?_ _)); refine blk_far ?_ NB246_245.out _; (with_reducible repeat (first | refine blk_drewN ?_ _ | refine blk_drew ?_ | refine blk_alloc ?_ _)); refine blk_far ?_ NB246_245.out _; (with_reducible repeat (first | refine blk_drewN ?_ _ | refine blk_drew ?_ | refine blk_alloc ?_ _)); refine blk_far ?_ NB246_245.out _; (with_reducible repeat (first | refine blk_drewN ?_ _ | refine blk_drew ?_ | refine blk_alloc ?_ _)); refine blk_far ?_ NB246_245.out _; (with_reducible repeat (first | refine blk_drewN ?_ _ | refine blk_drew ?_ | refine blk_alloc ?_ _)); exact BK246.out⟩, ⟨by repeat (first | (with_reducible first | exact HB.out | apply below_alloc | apply pw_below_drewN | apply below_drew1 | refine below_set ?_ GE243.out | refine below_set ?_ GE245.out | refine below_set ?_ GE246.out) | exact HB.out)⟩⟩
      · rw [if_neg c38] at H
        have c38b0 : (a0_7 == 0) = false := beq_eq_false_iff_ne.mpr c38
        have c38b1 : (a0_7 != 0) = true := bne_iff_ne.mpr c38
        (first | rw [c38b0] | (simp only [i64_w, i32_w]; rw [c38b0]) | skip)
        have H' := Aside0.mk H
        clear H
        go_wp2
        go_meet
        case rel => exact ⟨_, (a0_7), (a0_10), H', ⟨by first | omega | exact Nat.le_refl _⟩, ⟨by (with_reducible repeat (first | refine blk_drewN ?_ _ | refine blk_drew ?_ | refine blk_alloc ?_ _)); refine blk_far ?_ NB243_246.out _; (with_reducible repeat (first | refine blk_drewN ?_ _ | refine blk_drew ?_ | refine blk_alloc ?_ _)); refine blk_far ?_ NB243_246.out _; (with_reducible repeat (first | refine blk_drewN ?_ _ | refine blk_drew ?_ | refine blk_alloc ?_ _)); refine blk_far ?_ NB243_246.out _; (with_reducible repeat (first | refine blk_drewN ?_ _ | refine blk_drew ?_ | refine blk_alloc ?_ _)); refine blk_far ?_ NB243_246.out _; (with_reducible repeat (first | refine blk_drewN ?_ _ | refine blk_drew ?_ | refine blk_alloc ?_ _)); refine blk_far ?_ NB243_246.out _; (with_reducible repeat (first | refine blk_drewN ?_ _ | refine blk_drew ?_ | refine blk_alloc ?_ _)); refine blk_far ?_ NB243_246.out _; (with_reducible repeat (first | refine blk_drewN ?_ _ | refine blk_drew ?_ | refine blk_alloc ?_ _)); refine blk_far ?_ NB243_246.out _; (with_reducible repeat (first | refine blk_drewN ?_ _ | refine blk_drew ?_ | refine blk_alloc ?_ _)); refine blk_far ?_ NB243_246.out _; (with_reducible repeat (first | refine blk_drewN ?_ _ | refine blk_drew ?_ | refine blk_alloc ?_ _)); refine blk_far ?_ NB243_246.out _; (with_reducible repeat (first | refine blk_drewN ?_ _ | refine blk_drew ?_ | refine blk_alloc ?_ _)); refine blk_far ?_ NB243_246.out _; (with_reducible repeat (first | refine blk_drewN ?_ _ | refine blk_drew ?_ | refine blk_alloc ?_ _)); refine blk_far ?_ NB243_246.out _; (with_reducible repeat (first | refine blk_drewN ?_ _ | refine blk_drew ?_ | refine blk_alloc ?_ _)); refine blk_far ?_ NB243_245.out _; (with_reducible repeat (first | refine blk_drewN ?_ _ | refine blk_drew ?_ | refine blk_alloc ?_ _)); refine blk_far ?_ NB243_245.out _; (with_reducible repeat (first | refine blk_drewN ?_ _ | refine blk_drew ?_ | refine blk_alloc ?_ _)); refine blk_far ?_ NB243_245.out _; (with_reducible repeat (first | refine blk_drewN ?_ _ | refine blk_drew ?_ | refine blk_alloc ?_ _)); refine blk_far ?_ NB243_245.out _; (with_reducible repeat (first | refine blk_drewN ?_ _ | refine blk_drew ?_ | refine blk_alloc ?_ _)); refine blk_far ?_ NB243_245.out _; (with_reducible repeat (first | refine blk_drewN ?_ _ | refine blk_drew ?_ | refine blk_alloc ?_ _)); refine blk_far ?_ NB243_245.out _; (with_reducible repeat (first | refine blk_drewN ?_ _ | refine blk_drew ?_ | refine blk_alloc ?_ _)); refine blk_far ?_ NB243_245.out _; (with_reducible repeat (first | refine blk_drewN ?_ _ | refine blk_drew ?_ | refine blk_alloc ?_ _)); refine blk_far ?_ NB243_245.out _; (with_reducible repeat (first | refine blk_drewN ?_ _ | refine blk_drew ?_ | refine blk_alloc ?_ _)); refine blk_far ?_ NB243_245.out _; (with_reducible repeat (first | refine blk_drewN ?_ _ | refine blk_drew ?_ | refine blk_alloc ?_ _)); refine blk_far ?_ NB243_245.out _; (with_reducible repeat (first | refine blk_drewN ?_ _ | refine blk_drew ?_ | refine blk_alloc ?_ _)); refine blk_far ?_ NB243_245.out _; (with_reducible repeat (first | refine blk_drewN ?_ _ | refine blk_drew ?_ | refine blk_alloc ?_ _)); exact BK243.out⟩, ⟨by (with_reducible repeat (first | refine blk_drewN ?_ _ | refine blk_drew ?_ | refine blk_alloc ?_ _)); refine blk_far ?_ NB245_246.out _; (with_reducible repeat (first | refine blk_drewN ?_ _ | refine blk_drew ?_ | refine blk_alloc ?_ _)); refine blk_far ?_ NB245_246.out _; (with_reducible repeat (first | refine blk_drewN ?_ _ | refine blk_drew ?_ | refine blk_alloc ?_ _)); refine blk_far ?_ NB245_246.out _; (with_reducible repeat (first | refine blk_drewN ?_ _ | refine blk_drew ?_ | refine blk_alloc ?_ _)); refine blk_far ?_ NB245_246.out _; (with_reducible repeat (first | refine blk_drewN ?_ _ | refine blk_drew ?_ | refine blk_alloc ?_ _)); refine blk_far ?_ NB245_246.out _; (with_reducible repeat (first | refine blk_drewN ?_ _ | refine blk_drew ?_ | refine blk_alloc ?_ _)); refine blk_far ?_ NB245_246.out _; (with_reducible repeat (first | refine blk_drewN ?_ _ | refine blk_drew ?_ | refine blk_alloc ?_ _)); refine blk_far ?_ NB245_246.out _; (with_reducible repeat (first | refine blk_drewN ?_ _ | refine blk_drew ?_ | refine blk_alloc ?_ _)); refine blk_far ?_ NB245_246.out _; (with_reducible repeat (first | refine blk_drewN ?_ _ | refine blk_drew ?_ | refine blk_alloc ?_ _)); refine blk_far ?_ NB245_246.out _; (with_reducible repeat (first | refine blk_drewN ?_ _ | refine blk_drew ?_ | refine blk_alloc ?_ _)); refine blk_far ?_ NB245_246.out _; (with_reducible repeat (first | refine blk_drewN ?_ _ | refine blk_drew ?_ | refine blk_alloc ?_ _)); refine blk_far ?_ NB245_246.out _; (with_reducible repeat (first | refine blk_drewN ?_ _ | refine blk_drew ?_ | refine blk_alloc ?_ _)); refine blk_put (cs := #[.int .i64 a0_0, .int .i64 a0_1, .int .i64 a0_2, .int .i64 a0_3, .int .i64 a0_4, .int .i64 a0_5, .int .i64 a0_6, .int .i64 a0_7, .int .i64 a0_8, .int .i64 a0_9, .int .i64 0]) ?_ 10 _ rfl; (with_reducible repeat (first | refine blk_drewN ?_ _ | refine blk_drew ?_ | refine blk_alloc ?_ _)); refine blk_put (cs := #[.int .i64 a0_0, .int .i64 a0_1, .int .i64 a0_2, .int .i64 a0_3, .int .i64 a0_4, .int .i64 a0_5, .int .i64 a0_6, .int .i64 a0_7, .int .i64 a0_8, .int .i64 0, .int .i64 0]) ?_ 9 _ rfl; (with_reducible repeat (first | refine blk_drewN ?_ _ | refine blk_drew ?_ | refine blk_alloc ?_ _)); refine blk_put (cs := #[.int .i64 a0_0, .int .i64 a0_1, .int .i64 a0_2, .int .i64 a0_3, .int .i64 a0_4, .int .i64 a0_5, .int .i64 a0_6, .int .i64 a0_7, .int .i64 0, .int .i64 0, .int .i64 0]) ?_ 8 _ rfl; (with_reducible repeat (first | refine blk_drewN ?_ _ | refine blk_drew ?_ | refine blk_alloc ?_ _)); refine blk_put (cs := #[.int .i64 a0_0, .int .i64 a0_1, .int .i64 a0_2, .int .i64 a0_3, .int .i64 a0_4, .int .i64 a0_5, .int .i64 a0_6, .int .i64 0, .int .i64 0, .int .i64 0, .int .i64 0]) ?_ 7 _ rfl; (with_reducible repeat (first | refine blk_drewN ?_ _ | refine blk_drew ?_ | refine blk_alloc ?_ _)); refine blk_put (cs := #[.int .i64 a0_0, .int .i64 a0_1, .int .i64 a0_2, .int .i64 a0_3, .int .i64 a0_4, .int .i64 a0_5, .int .i64 0, .int .i64 0, .int .i64 0, .int .i64 0, .int .i64 0]) ?_ 6 _ rfl; (with_reducible repeat (first | refine blk_drewN ?_ _ | refine blk_drew ?_ | refine blk_alloc ?_ _)); refine blk_put (cs := #[.int .i64 a0_0, .int .i64 a0_1, .int .i64 a0_2, .int .i64 a0_3, .int .i64 a0_4, .int .i64 0, .int .i64 0, .int .i64 0, .int .i64 0, .int .i64 0, .int .i64 0]) ?_ 5 _ rfl; (with_reducible repeat (first | refine blk_drewN ?_ _ | refine blk_drew ?_ | refine blk_alloc ?_ _)); refine blk_put (cs := #[.int .i64 a0_0, .int .i64 a0_1, .int .i64 a0_2, .int .i64 a0_3, .int .i64 0, .int .i64 0, .int .i64 0, .int .i64 0, .int .i64 0, .int .i64 0, .int .i64 0]) ?_ 4 _ rfl; (with_reducible repeat (first | refine blk_drewN ?_ _ | refine blk_drew ?_ | refine blk_alloc ?_ _)); refine blk_put (cs := #[.int .i64 a0_0, .int .i64 a0_1, .int .i64 a0_2, .int .i64 0, .int .i64 0, .int .i64 0, .int .i64 0, .int .i64 0, .int .i64 0, .int .i64 0, .int .i64 0]) ?_ 3 _ rfl; (with_reducible repeat (first | refine blk_drewN ?_ _ | refine blk_drew ?_ | refine blk_alloc ?_ _)); refine blk_put (cs := #[.int .i64 a0_0, .int .i64 a0_1, .int .i64 0, .int .i64 0, .int .i64 0, .int .i64 0, .int .i64 0, .int .i64 0, .int .i64 0, .int .i64 0, .int .i64 0]) ?_ 2 _ rfl; (with_reducible repeat (first | refine blk_drewN ?_ _ | refine blk_drew ?_ | refine blk_alloc ?_ _)); refine blk_put (cs := #[.int .i64 a0_0, .int .i64 0, .int .i64 0, .int .i64 0, .int .i64 0, .int .i64 0, .int .i64 0, .int .i64 0, .int .i64 0, .int .i64 0, .int .i64 0]) ?_ 1 _ rfl; (with_reducible repeat (first | refine blk_drewN ?_ _ | refine blk_drew ?_ | refine blk_alloc ?_ _)); refine blk_put (cs := #[.int .i64 0, .int .i64 0, .int .i64 0, .int .i64 0, .int .i64 0, .int .i64 0, .int .i64 0, .int .i64 0, .int .i64 0, .int .i64 0, .int .i64 0]) ?_ 0 _ rfl; (with_reducible repeat (first | refine blk_drewN ?_ _ | refine blk_drew ?_ | refine blk_alloc ?_ _)); exact BK245.out⟩, ⟨by (with_reducible repeat (first | refine blk_drewN ?_ _ | refine blk_drew ?_ | refine blk_alloc ?_ _)); refine blk_put (cs := #[.int .i64 a0_0, .int .i64 a0_1, .int .i64 a0_2, .int .i64 a0_3, .int .i64 a0_4, .int .i64 a0_5, .int .i64 a0_6, .int .i64 a0_7, .int .i64 a0_8, .int .i64 a0_9, .int .i64 0]) ?_ 10 _ rfl; (with_reducible repeat (first | refine blk_drewN ?_ _ | refine blk_drew ?_ | refine blk_alloc ?_ _)); refine blk_put (cs := #[.int .i64 a0_0, .int .i64 a0_1, .int .i64 a0_2, .int .i64 a0_3, .int .i64 a0_4, .int .i64 a0_5, .int .i64 a0_6, .int .i64 a0_7, .int .i64 a0_8, .int .i64 0, .int .i64 0]) ?_ 9 _ rfl; (with_reducible repeat (first | refine blk_drewN ?_ _ | refine blk_drew ?_ | refine blk_alloc ?_ _)); refine blk_put (cs := #[.int .i64 a0_0, .int .i64 a0_1, .int .i64 a0_2, .int .i64 a0_3, .int .i64 a0_4, .int .i64 a0_5, .int .i64 a0_6, .int .i64 a0_7, .int .i64 0, .int .i64 0, .int .i64 0]) ?_ 8 _ rfl; (with_reducible repeat (first | refine blk_drewN ?_ _ | refine blk_drew ?_ | refine blk_alloc ?_ _)); refine blk_put (cs := #[.int .i64 a0_0, .int .i64 a0_1, .int .i64 a0_2, .int .i64 a0_3, .int .i64 a0_4, .int .i64 a0_5, .int .i64 a0_6, .int .i64 0, .int .i64 0, .int .i64 0, .int .i64 0]) ?_ 7 _ rfl; (with_reducible repeat (first | refine blk_drewN ?_ _ | refine blk_drew ?_ | refine blk_alloc ?_ _)); refine blk_put (cs := #[.int .i64 a0_0, .int .i64 a0_1, .int .i64 a0_2, .int .i64 a0_3, .int .i64 a0_4, .int .i64 a0_5, .int .i64 0, .int .i64 0, .int .i64 0, .int .i64 0, .int .i64 0]) ?_ 6 _ rfl; (with_reducible repeat (first | refine blk_drewN ?_ _ | refine blk_drew ?_ | refine blk_alloc ?_ _)); refine blk_put (cs := #[.int .i64 a0_0, .int .i64 a0_1, .int .i64 a0_2, .int .i64 a0_3, .int .i64 a0_4, .int .i64 0, .int .i64 0, .int .i64 0, .int .i64 0, .int .i64 0, .int .i64 0]) ?_ 5 _ rfl; (with_reducible repeat (first | refine blk_drewN ?_ _ | refine blk_drew ?_ | refine blk_alloc ?_ _)); refine blk_put (cs := #[.int .i64 a0_0, .int .i64 a0_1, .int .i64 a0_2, .int .i64 a0_3, .int .i64 0, .int .i64 0, .int .i64 0, .int .i64 0, .int .i64 0, .int .i64 0, .int .i64 0]) ?_ 4 _ rfl; (with_reducible repeat (first | refine blk_drewN ?_ _ | refine blk_drew ?_ | refine blk_alloc ?_ _)); refine blk_put (cs := #[.int .i64 a0_0, .int .i64 a0_1, .int .i64 a0_2, .int .i64 0, .int .i64 0, .int .i64 0, .int .i64 0, .int .i64 0, .int .i64 0, .int .i64 0, .int .i64 0]) ?_ 3 _ rfl; (with_reducible repeat (first | refine blk_drewN ?_ _ | refine blk_drew ?_ | refine blk_alloc ?_ _)); refine blk_put (cs := #[.int .i64 a0_0, .int .i64 a0_1, .int .i64 0, .int .i64 0, .int .i64 0, .int .i64 0, .int .i64 0, .int .i64 0, .int .i64 0, .int .i64 0, .int .i64 0]) ?_ 2 _ rfl; (with_reducible repeat (first | refine blk_drewN ?_ _ | refine blk_drew ?_ | refine blk_alloc ?_ _)); refine blk_put (cs := #[.int .i64 a0_0, .int .i64 0, .int .i64 0, .int .i64 0, .int .i64 0, .int .i64 0, .int .i64 0, .int .i64 0, .int .i64 0, .int .i64 0, .int .i64 0]) ?_ 1 _ rfl; (with_reducible repeat (first | refine blk_drewN ?_ _ | refine blk_drew ?_ | refine blk_alloc ?_ _)); refine blk_put (cs := #[.int .i64 0, .int .i64 0, .int .i64 0, .int .i64 0, .int .i64 0, .int .i64 0, .int .i64 0, .int .i64 0, .int .i64 0, .int .i64 0, .int .i64 0]) ?_ 0 _ rfl; (with_reducible repeat (first | refine blk_drewN ?_ _ | refine blk_drew ?_ | refine blk_alloc ?_ _)); refine blk_far ?_ NB246_245.out _; (with_reducible repeat (first | refine blk_drewN ?_ _ | refine blk_drew ?_ | refine blk_alloc ?_ _)); refine blk_far ?_ NB246_245.out _; (with_reducible repeat (first | refine blk_drewN ?_ _ | refine blk_drew ?_ | refine blk_alloc ?_ _)); refine blk_far ?_ NB246_245.out _; (with_reducible repeat (first | refine blk_drewN ?_ _ | refine blk_drew ?_ | refine blk_alloc ?_ _)); refine blk_far ?_ NB246_245.out _; (with_reducible repeat (first | refine blk_drewN ?_ _ | refine blk_drew ?_ | refine blk_alloc ?_ _)); refine blk_far ?_ NB246_245.out _; (with_reducible repeat (first | refine blk_drewN ?_ _ | refine blk_drew ?_ | refine blk_alloc ?_ _)); refine blk_far ?_ NB246_245.out _; (with_reducible repeat (first | refine blk_drewN ?_ _ | refine blk_drew ?_ | refine blk_alloc ?_ _)); refine blk_far ?_ NB246_245.out _; (with_reducible repeat (first | refine blk_drewN ?_ _ | refine blk_drew ?_ | refine blk_alloc ?_ _)); refine blk_far ?_ NB246_245.out _; (with_reducible repeat (first | refine blk_drewN ?_ _ | refine blk_drew ?_ | refine blk_alloc ?_ _)); refine blk_far ?_ NB246_245.out _; (with_reducible repeat (first | refine blk_drewN ?_ _ | refine blk_drew ?_ | refine blk_alloc ?_ _)); refine blk_far ?_ NB246_245.out _; (with_reducible repeat (first | refine blk_drewN ?_ _ | refine blk_drew ?_ | refine blk_alloc ?_ _)); refine blk_far ?_ NB246_245.out _; (with_reducible repeat (first | refine blk_drewN ?_ _ | refine blk_drew ?_ | refine blk_alloc ?_ _)); exact BK246.out⟩, ⟨by repeat (first | (with_reducible first | exact HB.out | apply below_alloc | apply pw_below_drewN | apply below_drew1 | refine below_set ?_ GE243.out | refine below_set ?_ GE245.out | refine below_set ?_ GE246.out) | exact HB.out)⟩⟩
    case rest =>
      clear HC6
      try clear p2
      try clear c3
      try clear c4
      try clear c5
      try clear p6
      try clear c7
      try clear c35
      try clear c36
      try clear c38
      try clear c38b0
      try clear c38b1
      try clear c39
      try clear c40
      try clear hcz37_0
      try clear hcz37_1
      try clear hcz37_10
      try clear hcz37_2
      try clear hcz37_3
      try clear hcz37_4
      try clear hcz37_5
      try clear hcz37_6
      try clear hcz37_7
      try clear hcz37_8
      try clear hcz37_9
      try clear hcz41_0
      try clear hcz41_1
      try clear hcz41_10
      try clear hcz41_2
      try clear hcz41_3
      try clear hcz41_4
      try clear hcz41_5
      try clear hcz41_6
      try clear hcz41_7
      try clear hcz41_8
      try clear hcz41_9
      try clear hfz37_0
      try clear hfz37_1
      try clear hfz37_10
      try clear hfz37_2
      try clear hfz37_3
      try clear hfz37_4
      try clear hfz37_5
      try clear hfz37_6
      try clear hfz37_7
      try clear hfz37_8
      try clear hfz37_9
      try clear hfz41_0
      try clear hfz41_1
      try clear hfz41_10
      try clear hfz41_2
      try clear hfz41_3
      try clear hfz41_4
      try clear hfz41_5
      try clear hfz41_6
      try clear hfz41_7
      try clear hfz41_8
      try clear hfz41_9
      obtain ⟨kq, x246007_5, x246010_5, HA, HJ5, BK243, BK245, BK246, HB⟩ := hcut
      cases kq with
      | zero => exact absurd HA.out (by simp [hawalalaw14_SagaAny.j0])
      | succ kj5 =>
        have H := HA.out
        clear HA
        simp only [hawalalaw14_SagaAny.j0] at H
        replace H := Option.bind_eq_some_iff.mp H
        obtain ⟨⟨t247, t248, t249, t250, t251, t252, t253, t254, t255, t256, t257⟩, A420, H⟩ := H
        replace H : ((hawalalaw14_leg.f kj5 a0_0 a0_1 a0_2 a0_3 a0_4 a0_5 a0_6 a0_7 a0_8 a0_9 a0_10 a1).bind fun bt258 => (if ((t247 == bt258.1 && (t248 == bt258.2.1 && (t249 == bt258.2.2.1 && (t250 == bt258.2.2.2.1 && (t251 == bt258.2.2.2.2.1 && (t252 == bt258.2.2.2.2.2.1 && (t253 == bt258.2.2.2.2.2.2.1))))))) && (t254 == bt258.2.2.2.2.2.2.2.1 && (t255 == bt258.2.2.2.2.2.2.2.2.1 && (t256 == bt258.2.2.2.2.2.2.2.2.2.1 && (t257 == bt258.2.2.2.2.2.2.2.2.2.2))))) = true then ((saga_Turn.f a0_0 a0_1 a0_2 a0_3 a0_4 a0_5 a0_6 a0_7 a0_8 a0_9 a0_10 (wrap64 (a2))).bind fun bt269 => (if ((bt269.1 == a0_0 && (bt269.2.1 == a0_1 && (bt269.2.2.1 == a0_2 && (bt269.2.2.2.1 == a0_3 && (bt269.2.2.2.2.1 == a0_4 && (bt269.2.2.2.2.2.1 == a0_5 && (bt269.2.2.2.2.2.2.1 == a0_6))))))) && (bt269.2.2.2.2.2.2.2.1 == x246007_5 && (bt269.2.2.2.2.2.2.2.2.1 == a0_8 && (bt269.2.2.2.2.2.2.2.2.2.1 == a0_9 && (bt269.2.2.2.2.2.2.2.2.2.2 == x246010_5))))) = true then ((saga_End.f a0_0 a0_1 a0_2 a0_3 a0_4 a0_5 a0_6 a0_7 a0_8 a0_9 a0_10).bind fun bt280 => (some ((bt280.1 == a0_0 && (bt280.2.1 == a0_1 && (bt280.2.2.1 == a0_2 && (bt280.2.2.2.1 == a0_3 && (bt280.2.2.2.2.1 == a0_4 && (bt280.2.2.2.2.2.1 == a0_5 && (bt280.2.2.2.2.2.2.1 == a0_6))))))) && (bt280.2.2.2.2.2.2.2.1 == 2 && (bt280.2.2.2.2.2.2.2.2.1 == a0_8 && (bt280.2.2.2.2.2.2.2.2.2.1 == a0_9 && (bt280.2.2.2.2.2.2.2.2.2.2 == a0_10))))))) else (some false))) else (some false))) = some r := H
        have A42 := Aside0.mk A420
        clear A420
        replace H := Option.bind_eq_some_iff.mp H
        obtain ⟨⟨t258, t259, t260, t261, t262, t263, t264, t265, t266, t267, t268⟩, A430, H⟩ := H
        replace H : (if ((t247 == t258 && (t248 == t259 && (t249 == t260 && (t250 == t261 && (t251 == t262 && (t252 == t263 && (t253 == t264))))))) && (t254 == t265 && (t255 == t266 && (t256 == t267 && (t257 == t268))))) = true then ((saga_Turn.f a0_0 a0_1 a0_2 a0_3 a0_4 a0_5 a0_6 a0_7 a0_8 a0_9 a0_10 (wrap64 (a2))).bind fun bt269 => (if ((bt269.1 == a0_0 && (bt269.2.1 == a0_1 && (bt269.2.2.1 == a0_2 && (bt269.2.2.2.1 == a0_3 && (bt269.2.2.2.2.1 == a0_4 && (bt269.2.2.2.2.2.1 == a0_5 && (bt269.2.2.2.2.2.2.1 == a0_6))))))) && (bt269.2.2.2.2.2.2.2.1 == x246007_5 && (bt269.2.2.2.2.2.2.2.2.1 == a0_8 && (bt269.2.2.2.2.2.2.2.2.2.1 == a0_9 && (bt269.2.2.2.2.2.2.2.2.2.2 == x246010_5))))) = true then ((saga_End.f a0_0 a0_1 a0_2 a0_3 a0_4 a0_5 a0_6 a0_7 a0_8 a0_9 a0_10).bind fun bt280 => (some ((bt280.1 == a0_0 && (bt280.2.1 == a0_1 && (bt280.2.2.1 == a0_2 && (bt280.2.2.2.1 == a0_3 && (bt280.2.2.2.2.1 == a0_4 && (bt280.2.2.2.2.2.1 == a0_5 && (bt280.2.2.2.2.2.2.1 == a0_6))))))) && (bt280.2.2.2.2.2.2.2.1 == 2 && (bt280.2.2.2.2.2.2.2.2.1 == a0_8 && (bt280.2.2.2.2.2.2.2.2.2.1 == a0_9 && (bt280.2.2.2.2.2.2.2.2.2.2 == a0_10))))))) else (some false))) else (some false)) = some r := H
        have A43 := Aside0.mk A430
        clear A430
        by_cases c44 : ((t247 == t258 && (t248 == t259 && (t249 == t260 && (t250 == t261 && (t251 == t262 && (t252 == t263 && (t253 == t264))))))) && (t254 == t265 && (t255 == t266 && (t256 == t267 && (t257 == t268))))) = true
        · rw [if_pos c44] at H
          have c44b0 : ((t247 == t258 && (t248 == t259 && (t249 == t260 && (t250 == t261 && (t251 == t262 && (t252 == t263 && (t253 == t264))))))) && (t254 == t265 && (t255 == t266 && (t256 == t267 && (t257 == t268))))) = true := c44
          clear c44
          replace H := Option.bind_eq_some_iff.mp H
          obtain ⟨⟨t269, t270, t271, t272, t273, t274, t275, t276, t277, t278, t279⟩, A450, H⟩ := H
          replace H : (if ((t269 == a0_0 && (t270 == a0_1 && (t271 == a0_2 && (t272 == a0_3 && (t273 == a0_4 && (t274 == a0_5 && (t275 == a0_6))))))) && (t276 == x246007_5 && (t277 == a0_8 && (t278 == a0_9 && (t279 == x246010_5))))) = true then ((saga_End.f a0_0 a0_1 a0_2 a0_3 a0_4 a0_5 a0_6 a0_7 a0_8 a0_9 a0_10).bind fun bt280 => (some ((bt280.1 == a0_0 && (bt280.2.1 == a0_1 && (bt280.2.2.1 == a0_2 && (bt280.2.2.2.1 == a0_3 && (bt280.2.2.2.2.1 == a0_4 && (bt280.2.2.2.2.2.1 == a0_5 && (bt280.2.2.2.2.2.2.1 == a0_6))))))) && (bt280.2.2.2.2.2.2.2.1 == 2 && (bt280.2.2.2.2.2.2.2.2.1 == a0_8 && (bt280.2.2.2.2.2.2.2.2.2.1 == a0_9 && (bt280.2.2.2.2.2.2.2.2.2.2 == a0_10))))))) else (some false)) = some r := H
          have A45 := Aside0.mk A450
          clear A450
          by_cases c46 : ((t269 == a0_0 && (t270 == a0_1 && (t271 == a0_2 && (t272 == a0_3 && (t273 == a0_4 && (t274 == a0_5 && (t275 == a0_6))))))) && (t276 == x246007_5 && (t277 == a0_8 && (t278 == a0_9 && (t279 == x246010_5))))) = true
          · rw [if_pos c46] at H
            have c46b0 : ((t269 == a0_0 && (t270 == a0_1 && (t271 == a0_2 && (t272 == a0_3 && (t273 == a0_4 && (t274 == a0_5 && (t275 == a0_6))))))) && (t276 == x246007_5 && (t277 == a0_8 && (t278 == a0_9 && (t279 == x246010_5))))) = true := c46
            clear c46
            replace H := Option.bind_eq_some_iff.mp H
            obtain ⟨⟨t280, t281, t282, t283, t284, t285, t286, t287, t288, t289, t290⟩, A470, H⟩ := H
            replace H : (some ((t280 == a0_0 && (t281 == a0_1 && (t282 == a0_2 && (t283 == a0_3 && (t284 == a0_4 && (t285 == a0_5 && (t286 == a0_6))))))) && (t287 == 2 && (t288 == a0_8 && (t289 == a0_9 && (t290 == a0_10)))))) = some r := H
            have A47 := Aside0.mk A470
            clear A470
            obtain rfl := Option.some.inj H
            have hnb48 := NB246_243.out
            have hnc48 := NB243_246.out
            have hnb49 := NB246_245.out
            have hnc49 := NB245_246.out
            have hcz50_0 : wc.cell? ⟨gb246, 0, none⟩ = some (.int .i64 a0_0) := (blk_cell BK246.out 0).trans rfl
            have hcz50_1 : wc.cell? ⟨gb246, 1, none⟩ = some (.int .i64 a0_1) := (blk_cell BK246.out 1).trans rfl
            have hcz50_2 : wc.cell? ⟨gb246, 2, none⟩ = some (.int .i64 a0_2) := (blk_cell BK246.out 2).trans rfl
            have hcz50_3 : wc.cell? ⟨gb246, 3, none⟩ = some (.int .i64 a0_3) := (blk_cell BK246.out 3).trans rfl
            have hcz50_4 : wc.cell? ⟨gb246, 4, none⟩ = some (.int .i64 a0_4) := (blk_cell BK246.out 4).trans rfl
            have hcz50_5 : wc.cell? ⟨gb246, 5, none⟩ = some (.int .i64 a0_5) := (blk_cell BK246.out 5).trans rfl
            have hcz50_6 : wc.cell? ⟨gb246, 6, none⟩ = some (.int .i64 a0_6) := (blk_cell BK246.out 6).trans rfl
            have hcz50_7 : wc.cell? ⟨gb246, 7, none⟩ = some (.int .i64 a0_7) := (blk_cell BK246.out 7).trans rfl
            have hcz50_8 : wc.cell? ⟨gb246, 8, none⟩ = some (.int .i64 a0_8) := (blk_cell BK246.out 8).trans rfl
            have hcz50_9 : wc.cell? ⟨gb246, 9, none⟩ = some (.int .i64 a0_9) := (blk_cell BK246.out 9).trans rfl
            have hcz50_10 : wc.cell? ⟨gb246, 10, none⟩ = some (.int .i64 a0_10) := (blk_cell BK246.out 10).trans rfl
            have hfz50_0 := blk_frozen BK246.out 0
            have hfz50_1 := blk_frozen BK246.out 1
            have hfz50_2 := blk_frozen BK246.out 2
            have hfz50_3 := blk_frozen BK246.out 3
            have hfz50_4 := blk_frozen BK246.out 4
            have hfz50_5 := blk_frozen BK246.out 5
            have hfz50_6 := blk_frozen BK246.out 6
            have hfz50_7 := blk_frozen BK246.out 7
            have hfz50_8 := blk_frozen BK246.out 8
            have hfz50_9 := blk_frozen BK246.out 9
            have hfz50_10 := blk_frozen BK246.out 10
            try go_wp2
            have n0_ : Aside0 ((wc.setCell ⟨gb246, 7, none⟩ (.int .i64 2)).heap[gb243]? = some (.cells #[.int .i64 a0_0, .int .i64 a0_1, .int .i64 a0_2, .int .i64 a0_3, .int .i64 a0_4, .int .i64 a0_5, .int .i64 a0_6, .int .i64 a0_7, .int .i64 a0_8, .int .i64 a0_9, .int .i64 a0_10] 30 (0, 0))) := ⟨by (with_reducible repeat (first | refine blk_drewN ?_ _ | refine blk_drew ?_ | refine blk_alloc ?_ _)); refine blk_far ?_ NB243_246.out _; (with_reducible repeat (first | refine blk_drewN ?_ _ | refine blk_drew ?_ | refine blk_alloc ?_ _)); exact BK243.out⟩
            have n1_ : Aside0 ((wc.setCell ⟨gb246, 7, none⟩ (.int .i64 2)).heap[gb245]? = some (.cells #[.int .i64 a0_0, .int .i64 a0_1, .int .i64 a0_2, .int .i64 a0_3, .int .i64 a0_4, .int .i64 a0_5, .int .i64 a0_6, .int .i64 x246007_5, .int .i64 a0_8, .int .i64 a0_9, .int .i64 x246010_5] 30 (0, 0))) := ⟨by (with_reducible repeat (first | refine blk_drewN ?_ _ | refine blk_drew ?_ | refine blk_alloc ?_ _)); refine blk_far ?_ NB245_246.out _; (with_reducible repeat (first | refine blk_drewN ?_ _ | refine blk_drew ?_ | refine blk_alloc ?_ _)); exact BK245.out⟩
            have n2_ : Aside0 ((wc.setCell ⟨gb246, 7, none⟩ (.int .i64 2)).heap[gb246]? = some (.cells #[.int .i64 a0_0, .int .i64 a0_1, .int .i64 a0_2, .int .i64 a0_3, .int .i64 a0_4, .int .i64 a0_5, .int .i64 a0_6, .int .i64 2, .int .i64 a0_8, .int .i64 a0_9, .int .i64 a0_10] 30 (0, 0))) := ⟨by (with_reducible repeat (first | refine blk_drewN ?_ _ | refine blk_drew ?_ | refine blk_alloc ?_ _)); refine blk_put (cs := #[.int .i64 a0_0, .int .i64 a0_1, .int .i64 a0_2, .int .i64 a0_3, .int .i64 a0_4, .int .i64 a0_5, .int .i64 a0_6, .int .i64 a0_7, .int .i64 a0_8, .int .i64 a0_9, .int .i64 a0_10]) ?_ 7 _ rfl; (with_reducible repeat (first | refine blk_drewN ?_ _ | refine blk_drew ?_ | refine blk_alloc ?_ _)); exact BK246.out⟩
            have n3_ : Aside0 (Below w.heap.size w (wc.setCell ⟨gb246, 7, none⟩ (.int .i64 2))) := ⟨by repeat (first | (with_reducible first | exact HB.out | apply below_alloc | apply pw_below_drewN | apply below_drew1 | refine below_set ?_ GE243.out | refine below_set ?_ GE245.out | refine below_set ?_ GE246.out) | exact HB.out)⟩
            (try clear BK243)
            (try clear BK245)
            (try clear BK246)
            (try clear HB)
            generalize (wc.setCell ⟨gb246, 7, none⟩ (.int .i64 2)) = w51 at n0_ n1_ n2_ n3_ ⊢
            have BK243 := n0_
            have BK245 := n1_
            have BK246 := n2_
            have HB := n3_
            clear n0_ n1_ n2_ n3_
            have n0_ := Aside0.mk (blk_drew BK243.out)
            have n1_ := Aside0.mk (blk_drew BK245.out)
            have n2_ := Aside0.mk (blk_drew BK246.out)
            have n3_ := Aside0.mk (below_drew1 HB.out)
            clear BK243
            clear BK245
            clear BK246
            clear HB
            have BK243 := n0_
            have BK245 := n1_
            have BK246 := n2_
            have HB := n3_
            clear n0_ n1_ n2_ n3_
            refine start_ (n := 22) (S := fun w' => w'.cell? ⟨gb243, 0, none⟩ = some (.int .i64 a0_0) ∧ w'.cell? ⟨gb243, 1, none⟩ = some (.int .i64 a0_1) ∧ w'.cell? ⟨gb243, 2, none⟩ = some (.int .i64 a0_2) ∧ w'.cell? ⟨gb243, 3, none⟩ = some (.int .i64 a0_3) ∧ w'.cell? ⟨gb243, 4, none⟩ = some (.int .i64 a0_4) ∧ w'.cell? ⟨gb243, 5, none⟩ = some (.int .i64 a0_5) ∧ w'.cell? ⟨gb243, 6, none⟩ = some (.int .i64 a0_6) ∧ w'.cell? ⟨gb243, 7, none⟩ = some (.int .i64 a0_7) ∧ w'.cell? ⟨gb243, 8, none⟩ = some (.int .i64 a0_8) ∧ w'.cell? ⟨gb243, 9, none⟩ = some (.int .i64 a0_9) ∧ w'.cell? ⟨gb243, 10, none⟩ = some (.int .i64 a0_10) ∧ w'.cell? ⟨gb245, 0, none⟩ = some (.int .i64 a0_0) ∧ w'.cell? ⟨gb245, 1, none⟩ = some (.int .i64 a0_1) ∧ w'.cell? ⟨gb245, 2, none⟩ = some (.int .i64 a0_2) ∧ w'.cell? ⟨gb245, 3, none⟩ = some (.int .i64 a0_3) ∧ w'.cell? ⟨gb245, 4, none⟩ = some (.int .i64 a0_4) ∧ w'.cell? ⟨gb245, 5, none⟩ = some (.int .i64 a0_5) ∧ w'.cell? ⟨gb245, 6, none⟩ = some (.int .i64 a0_6) ∧ w'.cell? ⟨gb245, 7, none⟩ = some (.int .i64 x246007_5) ∧ w'.cell? ⟨gb245, 8, none⟩ = some (.int .i64 a0_8) ∧ w'.cell? ⟨gb245, 9, none⟩ = some (.int .i64 a0_9) ∧ w'.cell? ⟨gb245, 10, none⟩ = some (.int .i64 x246010_5) ∧ w'.cell? ⟨gb246, 0, none⟩ = some (.int .i64 a0_0) ∧ w'.cell? ⟨gb246, 1, none⟩ = some (.int .i64 a0_1) ∧ w'.cell? ⟨gb246, 2, none⟩ = some (.int .i64 a0_2) ∧ w'.cell? ⟨gb246, 3, none⟩ = some (.int .i64 a0_3) ∧ w'.cell? ⟨gb246, 4, none⟩ = some (.int .i64 a0_4) ∧ w'.cell? ⟨gb246, 5, none⟩ = some (.int .i64 a0_5) ∧ w'.cell? ⟨gb246, 6, none⟩ = some (.int .i64 a0_6) ∧ w'.cell? ⟨gb246, 7, none⟩ = some (.int .i64 2) ∧ w'.cell? ⟨gb246, 8, none⟩ = some (.int .i64 a0_8) ∧ w'.cell? ⟨gb246, 9, none⟩ = some (.int .i64 a0_9) ∧ w'.cell? ⟨gb246, 10, none⟩ = some (.int .i64 a0_10)) (ds := []) #[false, false, false, false, false, false, false, false, false, false, false, false, false, false, false, false, false, false, false, false, false, false] (by kernel_rfl) rfl rfl ⟨(blk_cell BK243.out 0).trans rfl, (blk_cell BK243.out 1).trans rfl, (blk_cell BK243.out 2).trans rfl, (blk_cell BK243.out 3).trans rfl, (blk_cell BK243.out 4).trans rfl, (blk_cell BK243.out 5).trans rfl, (blk_cell BK243.out 6).trans rfl, (blk_cell BK243.out 7).trans rfl, (blk_cell BK243.out 8).trans rfl, (blk_cell BK243.out 9).trans rfl, (blk_cell BK243.out 10).trans rfl, (blk_cell BK245.out 0).trans rfl, (blk_cell BK245.out 1).trans rfl, (blk_cell BK245.out 2).trans rfl, (blk_cell BK245.out 3).trans rfl, (blk_cell BK245.out 4).trans rfl, (blk_cell BK245.out 5).trans rfl, (blk_cell BK245.out 6).trans rfl, (blk_cell BK245.out 7).trans rfl, (blk_cell BK245.out 8).trans rfl, (blk_cell BK245.out 9).trans rfl, (blk_cell BK245.out 10).trans rfl, (blk_cell BK246.out 0).trans rfl, (blk_cell BK246.out 1).trans rfl, (blk_cell BK246.out 2).trans rfl, (blk_cell BK246.out 3).trans rfl, (blk_cell BK246.out 4).trans rfl, (blk_cell BK246.out 5).trans rfl, (blk_cell BK246.out 6).trans rfl, (blk_cell BK246.out 7).trans rfl, (blk_cell BK246.out 8).trans rfl, (blk_cell BK246.out 9).trans rfl, (blk_cell BK246.out 10).trans rfl⟩ (fun hHeld => ?_); refine with_tabW hawalalaw14_SagaAny.tab7 hawalalaw14_SagaAny.bits7 (fun HT_ HW_ => ?_)
            generalize w51.drew = w52 at BK243 BK245 BK246 HB hHeld ⊢
            refine pure_ (i := 1) (N := some 22) (v := ?_) (a' := ?_) #[false, true, false, false, false, false, false, false, false, false, false, false, false, false, false, false, false, false, false, false, false, false] rfl rfl (any_of HT_.out (by kernel_rfl)) (fun _ _ _ h => h) (Or.inl ⟨by rfl, ?_⟩) ?_ ?_
            rotate_left
            · intro w'
              go_simp
              with_reducible rfl
            rotate_left
            · simp only [Act.put, List.setIfInBounds_toArray, List.set_cons_zero, List.set_cons_succ, i64_w, i32_w]
              rfl
            refine pure_ (i := 4) (N := some 25) (v := ?_) (a' := ?_) #[false, true, false, false, true, false, false, false, false, false, false, false, false, false, false, false, false, false, false, false, false, false] rfl rfl (any_of HT_.out (by kernel_rfl)) (fun _ _ _ h => h) (Or.inl ⟨by rfl, ?_⟩) ?_ ?_
            rotate_left
            · intro w'
              go_simp
              with_reducible rfl
            rotate_left
            · simp only [Act.put, List.setIfInBounds_toArray, List.set_cons_zero, List.set_cons_succ, i64_w, i32_w]
              rfl
            refine take_ (i := 0) (N := some 21) (v := ?_) (a' := ?_) #[true, true, false, false, true, false, false, false, false, false, false, false, false, false, false, false, false, false, false, false, false, false] rfl rfl (take_ofW HT_.out HW_.out (by kernel_rfl)) (fun _ _ _ h => h) (Or.inl ⟨by rfl, ?_⟩) hHeld ?_ ?_
            rotate_left
            · rintro w' ⟨s0, s1, s2, s3, s4, s5, s6, s7, s8, s9, s10, s11, s12, s13, s14, s15, s16, s17, s18, s19, s20, s21, s22, s23, s24, s25, s26, s27, s28, s29, s30, s31, s32⟩
              go_simp
              with_reducible rfl
            rotate_left
            · simp only [Act.put, List.setIfInBounds_toArray, List.set_cons_zero, List.set_cons_succ, i64_w, i32_w]
              rfl
            refine take_ (i := 3) (N := some 24) (v := ?_) (a' := ?_) #[true, true, false, true, true, false, false, false, false, false, false, false, false, false, false, false, false, false, false, false, false, false] rfl rfl (take_ofW HT_.out HW_.out (by kernel_rfl)) (fun _ _ _ h => h) (Or.inl ⟨by rfl, ?_⟩) hHeld ?_ ?_
            rotate_left
            · rintro w' ⟨s0, s1, s2, s3, s4, s5, s6, s7, s8, s9, s10, s11, s12, s13, s14, s15, s16, s17, s18, s19, s20, s21, s22, s23, s24, s25, s26, s27, s28, s29, s30, s31, s32⟩
              go_simp
              with_reducible rfl
            rotate_left
            · simp only [Act.put, List.setIfInBounds_toArray, List.set_cons_zero, List.set_cons_succ, i64_w, i32_w]
              rfl
            refine one_ (i := 2) (N := some 23) #[true, true, true, true, true, false, false, false, false, false, false, false, false, false, false, false, false, false, false, false, false, false] rfl rfl (one_of HT_.out (by kernel_rfl)) (by decide) (fun K hK => ?_)
            refine goes_ Try.func10 (by kernel_rfl) rfl #[.agg #[.int .i64 a0_0, .int .i64 a0_1, .int .i64 a0_2, .int .i64 a0_3, .int .i64 a0_4, .int .i64 a0_5, .int .i64 a0_6, .int .i64 a0_7, .int .i64 a0_8, .int .i64 a0_9, .int .i64 a0_10], .bool a1] (by rfl) rfl rfl (by (try simp only [List.map_toArray, List.map_cons, List.map_nil]); first | done | rfl | (simp only [List.length_drop, List.length_take]; rfl)) ?_
            with_reducible refine (saga_Leg.calls kj5 a0_0 a0_1 a0_2 a0_3 a0_4 a0_5 a0_6 a0_7 a0_8 a0_9 a0_10 a1 t247 t248 t249 t250 t251 t252 t253 t254 t255 t256 t257 _ A42.out).mono ?_
            rintro e w53 ⟨rfl, hb⟩
            refine ⟨_, rfl, ?_⟩
            have n0_ := Aside0.mk (blk_below (g := gb243) (o := .cells #[.int .i64 a0_0, .int .i64 a0_1, .int .i64 a0_2, .int .i64 a0_3, .int .i64 a0_4, .int .i64 a0_5, .int .i64 a0_6, .int .i64 a0_7, .int .i64 a0_8, .int .i64 a0_9, .int .i64 a0_10] 30 (0, 0)) (by (with_reducible repeat (first | refine blk_drewN ?_ _ | refine blk_drew ?_ | refine blk_alloc ?_ _)); exact BK243.out) hb)
            have n1_ := Aside0.mk (blk_below (g := gb245) (o := .cells #[.int .i64 a0_0, .int .i64 a0_1, .int .i64 a0_2, .int .i64 a0_3, .int .i64 a0_4, .int .i64 a0_5, .int .i64 a0_6, .int .i64 x246007_5, .int .i64 a0_8, .int .i64 a0_9, .int .i64 x246010_5] 30 (0, 0)) (by (with_reducible repeat (first | refine blk_drewN ?_ _ | refine blk_drew ?_ | refine blk_alloc ?_ _)); exact BK245.out) hb)
            have n2_ := Aside0.mk (blk_below (g := gb246) (o := .cells #[.int .i64 a0_0, .int .i64 a0_1, .int .i64 a0_2, .int .i64 a0_3, .int .i64 a0_4, .int .i64 a0_5, .int .i64 a0_6, .int .i64 2, .int .i64 a0_8, .int .i64 a0_9, .int .i64 a0_10] 30 (0, 0)) (by (with_reducible repeat (first | refine blk_drewN ?_ _ | refine blk_drew ?_ | refine blk_alloc ?_ _)); exact BK246.out) hb)
            have n3_ := Aside0.mk (below_step (by repeat (first | (with_reducible first | exact HB.out | apply below_alloc | apply pw_below_drewN | apply below_drew1 | refine below_set ?_ GE243.out | refine below_set ?_ GE245.out | refine below_set ?_ GE246.out) | exact HB.out)) hb)
            clear BK243
            clear BK245
            clear BK246
            clear HB
            have BK243 := n0_
            have BK245 := n1_
            have BK246 := n2_
            have HB := n3_
            clear n0_ n1_ n2_ n3_
            (try clear hb)
            (try clear hb2)
            (try clear hk)
            (try clear hi)
            refine hK.out _ _ ⟨(blk_cell BK243.out 0).trans rfl, (blk_cell BK243.out 1).trans rfl, (blk_cell BK243.out 2).trans rfl, (blk_cell BK243.out 3).trans rfl, (blk_cell BK243.out 4).trans rfl, (blk_cell BK243.out 5).trans rfl, (blk_cell BK243.out 6).trans rfl, (blk_cell BK243.out 7).trans rfl, (blk_cell BK243.out 8).trans rfl, (blk_cell BK243.out 9).trans rfl, (blk_cell BK243.out 10).trans rfl, (blk_cell BK245.out 0).trans rfl, (blk_cell BK245.out 1).trans rfl, (blk_cell BK245.out 2).trans rfl, (blk_cell BK245.out 3).trans rfl, (blk_cell BK245.out 4).trans rfl, (blk_cell BK245.out 5).trans rfl, (blk_cell BK245.out 6).trans rfl, (blk_cell BK245.out 7).trans rfl, (blk_cell BK245.out 8).trans rfl, (blk_cell BK245.out 9).trans rfl, (blk_cell BK245.out 10).trans rfl, (blk_cell BK246.out 0).trans rfl, (blk_cell BK246.out 1).trans rfl, (blk_cell BK246.out 2).trans rfl, (blk_cell BK246.out 3).trans rfl, (blk_cell BK246.out 4).trans rfl, (blk_cell BK246.out 5).trans rfl, (blk_cell BK246.out 6).trans rfl, (blk_cell BK246.out 7).trans rfl, (blk_cell BK246.out 8).trans rfl, (blk_cell BK246.out 9).trans rfl, (blk_cell BK246.out 10).trans rfl⟩ (fun hHeld => ?_)
            clear hK K
            refine norm_ (a' := ?_) ?_ ?_
            rotate_left
            · show Act.put _ (some 23) _ = _
              simp only [Act.put, List.setIfInBounds_toArray, List.set_cons_zero, List.set_cons_succ, i64_w, i32_w]
              rfl
            refine one_ (i := 5) (N := some 26) #[true, true, true, true, true, true, false, false, false, false, false, false, false, false, false, false, false, false, false, false, false, false] rfl rfl (one_of HT_.out (by kernel_rfl)) (by decide) (fun K hK => ?_)
            refine goes_ Try.func11 (by kernel_rfl) rfl #[.agg #[.int .i64 a0_0, .int .i64 a0_1, .int .i64 a0_2, .int .i64 a0_3, .int .i64 a0_4, .int .i64 a0_5, .int .i64 a0_6, .int .i64 a0_7, .int .i64 a0_8, .int .i64 a0_9, .int .i64 a0_10], .bool a1] (by rfl) rfl rfl (by (try simp only [List.map_toArray, List.map_cons, List.map_nil]); first | done | rfl | (simp only [List.length_drop, List.length_take]; rfl)) ?_
            with_reducible refine (hawalalaw14_leg.calls kj5 a0_0 a0_1 a0_2 a0_3 a0_4 a0_5 a0_6 a0_7 a0_8 a0_9 a0_10 a1 t258 t259 t260 t261 t262 t263 t264 t265 t266 t267 t268 _ A43.out).mono ?_
            rintro e w54 ⟨rfl, hb⟩
            refine ⟨_, rfl, ?_⟩
            have n0_ := Aside0.mk (blk_below (g := gb243) (o := .cells #[.int .i64 a0_0, .int .i64 a0_1, .int .i64 a0_2, .int .i64 a0_3, .int .i64 a0_4, .int .i64 a0_5, .int .i64 a0_6, .int .i64 a0_7, .int .i64 a0_8, .int .i64 a0_9, .int .i64 a0_10] 30 (0, 0)) (by (with_reducible repeat (first | refine blk_drewN ?_ _ | refine blk_drew ?_ | refine blk_alloc ?_ _)); exact BK243.out) hb)
            have n1_ := Aside0.mk (blk_below (g := gb245) (o := .cells #[.int .i64 a0_0, .int .i64 a0_1, .int .i64 a0_2, .int .i64 a0_3, .int .i64 a0_4, .int .i64 a0_5, .int .i64 a0_6, .int .i64 x246007_5, .int .i64 a0_8, .int .i64 a0_9, .int .i64 x246010_5] 30 (0, 0)) (by (with_reducible repeat (first | refine blk_drewN ?_ _ | refine blk_drew ?_ | refine blk_alloc ?_ _)); exact BK245.out) hb)
            have n2_ := Aside0.mk (blk_below (g := gb246) (o := .cells #[.int .i64 a0_0, .int .i64 a0_1, .int .i64 a0_2, .int .i64 a0_3, .int .i64 a0_4, .int .i64 a0_5, .int .i64 a0_6, .int .i64 2, .int .i64 a0_8, .int .i64 a0_9, .int .i64 a0_10] 30 (0, 0)) (by (with_reducible repeat (first | refine blk_drewN ?_ _ | refine blk_drew ?_ | refine blk_alloc ?_ _)); exact BK246.out) hb)
            have n3_ := Aside0.mk (below_step (by repeat (first | (with_reducible first | exact HB.out | apply below_alloc | apply pw_below_drewN | apply below_drew1 | refine below_set ?_ GE243.out | refine below_set ?_ GE245.out | refine below_set ?_ GE246.out) | exact HB.out)) hb)
            clear BK243
            clear BK245
            clear BK246
            clear HB
            have BK243 := n0_
            have BK245 := n1_
            have BK246 := n2_
            have HB := n3_
            clear n0_ n1_ n2_ n3_
            (try clear hb)
            (try clear hb2)
            (try clear hk)
            (try clear hi)
            refine hK.out _ _ ⟨(blk_cell BK243.out 0).trans rfl, (blk_cell BK243.out 1).trans rfl, (blk_cell BK243.out 2).trans rfl, (blk_cell BK243.out 3).trans rfl, (blk_cell BK243.out 4).trans rfl, (blk_cell BK243.out 5).trans rfl, (blk_cell BK243.out 6).trans rfl, (blk_cell BK243.out 7).trans rfl, (blk_cell BK243.out 8).trans rfl, (blk_cell BK243.out 9).trans rfl, (blk_cell BK243.out 10).trans rfl, (blk_cell BK245.out 0).trans rfl, (blk_cell BK245.out 1).trans rfl, (blk_cell BK245.out 2).trans rfl, (blk_cell BK245.out 3).trans rfl, (blk_cell BK245.out 4).trans rfl, (blk_cell BK245.out 5).trans rfl, (blk_cell BK245.out 6).trans rfl, (blk_cell BK245.out 7).trans rfl, (blk_cell BK245.out 8).trans rfl, (blk_cell BK245.out 9).trans rfl, (blk_cell BK245.out 10).trans rfl, (blk_cell BK246.out 0).trans rfl, (blk_cell BK246.out 1).trans rfl, (blk_cell BK246.out 2).trans rfl, (blk_cell BK246.out 3).trans rfl, (blk_cell BK246.out 4).trans rfl, (blk_cell BK246.out 5).trans rfl, (blk_cell BK246.out 6).trans rfl, (blk_cell BK246.out 7).trans rfl, (blk_cell BK246.out 8).trans rfl, (blk_cell BK246.out 9).trans rfl, (blk_cell BK246.out 10).trans rfl⟩ (fun hHeld => ?_)
            clear hK K
            refine norm_ (a' := ?_) ?_ ?_
            rotate_left
            · show Act.put _ (some 26) _ = _
              simp only [Act.put, List.setIfInBounds_toArray, List.set_cons_zero, List.set_cons_succ, i64_w, i32_w]
              rfl
            refine pure_ (i := 6) (N := some 27) (v := ?_) (a' := ?_) #[true, true, true, true, true, true, true, false, false, false, false, false, false, false, false, false, false, false, false, false, false, false] rfl rfl (any_of HT_.out (by kernel_rfl)) (fun _ _ _ h => h) (Or.inl ⟨by rfl, ?_⟩) ?_ ?_
            rotate_left
            · intro w'
              go_simp
              with_reducible rfl
            rotate_left
            · simp only [Act.put, List.setIfInBounds_toArray, List.set_cons_zero, List.set_cons_succ, i64_w, i32_w]
              rfl
            refine pure_ (i := 7) (N := some 28) (v := ?_) (a' := ?_) #[true, true, true, true, true, true, true, true, false, false, false, false, false, false, false, false, false, false, false, false, false, false] rfl rfl (any_of HT_.out (by kernel_rfl)) (fun _ _ _ h => h) (Or.inl ⟨by rfl, ?_⟩) ?_ ?_
            rotate_left
            · intro w'
              go_simp
              with_reducible rfl
            rotate_left
            · simp only [Act.put, List.setIfInBounds_toArray, List.set_cons_zero, List.set_cons_succ, i64_w, i32_w]
              rfl
            refine pure_ (i := 9) (N := some 30) (v := ?_) (a' := ?_) #[true, true, true, true, true, true, true, true, false, true, false, false, false, false, false, false, false, false, false, false, false, false] rfl rfl (any_of HT_.out (by kernel_rfl)) (fun _ _ _ h => h) (Or.inl ⟨by rfl, ?_⟩) ?_ ?_
            rotate_left
            · intro w'
              go_simp
              with_reducible rfl
            rotate_left
            · simp only [Act.put, List.setIfInBounds_toArray, List.set_cons_zero, List.set_cons_succ, i64_w, i32_w]
              rfl
            refine pure_ (i := 10) (N := some 31) (v := ?_) (a' := ?_) #[true, true, true, true, true, true, true, true, false, true, true, false, false, false, false, false, false, false, false, false, false, false] rfl rfl (any_of HT_.out (by kernel_rfl)) (fun _ _ _ h => h) (Or.inl ⟨by rfl, ?_⟩) ?_ ?_
            rotate_left
            · intro w'
              go_simp
              with_reducible rfl
            rotate_left
            · simp only [Act.put, List.setIfInBounds_toArray, List.set_cons_zero, List.set_cons_succ, i64_w, i32_w]
              rfl
            refine take_ (i := 8) (N := some 29) (v := ?_) (a' := ?_) #[true, true, true, true, true, true, true, true, true, true, true, false, false, false, false, false, false, false, false, false, false, false] rfl rfl (take_ofW HT_.out HW_.out (by kernel_rfl)) (fun _ _ _ h => h) (Or.inl ⟨by rfl, ?_⟩) hHeld ?_ ?_
            rotate_left
            · rintro w' ⟨s0, s1, s2, s3, s4, s5, s6, s7, s8, s9, s10, s11, s12, s13, s14, s15, s16, s17, s18, s19, s20, s21, s22, s23, s24, s25, s26, s27, s28, s29, s30, s31, s32⟩
              go_simp
              with_reducible rfl
            rotate_left
            · simp only [Act.put, List.setIfInBounds_toArray, List.set_cons_zero, List.set_cons_succ, i64_w, i32_w]
              rfl
            refine take_ (i := 12) (N := some 33) (v := ?_) (a' := ?_) #[true, true, true, true, true, true, true, true, true, true, true, false, true, false, false, false, false, false, false, false, false, false] rfl rfl (take_ofW HT_.out HW_.out (by kernel_rfl)) (fun _ _ _ h => h) (Or.inl ⟨by rfl, ?_⟩) hHeld ?_ ?_
            rotate_left
            · rintro w' ⟨s0, s1, s2, s3, s4, s5, s6, s7, s8, s9, s10, s11, s12, s13, s14, s15, s16, s17, s18, s19, s20, s21, s22, s23, s24, s25, s26, s27, s28, s29, s30, s31, s32⟩
              go_simp
              with_reducible rfl
            rotate_left
            · simp only [Act.put, List.setIfInBounds_toArray, List.set_cons_zero, List.set_cons_succ, i64_w, i32_w]
              rfl
            refine one_ (i := 11) (N := some 32) #[true, true, true, true, true, true, true, true, true, true, true, true, true, false, false, false, false, false, false, false, false, false] rfl rfl (one_of HT_.out (by kernel_rfl)) (by decide) (fun K hK => ?_)
            refine goes_ Try.func13 (by kernel_rfl) rfl #[.agg #[.int .i64 a0_0, .int .i64 a0_1, .int .i64 a0_2, .int .i64 a0_3, .int .i64 a0_4, .int .i64 a0_5, .int .i64 a0_6, .int .i64 a0_7, .int .i64 a0_8, .int .i64 a0_9, .int .i64 a0_10], .int .i64 (wrap64 (a2))] (by rfl) rfl rfl (by (try simp only [List.map_toArray, List.map_cons, List.map_nil]); first | done | rfl | (simp only [List.length_drop, List.length_take]; rfl)) ?_
            with_reducible refine (saga_Turn.calls a0_0 a0_1 a0_2 a0_3 a0_4 a0_5 a0_6 a0_7 a0_8 a0_9 a0_10 (wrap64 (a2)) t269 t270 t271 t272 t273 t274 t275 t276 t277 t278 t279 _ A45.out).mono ?_
            rintro e w55 ⟨rfl, hb⟩
            refine ⟨_, rfl, ?_⟩
            have n0_ := Aside0.mk (blk_below (g := gb243) (o := .cells #[.int .i64 a0_0, .int .i64 a0_1, .int .i64 a0_2, .int .i64 a0_3, .int .i64 a0_4, .int .i64 a0_5, .int .i64 a0_6, .int .i64 a0_7, .int .i64 a0_8, .int .i64 a0_9, .int .i64 a0_10] 30 (0, 0)) (by (with_reducible repeat (first | refine blk_drewN ?_ _ | refine blk_drew ?_ | refine blk_alloc ?_ _)); exact BK243.out) hb)
            have n1_ := Aside0.mk (blk_below (g := gb245) (o := .cells #[.int .i64 a0_0, .int .i64 a0_1, .int .i64 a0_2, .int .i64 a0_3, .int .i64 a0_4, .int .i64 a0_5, .int .i64 a0_6, .int .i64 x246007_5, .int .i64 a0_8, .int .i64 a0_9, .int .i64 x246010_5] 30 (0, 0)) (by (with_reducible repeat (first | refine blk_drewN ?_ _ | refine blk_drew ?_ | refine blk_alloc ?_ _)); exact BK245.out) hb)
            have n2_ := Aside0.mk (blk_below (g := gb246) (o := .cells #[.int .i64 a0_0, .int .i64 a0_1, .int .i64 a0_2, .int .i64 a0_3, .int .i64 a0_4, .int .i64 a0_5, .int .i64 a0_6, .int .i64 2, .int .i64 a0_8, .int .i64 a0_9, .int .i64 a0_10] 30 (0, 0)) (by (with_reducible repeat (first | refine blk_drewN ?_ _ | refine blk_drew ?_ | refine blk_alloc ?_ _)); exact BK246.out) hb)
            have n3_ := Aside0.mk (below_step (by repeat (first | (with_reducible first | exact HB.out | apply below_alloc | apply pw_below_drewN | apply below_drew1 | refine below_set ?_ GE243.out | refine below_set ?_ GE245.out | refine below_set ?_ GE246.out) | exact HB.out)) hb)
            clear BK243
            clear BK245
            clear BK246
            clear HB
            have BK243 := n0_
            have BK245 := n1_
            have BK246 := n2_
            have HB := n3_
            clear n0_ n1_ n2_ n3_
            (try clear hb)
            (try clear hb2)
            (try clear hk)
            (try clear hi)
            refine hK.out _ _ ⟨(blk_cell BK243.out 0).trans rfl, (blk_cell BK243.out 1).trans rfl, (blk_cell BK243.out 2).trans rfl, (blk_cell BK243.out 3).trans rfl, (blk_cell BK243.out 4).trans rfl, (blk_cell BK243.out 5).trans rfl, (blk_cell BK243.out 6).trans rfl, (blk_cell BK243.out 7).trans rfl, (blk_cell BK243.out 8).trans rfl, (blk_cell BK243.out 9).trans rfl, (blk_cell BK243.out 10).trans rfl, (blk_cell BK245.out 0).trans rfl, (blk_cell BK245.out 1).trans rfl, (blk_cell BK245.out 2).trans rfl, (blk_cell BK245.out 3).trans rfl, (blk_cell BK245.out 4).trans rfl, (blk_cell BK245.out 5).trans rfl, (blk_cell BK245.out 6).trans rfl, (blk_cell BK245.out 7).trans rfl, (blk_cell BK245.out 8).trans rfl, (blk_cell BK245.out 9).trans rfl, (blk_cell BK245.out 10).trans rfl, (blk_cell BK246.out 0).trans rfl, (blk_cell BK246.out 1).trans rfl, (blk_cell BK246.out 2).trans rfl, (blk_cell BK246.out 3).trans rfl, (blk_cell BK246.out 4).trans rfl, (blk_cell BK246.out 5).trans rfl, (blk_cell BK246.out 6).trans rfl, (blk_cell BK246.out 7).trans rfl, (blk_cell BK246.out 8).trans rfl, (blk_cell BK246.out 9).trans rfl, (blk_cell BK246.out 10).trans rfl⟩ (fun hHeld => ?_)
            clear hK K
            refine norm_ (a' := ?_) ?_ ?_
            rotate_left
            · show Act.put _ (some 32) _ = _
              simp only [Act.put, List.setIfInBounds_toArray, List.set_cons_zero, List.set_cons_succ, i64_w, i32_w]
              rfl
            refine pure_ (i := 13) (N := some 34) (v := ?_) (a' := ?_) #[true, true, true, true, true, true, true, true, true, true, true, true, true, true, false, false, false, false, false, false, false, false] rfl rfl (any_of HT_.out (by kernel_rfl)) (fun _ _ _ h => h) (Or.inl ⟨by rfl, ?_⟩) ?_ ?_
            rotate_left
            · intro w'
              go_simp
              with_reducible rfl
            rotate_left
            · simp only [Act.put, List.setIfInBounds_toArray, List.set_cons_zero, List.set_cons_succ, i64_w, i32_w]
              rfl
            refine pure_ (i := 14) (N := some 35) (v := ?_) (a' := ?_) #[true, true, true, true, true, true, true, true, true, true, true, true, true, true, true, false, false, false, false, false, false, false] rfl rfl (any_of HT_.out (by kernel_rfl)) (fun _ _ _ h => h) (Or.inl ⟨by rfl, ?_⟩) ?_ ?_
            rotate_left
            · intro w'
              go_simp
              with_reducible rfl
            rotate_left
            · simp only [Act.put, List.setIfInBounds_toArray, List.set_cons_zero, List.set_cons_succ, i64_w, i32_w]
              rfl
            refine pure_ (i := 15) (N := some 36) (v := ?_) (a' := ?_) #[true, true, true, true, true, true, true, true, true, true, true, true, true, true, true, true, false, false, false, false, false, false] rfl rfl (any_of HT_.out (by kernel_rfl)) (fun _ _ _ h => h) (Or.inl ⟨by rfl, ?_⟩) ?_ ?_
            rotate_left
            · intro w'
              go_simp
              with_reducible rfl
            rotate_left
            · simp only [Act.put, List.setIfInBounds_toArray, List.set_cons_zero, List.set_cons_succ, i64_w, i32_w]
              rfl
            refine take_ (i := 16) (N := some 37) (v := ?_) (a' := ?_) #[true, true, true, true, true, true, true, true, true, true, true, true, true, true, true, true, true, false, false, false, false, false] rfl rfl (take_ofW HT_.out HW_.out (by kernel_rfl)) (fun _ _ _ h => h) (Or.inl ⟨by rfl, ?_⟩) hHeld ?_ ?_
            rotate_left
            · rintro w' ⟨s0, s1, s2, s3, s4, s5, s6, s7, s8, s9, s10, s11, s12, s13, s14, s15, s16, s17, s18, s19, s20, s21, s22, s23, s24, s25, s26, s27, s28, s29, s30, s31, s32⟩
              go_simp
              with_reducible rfl
            rotate_left
            · simp only [Act.put, List.setIfInBounds_toArray, List.set_cons_zero, List.set_cons_succ, i64_w, i32_w]
              rfl
            refine take_ (i := 18) (N := some 39) (v := ?_) (a' := ?_) #[true, true, true, true, true, true, true, true, true, true, true, true, true, true, true, true, true, false, true, false, false, false] rfl rfl (take_ofW HT_.out HW_.out (by kernel_rfl)) (fun _ _ _ h => h) (Or.inl ⟨by rfl, ?_⟩) hHeld ?_ ?_
            rotate_left
            · rintro w' ⟨s0, s1, s2, s3, s4, s5, s6, s7, s8, s9, s10, s11, s12, s13, s14, s15, s16, s17, s18, s19, s20, s21, s22, s23, s24, s25, s26, s27, s28, s29, s30, s31, s32⟩
              go_simp
              with_reducible rfl
            rotate_left
            · simp only [Act.put, List.setIfInBounds_toArray, List.set_cons_zero, List.set_cons_succ, i64_w, i32_w]
              rfl
            refine one_ (i := 17) (N := some 38) #[true, true, true, true, true, true, true, true, true, true, true, true, true, true, true, true, true, true, true, false, false, false] rfl rfl (one_of HT_.out (by kernel_rfl)) (by decide) (fun K hK => ?_)
            refine goes_ Try.func14 (by kernel_rfl) rfl #[.agg #[.int .i64 a0_0, .int .i64 a0_1, .int .i64 a0_2, .int .i64 a0_3, .int .i64 a0_4, .int .i64 a0_5, .int .i64 a0_6, .int .i64 a0_7, .int .i64 a0_8, .int .i64 a0_9, .int .i64 a0_10]] (by rfl) rfl rfl (by (try simp only [List.map_toArray, List.map_cons, List.map_nil]); first | done | rfl | (simp only [List.length_drop, List.length_take]; rfl)) ?_
            with_reducible refine (saga_End.calls a0_0 a0_1 a0_2 a0_3 a0_4 a0_5 a0_6 a0_7 a0_8 a0_9 a0_10 t280 t281 t282 t283 t284 t285 t286 t287 t288 t289 t290 _ A47.out).mono ?_
            rintro e w56 ⟨rfl, hb⟩
            refine ⟨_, rfl, ?_⟩
            have n0_ := Aside0.mk (blk_below (g := gb243) (o := .cells #[.int .i64 a0_0, .int .i64 a0_1, .int .i64 a0_2, .int .i64 a0_3, .int .i64 a0_4, .int .i64 a0_5, .int .i64 a0_6, .int .i64 a0_7, .int .i64 a0_8, .int .i64 a0_9, .int .i64 a0_10] 30 (0, 0)) (by (with_reducible repeat (first | refine blk_drewN ?_ _ | refine blk_drew ?_ | refine blk_alloc ?_ _)); exact BK243.out) hb)
            have n1_ := Aside0.mk (blk_below (g := gb245) (o := .cells #[.int .i64 a0_0, .int .i64 a0_1, .int .i64 a0_2, .int .i64 a0_3, .int .i64 a0_4, .int .i64 a0_5, .int .i64 a0_6, .int .i64 x246007_5, .int .i64 a0_8, .int .i64 a0_9, .int .i64 x246010_5] 30 (0, 0)) (by (with_reducible repeat (first | refine blk_drewN ?_ _ | refine blk_drew ?_ | refine blk_alloc ?_ _)); exact BK245.out) hb)
            have n2_ := Aside0.mk (blk_below (g := gb246) (o := .cells #[.int .i64 a0_0, .int .i64 a0_1, .int .i64 a0_2, .int .i64 a0_3, .int .i64 a0_4, .int .i64 a0_5, .int .i64 a0_6, .int .i64 2, .int .i64 a0_8, .int .i64 a0_9, .int .i64 a0_10] 30 (0, 0)) (by (with_reducible repeat (first | refine blk_drewN ?_ _ | refine blk_drew ?_ | refine blk_alloc ?_ _)); exact BK246.out) hb)
            have n3_ := Aside0.mk (below_step (by repeat (first | (with_reducible first | exact HB.out | apply below_alloc | apply pw_below_drewN | apply below_drew1 | refine below_set ?_ GE243.out | refine below_set ?_ GE245.out | refine below_set ?_ GE246.out) | exact HB.out)) hb)
            clear BK243
            clear BK245
            clear BK246
            clear HB
            have BK243 := n0_
            have BK245 := n1_
            have BK246 := n2_
            have HB := n3_
            clear n0_ n1_ n2_ n3_
            (try clear hb)
            (try clear hb2)
            (try clear hk)
            (try clear hi)
            refine hK.out _ _ ⟨(blk_cell BK243.out 0).trans rfl, (blk_cell BK243.out 1).trans rfl, (blk_cell BK243.out 2).trans rfl, (blk_cell BK243.out 3).trans rfl, (blk_cell BK243.out 4).trans rfl, (blk_cell BK243.out 5).trans rfl, (blk_cell BK243.out 6).trans rfl, (blk_cell BK243.out 7).trans rfl, (blk_cell BK243.out 8).trans rfl, (blk_cell BK243.out 9).trans rfl, (blk_cell BK243.out 10).trans rfl, (blk_cell BK245.out 0).trans rfl, (blk_cell BK245.out 1).trans rfl, (blk_cell BK245.out 2).trans rfl, (blk_cell BK245.out 3).trans rfl, (blk_cell BK245.out 4).trans rfl, (blk_cell BK245.out 5).trans rfl, (blk_cell BK245.out 6).trans rfl, (blk_cell BK245.out 7).trans rfl, (blk_cell BK245.out 8).trans rfl, (blk_cell BK245.out 9).trans rfl, (blk_cell BK245.out 10).trans rfl, (blk_cell BK246.out 0).trans rfl, (blk_cell BK246.out 1).trans rfl, (blk_cell BK246.out 2).trans rfl, (blk_cell BK246.out 3).trans rfl, (blk_cell BK246.out 4).trans rfl, (blk_cell BK246.out 5).trans rfl, (blk_cell BK246.out 6).trans rfl, (blk_cell BK246.out 7).trans rfl, (blk_cell BK246.out 8).trans rfl, (blk_cell BK246.out 9).trans rfl, (blk_cell BK246.out 10).trans rfl⟩ (fun hHeld => ?_)
            clear hK K
            refine norm_ (a' := ?_) ?_ ?_
            rotate_left
            · show Act.put _ (some 38) _ = _
              simp only [Act.put, List.setIfInBounds_toArray, List.set_cons_zero, List.set_cons_succ, i64_w, i32_w]
              rfl
            refine pure_ (i := 19) (N := some 40) (v := ?_) (a' := ?_) #[true, true, true, true, true, true, true, true, true, true, true, true, true, true, true, true, true, true, true, true, false, false] rfl rfl (any_of HT_.out (by kernel_rfl)) (fun _ _ _ h => h) (Or.inl ⟨by rfl, ?_⟩) ?_ ?_
            rotate_left
            · intro w'
              go_simp
              with_reducible rfl
            rotate_left
            · simp only [Act.put, List.setIfInBounds_toArray, List.set_cons_zero, List.set_cons_succ, i64_w, i32_w]
              rfl
            refine pure_ (i := 20) (N := some 41) (v := ?_) (a' := ?_) #[true, true, true, true, true, true, true, true, true, true, true, true, true, true, true, true, true, true, true, true, true, false] rfl rfl (any_of HT_.out (by kernel_rfl)) (fun _ _ _ h => h) (Or.inl ⟨by rfl, ?_⟩) ?_ ?_
            rotate_left
            · intro w'
              go_simp
              with_reducible rfl
            rotate_left
            · simp only [Act.put, List.setIfInBounds_toArray, List.set_cons_zero, List.set_cons_succ, i64_w, i32_w]
              rfl
            refine pure_ (i := 21) (N := some 6) (v := ?_) (a' := ?_) #[true, true, true, true, true, true, true, true, true, true, true, true, true, true, true, true, true, true, true, true, true, true] rfl rfl (any_of HT_.out (by kernel_rfl)) (fun _ _ _ h => h) (Or.inl ⟨by rfl, ?_⟩) ?_ ?_
            rotate_left
            · intro w'
              go_simp
              with_reducible rfl
            rotate_left
            · simp only [Act.put, List.setIfInBounds_toArray, List.set_cons_zero, List.set_cons_succ, i64_w, i32_w]
              rfl
            refine done_ (done_of HT_.out (by kernel_rfl)) ?_
            try go_wp2
            go_ret
            exact ⟨by first | rfl | (simp [errW_none, errW_some] <;> rfl) | (simp [*, errW_none, errW_some] <;> rfl), by repeat (first | (with_reducible first | exact HB.out | apply below_alloc | apply pw_below_drewN | apply below_drew1 | refine below_set ?_ GE243.out | refine below_set ?_ GE245.out | refine below_set ?_ GE246.out) | exact HB.out)⟩
          · rw [if_neg c46] at H
            have c46b0 : ((t269 == a0_0 && (t270 == a0_1 && (t271 == a0_2 && (t272 == a0_3 && (t273 == a0_4 && (t274 == a0_5 && (t275 == a0_6))))))) && (t276 == x246007_5 && (t277 == a0_8 && (t278 == a0_9 && (t279 == x246010_5))))) = false := by simpa using c46
            clear c46
            obtain rfl := Option.some.inj H
            have hnb57 := NB246_243.out
            have hnc57 := NB243_246.out
            have hnb58 := NB246_245.out
            have hnc58 := NB245_246.out
            have hcz59_0 : wc.cell? ⟨gb246, 0, none⟩ = some (.int .i64 a0_0) := (blk_cell BK246.out 0).trans rfl
            have hcz59_1 : wc.cell? ⟨gb246, 1, none⟩ = some (.int .i64 a0_1) := (blk_cell BK246.out 1).trans rfl
            have hcz59_2 : wc.cell? ⟨gb246, 2, none⟩ = some (.int .i64 a0_2) := (blk_cell BK246.out 2).trans rfl
            have hcz59_3 : wc.cell? ⟨gb246, 3, none⟩ = some (.int .i64 a0_3) := (blk_cell BK246.out 3).trans rfl
            have hcz59_4 : wc.cell? ⟨gb246, 4, none⟩ = some (.int .i64 a0_4) := (blk_cell BK246.out 4).trans rfl
            have hcz59_5 : wc.cell? ⟨gb246, 5, none⟩ = some (.int .i64 a0_5) := (blk_cell BK246.out 5).trans rfl
            have hcz59_6 : wc.cell? ⟨gb246, 6, none⟩ = some (.int .i64 a0_6) := (blk_cell BK246.out 6).trans rfl
            have hcz59_7 : wc.cell? ⟨gb246, 7, none⟩ = some (.int .i64 a0_7) := (blk_cell BK246.out 7).trans rfl
            have hcz59_8 : wc.cell? ⟨gb246, 8, none⟩ = some (.int .i64 a0_8) := (blk_cell BK246.out 8).trans rfl
            have hcz59_9 : wc.cell? ⟨gb246, 9, none⟩ = some (.int .i64 a0_9) := (blk_cell BK246.out 9).trans rfl
            have hcz59_10 : wc.cell? ⟨gb246, 10, none⟩ = some (.int .i64 a0_10) := (blk_cell BK246.out 10).trans rfl
            have hfz59_0 := blk_frozen BK246.out 0
            have hfz59_1 := blk_frozen BK246.out 1
            have hfz59_2 := blk_frozen BK246.out 2
            have hfz59_3 := blk_frozen BK246.out 3
            have hfz59_4 := blk_frozen BK246.out 4
            have hfz59_5 := blk_frozen BK246.out 5
            have hfz59_6 := blk_frozen BK246.out 6
            have hfz59_7 := blk_frozen BK246.out 7
            have hfz59_8 := blk_frozen BK246.out 8
            have hfz59_9 := blk_frozen BK246.out 9
            have hfz59_10 := blk_frozen BK246.out 10
            try go_wp2
            have n0_ : Aside0 ((wc.setCell ⟨gb246, 7, none⟩ (.int .i64 2)).heap[gb243]? = some (.cells #[.int .i64 a0_0, .int .i64 a0_1, .int .i64 a0_2, .int .i64 a0_3, .int .i64 a0_4, .int .i64 a0_5, .int .i64 a0_6, .int .i64 a0_7, .int .i64 a0_8, .int .i64 a0_9, .int .i64 a0_10] 30 (0, 0))) := ⟨by (with_reducible repeat (first | refine blk_drewN ?_ _ | refine blk_drew ?_ | refine blk_alloc ?_ _)); refine blk_far ?_ NB243_246.out _; (with_reducible repeat (first | refine blk_drewN ?_ _ | refine blk_drew ?_ | refine blk_alloc ?_ _)); exact BK243.out⟩
            have n1_ : Aside0 ((wc.setCell ⟨gb246, 7, none⟩ (.int .i64 2)).heap[gb245]? = some (.cells #[.int .i64 a0_0, .int .i64 a0_1, .int .i64 a0_2, .int .i64 a0_3, .int .i64 a0_4, .int .i64 a0_5, .int .i64 a0_6, .int .i64 x246007_5, .int .i64 a0_8, .int .i64 a0_9, .int .i64 x246010_5] 30 (0, 0))) := ⟨by (with_reducible repeat (first | refine blk_drewN ?_ _ | refine blk_drew ?_ | refine blk_alloc ?_ _)); refine blk_far ?_ NB245_246.out _; (with_reducible repeat (first | refine blk_drewN ?_ _ | refine blk_drew ?_ | refine blk_alloc ?_ _)); exact BK245.out⟩
            have n2_ : Aside0 ((wc.setCell ⟨gb246, 7, none⟩ (.int .i64 2)).heap[gb246]? = some (.cells #[.int .i64 a0_0, .int .i64 a0_1, .int .i64 a0_2, .int .i64 a0_3, .int .i64 a0_4, .int .i64 a0_5, .int .i64 a0_6, .int .i64 2, .int .i64 a0_8, .int .i64 a0_9, .int .i64 a0_10] 30 (0, 0))) := ⟨by (with_reducible repeat (first | refine blk_drewN ?_ _ | refine blk_drew ?_ | refine blk_alloc ?_ _)); refine blk_put (cs := #[.int .i64 a0_0, .int .i64 a0_1, .int .i64 a0_2, .int .i64 a0_3, .int .i64 a0_4, .int .i64 a0_5, .int .i64 a0_6, .int .i64 a0_7, .int .i64 a0_8, .int .i64 a0_9, .int .i64 a0_10]) ?_ 7 _ rfl; (with_reducible repeat (first | refine blk_drewN ?_ _ | refine blk_drew ?_ | refine blk_alloc ?_ _)); exact BK246.out⟩
            have n3_ : Aside0 (Below w.heap.size w (wc.setCell ⟨gb246, 7, none⟩ (.int .i64 2))) := ⟨by repeat (first | (with_reducible first | exact HB.out | apply below_alloc | apply pw_below_drewN | apply below_drew1 | refine below_set ?_ GE243.out | refine below_set ?_ GE245.out | refine below_set ?_ GE246.out) | exact HB.out)⟩
            (try clear BK243)
            (try clear BK245)
            (try clear BK246)
            (try clear HB)
            generalize (wc.setCell ⟨gb246, 7, none⟩ (.int .i64 2)) = w60 at n0_ n1_ n2_ n3_ ⊢
            have BK243 := n0_
            have BK245 := n1_
            have BK246 := n2_
            have HB := n3_
            clear n0_ n1_ n2_ n3_
            have n0_ := Aside0.mk (blk_drew BK243.out)
            have n1_ := Aside0.mk (blk_drew BK245.out)
            have n2_ := Aside0.mk (blk_drew BK246.out)
            have n3_ := Aside0.mk (below_drew1 HB.out)
            clear BK243
            clear BK245
            clear BK246
            clear HB
            have BK243 := n0_
            have BK245 := n1_
            have BK246 := n2_
            have HB := n3_
            clear n0_ n1_ n2_ n3_
            refine start_ (n := 22) (S := fun w' => w'.cell? ⟨gb243, 0, none⟩ = some (.int .i64 a0_0) ∧ w'.cell? ⟨gb243, 1, none⟩ = some (.int .i64 a0_1) ∧ w'.cell? ⟨gb243, 2, none⟩ = some (.int .i64 a0_2) ∧ w'.cell? ⟨gb243, 3, none⟩ = some (.int .i64 a0_3) ∧ w'.cell? ⟨gb243, 4, none⟩ = some (.int .i64 a0_4) ∧ w'.cell? ⟨gb243, 5, none⟩ = some (.int .i64 a0_5) ∧ w'.cell? ⟨gb243, 6, none⟩ = some (.int .i64 a0_6) ∧ w'.cell? ⟨gb243, 7, none⟩ = some (.int .i64 a0_7) ∧ w'.cell? ⟨gb243, 8, none⟩ = some (.int .i64 a0_8) ∧ w'.cell? ⟨gb243, 9, none⟩ = some (.int .i64 a0_9) ∧ w'.cell? ⟨gb243, 10, none⟩ = some (.int .i64 a0_10) ∧ w'.cell? ⟨gb245, 0, none⟩ = some (.int .i64 a0_0) ∧ w'.cell? ⟨gb245, 1, none⟩ = some (.int .i64 a0_1) ∧ w'.cell? ⟨gb245, 2, none⟩ = some (.int .i64 a0_2) ∧ w'.cell? ⟨gb245, 3, none⟩ = some (.int .i64 a0_3) ∧ w'.cell? ⟨gb245, 4, none⟩ = some (.int .i64 a0_4) ∧ w'.cell? ⟨gb245, 5, none⟩ = some (.int .i64 a0_5) ∧ w'.cell? ⟨gb245, 6, none⟩ = some (.int .i64 a0_6) ∧ w'.cell? ⟨gb245, 7, none⟩ = some (.int .i64 x246007_5) ∧ w'.cell? ⟨gb245, 8, none⟩ = some (.int .i64 a0_8) ∧ w'.cell? ⟨gb245, 9, none⟩ = some (.int .i64 a0_9) ∧ w'.cell? ⟨gb245, 10, none⟩ = some (.int .i64 x246010_5)) (ds := []) #[false, false, false, false, false, false, false, false, false, false, false, false, false, false, false, false, false, false, false, false, false, false] (by kernel_rfl) rfl rfl ⟨(blk_cell BK243.out 0).trans rfl, (blk_cell BK243.out 1).trans rfl, (blk_cell BK243.out 2).trans rfl, (blk_cell BK243.out 3).trans rfl, (blk_cell BK243.out 4).trans rfl, (blk_cell BK243.out 5).trans rfl, (blk_cell BK243.out 6).trans rfl, (blk_cell BK243.out 7).trans rfl, (blk_cell BK243.out 8).trans rfl, (blk_cell BK243.out 9).trans rfl, (blk_cell BK243.out 10).trans rfl, (blk_cell BK245.out 0).trans rfl, (blk_cell BK245.out 1).trans rfl, (blk_cell BK245.out 2).trans rfl, (blk_cell BK245.out 3).trans rfl, (blk_cell BK245.out 4).trans rfl, (blk_cell BK245.out 5).trans rfl, (blk_cell BK245.out 6).trans rfl, (blk_cell BK245.out 7).trans rfl, (blk_cell BK245.out 8).trans rfl, (blk_cell BK245.out 9).trans rfl, (blk_cell BK245.out 10).trans rfl⟩ (fun hHeld => ?_); refine with_tabW hawalalaw14_SagaAny.tab7 hawalalaw14_SagaAny.bits7 (fun HT_ HW_ => ?_)
            generalize w60.drew = w61 at BK243 BK245 BK246 HB hHeld ⊢
            refine pure_ (i := 1) (N := some 22) (v := ?_) (a' := ?_) #[false, true, false, false, false, false, false, false, false, false, false, false, false, false, false, false, false, false, false, false, false, false] rfl rfl (any_of HT_.out (by kernel_rfl)) (fun _ _ _ h => h) (Or.inl ⟨by rfl, ?_⟩) ?_ ?_
            rotate_left
            · intro w'
              go_simp
              with_reducible rfl
            rotate_left
            · simp only [Act.put, List.setIfInBounds_toArray, List.set_cons_zero, List.set_cons_succ, i64_w, i32_w]
              rfl
            refine pure_ (i := 4) (N := some 25) (v := ?_) (a' := ?_) #[false, true, false, false, true, false, false, false, false, false, false, false, false, false, false, false, false, false, false, false, false, false] rfl rfl (any_of HT_.out (by kernel_rfl)) (fun _ _ _ h => h) (Or.inl ⟨by rfl, ?_⟩) ?_ ?_
            rotate_left
            · intro w'
              go_simp
              with_reducible rfl
            rotate_left
            · simp only [Act.put, List.setIfInBounds_toArray, List.set_cons_zero, List.set_cons_succ, i64_w, i32_w]
              rfl
            refine take_ (i := 0) (N := some 21) (v := ?_) (a' := ?_) #[true, true, false, false, true, false, false, false, false, false, false, false, false, false, false, false, false, false, false, false, false, false] rfl rfl (take_ofW HT_.out HW_.out (by kernel_rfl)) (fun _ _ _ h => h) (Or.inl ⟨by rfl, ?_⟩) hHeld ?_ ?_
            rotate_left
            · rintro w' ⟨s0, s1, s2, s3, s4, s5, s6, s7, s8, s9, s10, s11, s12, s13, s14, s15, s16, s17, s18, s19, s20, s21⟩
              go_simp
              with_reducible rfl
            rotate_left
            · simp only [Act.put, List.setIfInBounds_toArray, List.set_cons_zero, List.set_cons_succ, i64_w, i32_w]
              rfl
            refine take_ (i := 3) (N := some 24) (v := ?_) (a' := ?_) #[true, true, false, true, true, false, false, false, false, false, false, false, false, false, false, false, false, false, false, false, false, false] rfl rfl (take_ofW HT_.out HW_.out (by kernel_rfl)) (fun _ _ _ h => h) (Or.inl ⟨by rfl, ?_⟩) hHeld ?_ ?_
            rotate_left
            · rintro w' ⟨s0, s1, s2, s3, s4, s5, s6, s7, s8, s9, s10, s11, s12, s13, s14, s15, s16, s17, s18, s19, s20, s21⟩
              go_simp
              with_reducible rfl
            rotate_left
            · simp only [Act.put, List.setIfInBounds_toArray, List.set_cons_zero, List.set_cons_succ, i64_w, i32_w]
              rfl
            refine one_ (i := 2) (N := some 23) #[true, true, true, true, true, false, false, false, false, false, false, false, false, false, false, false, false, false, false, false, false, false] rfl rfl (one_of HT_.out (by kernel_rfl)) (by decide) (fun K hK => ?_)
            refine goes_ Try.func10 (by kernel_rfl) rfl #[.agg #[.int .i64 a0_0, .int .i64 a0_1, .int .i64 a0_2, .int .i64 a0_3, .int .i64 a0_4, .int .i64 a0_5, .int .i64 a0_6, .int .i64 a0_7, .int .i64 a0_8, .int .i64 a0_9, .int .i64 a0_10], .bool a1] (by rfl) rfl rfl (by (try simp only [List.map_toArray, List.map_cons, List.map_nil]); first | done | rfl | (simp only [List.length_drop, List.length_take]; rfl)) ?_
            with_reducible refine (saga_Leg.calls kj5 a0_0 a0_1 a0_2 a0_3 a0_4 a0_5 a0_6 a0_7 a0_8 a0_9 a0_10 a1 t247 t248 t249 t250 t251 t252 t253 t254 t255 t256 t257 _ A42.out).mono ?_
            rintro e w62 ⟨rfl, hb⟩
            refine ⟨_, rfl, ?_⟩
            have n0_ := Aside0.mk (blk_below (g := gb243) (o := .cells #[.int .i64 a0_0, .int .i64 a0_1, .int .i64 a0_2, .int .i64 a0_3, .int .i64 a0_4, .int .i64 a0_5, .int .i64 a0_6, .int .i64 a0_7, .int .i64 a0_8, .int .i64 a0_9, .int .i64 a0_10] 30 (0, 0)) (by (with_reducible repeat (first | refine blk_drewN ?_ _ | refine blk_drew ?_ | refine blk_alloc ?_ _)); exact BK243.out) hb)
            have n1_ := Aside0.mk (blk_below (g := gb245) (o := .cells #[.int .i64 a0_0, .int .i64 a0_1, .int .i64 a0_2, .int .i64 a0_3, .int .i64 a0_4, .int .i64 a0_5, .int .i64 a0_6, .int .i64 x246007_5, .int .i64 a0_8, .int .i64 a0_9, .int .i64 x246010_5] 30 (0, 0)) (by (with_reducible repeat (first | refine blk_drewN ?_ _ | refine blk_drew ?_ | refine blk_alloc ?_ _)); exact BK245.out) hb)
            have n2_ := Aside0.mk (blk_below (g := gb246) (o := .cells #[.int .i64 a0_0, .int .i64 a0_1, .int .i64 a0_2, .int .i64 a0_3, .int .i64 a0_4, .int .i64 a0_5, .int .i64 a0_6, .int .i64 2, .int .i64 a0_8, .int .i64 a0_9, .int .i64 a0_10] 30 (0, 0)) (by (with_reducible repeat (first | refine blk_drewN ?_ _ | refine blk_drew ?_ | refine blk_alloc ?_ _)); exact BK246.out) hb)
            have n3_ := Aside0.mk (below_step (by repeat (first | (with_reducible first | exact HB.out | apply below_alloc | apply pw_below_drewN | apply below_drew1 | refine below_set ?_ GE243.out | refine below_set ?_ GE245.out | refine below_set ?_ GE246.out) | exact HB.out)) hb)
            clear BK243
            clear BK245
            clear BK246
            clear HB
            have BK243 := n0_
            have BK245 := n1_
            have BK246 := n2_
            have HB := n3_
            clear n0_ n1_ n2_ n3_
            (try clear hb)
            (try clear hb2)
            (try clear hk)
            (try clear hi)
            refine hK.out _ _ ⟨(blk_cell BK243.out 0).trans rfl, (blk_cell BK243.out 1).trans rfl, (blk_cell BK243.out 2).trans rfl, (blk_cell BK243.out 3).trans rfl, (blk_cell BK243.out 4).trans rfl, (blk_cell BK243.out 5).trans rfl, (blk_cell BK243.out 6).trans rfl, (blk_cell BK243.out 7).trans rfl, (blk_cell BK243.out 8).trans rfl, (blk_cell BK243.out 9).trans rfl, (blk_cell BK243.out 10).trans rfl, (blk_cell BK245.out 0).trans rfl, (blk_cell BK245.out 1).trans rfl, (blk_cell BK245.out 2).trans rfl, (blk_cell BK245.out 3).trans rfl, (blk_cell BK245.out 4).trans rfl, (blk_cell BK245.out 5).trans rfl, (blk_cell BK245.out 6).trans rfl, (blk_cell BK245.out 7).trans rfl, (blk_cell BK245.out 8).trans rfl, (blk_cell BK245.out 9).trans rfl, (blk_cell BK245.out 10).trans rfl⟩ (fun hHeld => ?_)
            clear hK K
            refine norm_ (a' := ?_) ?_ ?_
            rotate_left
            · show Act.put _ (some 23) _ = _
              simp only [Act.put, List.setIfInBounds_toArray, List.set_cons_zero, List.set_cons_succ, i64_w, i32_w]
              rfl
            refine one_ (i := 5) (N := some 26) #[true, true, true, true, true, true, false, false, false, false, false, false, false, false, false, false, false, false, false, false, false, false] rfl rfl (one_of HT_.out (by kernel_rfl)) (by decide) (fun K hK => ?_)
            refine goes_ Try.func11 (by kernel_rfl) rfl #[.agg #[.int .i64 a0_0, .int .i64 a0_1, .int .i64 a0_2, .int .i64 a0_3, .int .i64 a0_4, .int .i64 a0_5, .int .i64 a0_6, .int .i64 a0_7, .int .i64 a0_8, .int .i64 a0_9, .int .i64 a0_10], .bool a1] (by rfl) rfl rfl (by (try simp only [List.map_toArray, List.map_cons, List.map_nil]); first | done | rfl | (simp only [List.length_drop, List.length_take]; rfl)) ?_
            with_reducible refine (hawalalaw14_leg.calls kj5 a0_0 a0_1 a0_2 a0_3 a0_4 a0_5 a0_6 a0_7 a0_8 a0_9 a0_10 a1 t258 t259 t260 t261 t262 t263 t264 t265 t266 t267 t268 _ A43.out).mono ?_
            rintro e w63 ⟨rfl, hb⟩
            refine ⟨_, rfl, ?_⟩
            have n0_ := Aside0.mk (blk_below (g := gb243) (o := .cells #[.int .i64 a0_0, .int .i64 a0_1, .int .i64 a0_2, .int .i64 a0_3, .int .i64 a0_4, .int .i64 a0_5, .int .i64 a0_6, .int .i64 a0_7, .int .i64 a0_8, .int .i64 a0_9, .int .i64 a0_10] 30 (0, 0)) (by (with_reducible repeat (first | refine blk_drewN ?_ _ | refine blk_drew ?_ | refine blk_alloc ?_ _)); exact BK243.out) hb)
            have n1_ := Aside0.mk (blk_below (g := gb245) (o := .cells #[.int .i64 a0_0, .int .i64 a0_1, .int .i64 a0_2, .int .i64 a0_3, .int .i64 a0_4, .int .i64 a0_5, .int .i64 a0_6, .int .i64 x246007_5, .int .i64 a0_8, .int .i64 a0_9, .int .i64 x246010_5] 30 (0, 0)) (by (with_reducible repeat (first | refine blk_drewN ?_ _ | refine blk_drew ?_ | refine blk_alloc ?_ _)); exact BK245.out) hb)
            have n2_ := Aside0.mk (blk_below (g := gb246) (o := .cells #[.int .i64 a0_0, .int .i64 a0_1, .int .i64 a0_2, .int .i64 a0_3, .int .i64 a0_4, .int .i64 a0_5, .int .i64 a0_6, .int .i64 2, .int .i64 a0_8, .int .i64 a0_9, .int .i64 a0_10] 30 (0, 0)) (by (with_reducible repeat (first | refine blk_drewN ?_ _ | refine blk_drew ?_ | refine blk_alloc ?_ _)); exact BK246.out) hb)
            have n3_ := Aside0.mk (below_step (by repeat (first | (with_reducible first | exact HB.out | apply below_alloc | apply pw_below_drewN | apply below_drew1 | refine below_set ?_ GE243.out | refine below_set ?_ GE245.out | refine below_set ?_ GE246.out) | exact HB.out)) hb)
            clear BK243
            clear BK245
            clear BK246
            clear HB
            have BK243 := n0_
            have BK245 := n1_
            have BK246 := n2_
            have HB := n3_
            clear n0_ n1_ n2_ n3_
            (try clear hb)
            (try clear hb2)
            (try clear hk)
            (try clear hi)
            refine hK.out _ _ ⟨(blk_cell BK243.out 0).trans rfl, (blk_cell BK243.out 1).trans rfl, (blk_cell BK243.out 2).trans rfl, (blk_cell BK243.out 3).trans rfl, (blk_cell BK243.out 4).trans rfl, (blk_cell BK243.out 5).trans rfl, (blk_cell BK243.out 6).trans rfl, (blk_cell BK243.out 7).trans rfl, (blk_cell BK243.out 8).trans rfl, (blk_cell BK243.out 9).trans rfl, (blk_cell BK243.out 10).trans rfl, (blk_cell BK245.out 0).trans rfl, (blk_cell BK245.out 1).trans rfl, (blk_cell BK245.out 2).trans rfl, (blk_cell BK245.out 3).trans rfl, (blk_cell BK245.out 4).trans rfl, (blk_cell BK245.out 5).trans rfl, (blk_cell BK245.out 6).trans rfl, (blk_cell BK245.out 7).trans rfl, (blk_cell BK245.out 8).trans rfl, (blk_cell BK245.out 9).trans rfl, (blk_cell BK245.out 10).trans rfl⟩ (fun hHeld => ?_)
            clear hK K
            refine norm_ (a' := ?_) ?_ ?_
            rotate_left
            · show Act.put _ (some 26) _ = _
              simp only [Act.put, List.setIfInBounds_toArray, List.set_cons_zero, List.set_cons_succ, i64_w, i32_w]
              rfl
            refine pure_ (i := 6) (N := some 27) (v := ?_) (a' := ?_) #[true, true, true, true, true, true, true, false, false, false, false, false, false, false, false, false, false, false, false, false, false, false] rfl rfl (any_of HT_.out (by kernel_rfl)) (fun _ _ _ h => h) (Or.inl ⟨by rfl, ?_⟩) ?_ ?_
            rotate_left
            · intro w'
              go_simp
              with_reducible rfl
            rotate_left
            · simp only [Act.put, List.setIfInBounds_toArray, List.set_cons_zero, List.set_cons_succ, i64_w, i32_w]
              rfl
            refine pure_ (i := 7) (N := some 28) (v := ?_) (a' := ?_) #[true, true, true, true, true, true, true, true, false, false, false, false, false, false, false, false, false, false, false, false, false, false] rfl rfl (any_of HT_.out (by kernel_rfl)) (fun _ _ _ h => h) (Or.inl ⟨by rfl, ?_⟩) ?_ ?_
            rotate_left
            · intro w'
              go_simp
              with_reducible rfl
            rotate_left
            · simp only [Act.put, List.setIfInBounds_toArray, List.set_cons_zero, List.set_cons_succ, i64_w, i32_w]
              rfl
            refine pure_ (i := 9) (N := some 30) (v := ?_) (a' := ?_) #[true, true, true, true, true, true, true, true, false, true, false, false, false, false, false, false, false, false, false, false, false, false] rfl rfl (any_of HT_.out (by kernel_rfl)) (fun _ _ _ h => h) (Or.inl ⟨by rfl, ?_⟩) ?_ ?_
            rotate_left
            · intro w'
              go_simp
              with_reducible rfl
            rotate_left
            · simp only [Act.put, List.setIfInBounds_toArray, List.set_cons_zero, List.set_cons_succ, i64_w, i32_w]
              rfl
            refine pure_ (i := 10) (N := some 31) (v := ?_) (a' := ?_) #[true, true, true, true, true, true, true, true, false, true, true, false, false, false, false, false, false, false, false, false, false, false] rfl rfl (any_of HT_.out (by kernel_rfl)) (fun _ _ _ h => h) (Or.inl ⟨by rfl, ?_⟩) ?_ ?_
            rotate_left
            · intro w'
              go_simp
              with_reducible rfl
            rotate_left
            · simp only [Act.put, List.setIfInBounds_toArray, List.set_cons_zero, List.set_cons_succ, i64_w, i32_w]
              rfl
            refine take_ (i := 8) (N := some 29) (v := ?_) (a' := ?_) #[true, true, true, true, true, true, true, true, true, true, true, false, false, false, false, false, false, false, false, false, false, false] rfl rfl (take_ofW HT_.out HW_.out (by kernel_rfl)) (fun _ _ _ h => h) (Or.inl ⟨by rfl, ?_⟩) hHeld ?_ ?_
            rotate_left
            · rintro w' ⟨s0, s1, s2, s3, s4, s5, s6, s7, s8, s9, s10, s11, s12, s13, s14, s15, s16, s17, s18, s19, s20, s21⟩
              go_simp
              with_reducible rfl
            rotate_left
            · simp only [Act.put, List.setIfInBounds_toArray, List.set_cons_zero, List.set_cons_succ, i64_w, i32_w]
              rfl
            refine take_ (i := 12) (N := some 33) (v := ?_) (a' := ?_) #[true, true, true, true, true, true, true, true, true, true, true, false, true, false, false, false, false, false, false, false, false, false] rfl rfl (take_ofW HT_.out HW_.out (by kernel_rfl)) (fun _ _ _ h => h) (Or.inl ⟨by rfl, ?_⟩) hHeld ?_ ?_
            rotate_left
            · rintro w' ⟨s0, s1, s2, s3, s4, s5, s6, s7, s8, s9, s10, s11, s12, s13, s14, s15, s16, s17, s18, s19, s20, s21⟩
              go_simp
              with_reducible rfl
            rotate_left
            · simp only [Act.put, List.setIfInBounds_toArray, List.set_cons_zero, List.set_cons_succ, i64_w, i32_w]
              rfl
            refine one_ (i := 11) (N := some 32) #[true, true, true, true, true, true, true, true, true, true, true, true, true, false, false, false, false, false, false, false, false, false] rfl rfl (one_of HT_.out (by kernel_rfl)) (by decide) (fun K hK => ?_)
            refine goes_ Try.func13 (by kernel_rfl) rfl #[.agg #[.int .i64 a0_0, .int .i64 a0_1, .int .i64 a0_2, .int .i64 a0_3, .int .i64 a0_4, .int .i64 a0_5, .int .i64 a0_6, .int .i64 a0_7, .int .i64 a0_8, .int .i64 a0_9, .int .i64 a0_10], .int .i64 (wrap64 (a2))] (by rfl) rfl rfl (by (try simp only [List.map_toArray, List.map_cons, List.map_nil]); first | done | rfl | (simp only [List.length_drop, List.length_take]; rfl)) ?_
            with_reducible refine (saga_Turn.calls a0_0 a0_1 a0_2 a0_3 a0_4 a0_5 a0_6 a0_7 a0_8 a0_9 a0_10 (wrap64 (a2)) t269 t270 t271 t272 t273 t274 t275 t276 t277 t278 t279 _ A45.out).mono ?_
            rintro e w64 ⟨rfl, hb⟩
            refine ⟨_, rfl, ?_⟩
            have n0_ := Aside0.mk (blk_below (g := gb243) (o := .cells #[.int .i64 a0_0, .int .i64 a0_1, .int .i64 a0_2, .int .i64 a0_3, .int .i64 a0_4, .int .i64 a0_5, .int .i64 a0_6, .int .i64 a0_7, .int .i64 a0_8, .int .i64 a0_9, .int .i64 a0_10] 30 (0, 0)) (by (with_reducible repeat (first | refine blk_drewN ?_ _ | refine blk_drew ?_ | refine blk_alloc ?_ _)); exact BK243.out) hb)
            have n1_ := Aside0.mk (blk_below (g := gb245) (o := .cells #[.int .i64 a0_0, .int .i64 a0_1, .int .i64 a0_2, .int .i64 a0_3, .int .i64 a0_4, .int .i64 a0_5, .int .i64 a0_6, .int .i64 x246007_5, .int .i64 a0_8, .int .i64 a0_9, .int .i64 x246010_5] 30 (0, 0)) (by (with_reducible repeat (first | refine blk_drewN ?_ _ | refine blk_drew ?_ | refine blk_alloc ?_ _)); exact BK245.out) hb)
            have n2_ := Aside0.mk (blk_below (g := gb246) (o := .cells #[.int .i64 a0_0, .int .i64 a0_1, .int .i64 a0_2, .int .i64 a0_3, .int .i64 a0_4, .int .i64 a0_5, .int .i64 a0_6, .int .i64 2, .int .i64 a0_8, .int .i64 a0_9, .int .i64 a0_10] 30 (0, 0)) (by (with_reducible repeat (first | refine blk_drewN ?_ _ | refine blk_drew ?_ | refine blk_alloc ?_ _)); exact BK246.out) hb)
            have n3_ := Aside0.mk (below_step (by repeat (first | (with_reducible first | exact HB.out | apply below_alloc | apply pw_below_drewN | apply below_drew1 | refine below_set ?_ GE243.out | refine below_set ?_ GE245.out | refine below_set ?_ GE246.out) | exact HB.out)) hb)
            clear BK243
            clear BK245
            clear BK246
            clear HB
            have BK243 := n0_
            have BK245 := n1_
            have BK246 := n2_
            have HB := n3_
            clear n0_ n1_ n2_ n3_
            (try clear hb)
            (try clear hb2)
            (try clear hk)
            (try clear hi)
            refine hK.out _ _ ⟨(blk_cell BK243.out 0).trans rfl, (blk_cell BK243.out 1).trans rfl, (blk_cell BK243.out 2).trans rfl, (blk_cell BK243.out 3).trans rfl, (blk_cell BK243.out 4).trans rfl, (blk_cell BK243.out 5).trans rfl, (blk_cell BK243.out 6).trans rfl, (blk_cell BK243.out 7).trans rfl, (blk_cell BK243.out 8).trans rfl, (blk_cell BK243.out 9).trans rfl, (blk_cell BK243.out 10).trans rfl, (blk_cell BK245.out 0).trans rfl, (blk_cell BK245.out 1).trans rfl, (blk_cell BK245.out 2).trans rfl, (blk_cell BK245.out 3).trans rfl, (blk_cell BK245.out 4).trans rfl, (blk_cell BK245.out 5).trans rfl, (blk_cell BK245.out 6).trans rfl, (blk_cell BK245.out 7).trans rfl, (blk_cell BK245.out 8).trans rfl, (blk_cell BK245.out 9).trans rfl, (blk_cell BK245.out 10).trans rfl⟩ (fun hHeld => ?_)
            clear hK K
            refine norm_ (a' := ?_) ?_ ?_
            rotate_left
            · show Act.put _ (some 32) _ = _
              simp only [Act.put, List.setIfInBounds_toArray, List.set_cons_zero, List.set_cons_succ, i64_w, i32_w]
              rfl
            refine pure_ (i := 13) (N := some 34) (v := ?_) (a' := ?_) #[true, true, true, true, true, true, true, true, true, true, true, true, true, true, false, false, false, false, false, false, false, false] rfl rfl (any_of HT_.out (by kernel_rfl)) (fun _ _ _ h => h) (Or.inl ⟨by rfl, ?_⟩) ?_ ?_
            rotate_left
            · intro w'
              go_simp
              with_reducible rfl
            rotate_left
            · simp only [Act.put, List.setIfInBounds_toArray, List.set_cons_zero, List.set_cons_succ, i64_w, i32_w]
              rfl
            refine pure_ (i := 14) (N := some 35) (v := ?_) (a' := ?_) #[true, true, true, true, true, true, true, true, true, true, true, true, true, true, true, false, false, false, false, false, false, false] rfl rfl (any_of HT_.out (by kernel_rfl)) (fun _ _ _ h => h) (Or.inl ⟨by rfl, ?_⟩) ?_ ?_
            rotate_left
            · intro w'
              go_simp
              with_reducible rfl
            rotate_left
            · simp only [Act.put, List.setIfInBounds_toArray, List.set_cons_zero, List.set_cons_succ, i64_w, i32_w]
              rfl
            refine pure_ (i := 15) (N := some 36) (v := ?_) (a' := ?_) #[true, true, true, true, true, true, true, true, true, true, true, true, true, true, true, true, false, false, false, false, false, false] rfl rfl (any_of HT_.out (by kernel_rfl)) (fun _ _ _ h => h) (Or.inl ⟨by rfl, ?_⟩) ?_ ?_
            rotate_left
            · intro w'
              go_simp
              with_reducible rfl
            rotate_left
            · simp only [Act.put, List.setIfInBounds_toArray, List.set_cons_zero, List.set_cons_succ, i64_w, i32_w]
              rfl
            refine pure_ (i := 16) (N := some 37) (v := undef) (a' := ?_) #[true, true, true, true, true, true, true, true, true, true, true, true, true, true, true, true, true, false, false, false, false, false] rfl rfl (any_of HT_.out (by kernel_rfl)) (fun _ _ _ h => h) (Or.inr ⟨by rfl, rfl⟩) ?_ ?_
            rotate_left
            · simp only [Act.put, List.setIfInBounds_toArray, List.set_cons_zero, List.set_cons_succ, i64_w, i32_w]
              rfl
            refine pure_ (i := 17) (N := some 38) (v := undef) (a' := ?_) #[true, true, true, true, true, true, true, true, true, true, true, true, true, true, true, true, true, true, false, false, false, false] rfl rfl (any_of HT_.out (by kernel_rfl)) (fun _ _ _ h => h) (Or.inr ⟨by rfl, rfl⟩) ?_ ?_
            rotate_left
            · simp only [Act.put, List.setIfInBounds_toArray, List.set_cons_zero, List.set_cons_succ, i64_w, i32_w]
              rfl
            refine pure_ (i := 18) (N := some 39) (v := undef) (a' := ?_) #[true, true, true, true, true, true, true, true, true, true, true, true, true, true, true, true, true, true, true, false, false, false] rfl rfl (any_of HT_.out (by kernel_rfl)) (fun _ _ _ h => h) (Or.inr ⟨by rfl, rfl⟩) ?_ ?_
            rotate_left
            · simp only [Act.put, List.setIfInBounds_toArray, List.set_cons_zero, List.set_cons_succ, i64_w, i32_w]
              rfl
            refine pure_ (i := 19) (N := some 40) (v := undef) (a' := ?_) #[true, true, true, true, true, true, true, true, true, true, true, true, true, true, true, true, true, true, true, true, false, false] rfl rfl (any_of HT_.out (by kernel_rfl)) (fun _ _ _ h => h) (Or.inr ⟨by rfl, rfl⟩) ?_ ?_
            rotate_left
            · simp only [Act.put, List.setIfInBounds_toArray, List.set_cons_zero, List.set_cons_succ, i64_w, i32_w]
              rfl
            refine pure_ (i := 20) (N := some 41) (v := ?_) (a' := ?_) #[true, true, true, true, true, true, true, true, true, true, true, true, true, true, true, true, true, true, true, true, true, false] rfl rfl (any_of HT_.out (by kernel_rfl)) (fun _ _ _ h => h) (Or.inl ⟨by rfl, ?_⟩) ?_ ?_
            rotate_left
            · intro w'
              go_simp
              with_reducible rfl
            rotate_left
            · simp only [Act.put, List.setIfInBounds_toArray, List.set_cons_zero, List.set_cons_succ, i64_w, i32_w]
              rfl
            refine pure_ (i := 21) (N := some 6) (v := ?_) (a' := ?_) #[true, true, true, true, true, true, true, true, true, true, true, true, true, true, true, true, true, true, true, true, true, true] rfl rfl (any_of HT_.out (by kernel_rfl)) (fun _ _ _ h => h) (Or.inl ⟨by rfl, ?_⟩) ?_ ?_
            rotate_left
            · intro w'
              go_simp
              with_reducible rfl
            rotate_left
            · simp only [Act.put, List.setIfInBounds_toArray, List.set_cons_zero, List.set_cons_succ, i64_w, i32_w]
              rfl
            refine done_ (done_of HT_.out (by kernel_rfl)) ?_
            try go_wp2
            go_ret
            exact ⟨by first | rfl | (simp [errW_none, errW_some] <;> rfl) | (simp [*, errW_none, errW_some] <;> rfl), by repeat (first | (with_reducible first | exact HB.out | apply below_alloc | apply pw_below_drewN | apply below_drew1 | refine below_set ?_ GE243.out | refine below_set ?_ GE245.out | refine below_set ?_ GE246.out) | exact HB.out)⟩
        · rw [if_neg c44] at H
          have c44b0 : ((t247 == t258 && (t248 == t259 && (t249 == t260 && (t250 == t261 && (t251 == t262 && (t252 == t263 && (t253 == t264))))))) && (t254 == t265 && (t255 == t266 && (t256 == t267 && (t257 == t268))))) = false := by simpa using c44
          clear c44
          obtain rfl := Option.some.inj H
          have hnb65 := NB246_243.out
          have hnc65 := NB243_246.out
          have hnb66 := NB246_245.out
          have hnc66 := NB245_246.out
          have hcz67_0 : wc.cell? ⟨gb246, 0, none⟩ = some (.int .i64 a0_0) := (blk_cell BK246.out 0).trans rfl
          have hcz67_1 : wc.cell? ⟨gb246, 1, none⟩ = some (.int .i64 a0_1) := (blk_cell BK246.out 1).trans rfl
          have hcz67_2 : wc.cell? ⟨gb246, 2, none⟩ = some (.int .i64 a0_2) := (blk_cell BK246.out 2).trans rfl
          have hcz67_3 : wc.cell? ⟨gb246, 3, none⟩ = some (.int .i64 a0_3) := (blk_cell BK246.out 3).trans rfl
          have hcz67_4 : wc.cell? ⟨gb246, 4, none⟩ = some (.int .i64 a0_4) := (blk_cell BK246.out 4).trans rfl
          have hcz67_5 : wc.cell? ⟨gb246, 5, none⟩ = some (.int .i64 a0_5) := (blk_cell BK246.out 5).trans rfl
          have hcz67_6 : wc.cell? ⟨gb246, 6, none⟩ = some (.int .i64 a0_6) := (blk_cell BK246.out 6).trans rfl
          have hcz67_7 : wc.cell? ⟨gb246, 7, none⟩ = some (.int .i64 a0_7) := (blk_cell BK246.out 7).trans rfl
          have hcz67_8 : wc.cell? ⟨gb246, 8, none⟩ = some (.int .i64 a0_8) := (blk_cell BK246.out 8).trans rfl
          have hcz67_9 : wc.cell? ⟨gb246, 9, none⟩ = some (.int .i64 a0_9) := (blk_cell BK246.out 9).trans rfl
          have hcz67_10 : wc.cell? ⟨gb246, 10, none⟩ = some (.int .i64 a0_10) := (blk_cell BK246.out 10).trans rfl
          have hfz67_0 := blk_frozen BK246.out 0
          have hfz67_1 := blk_frozen BK246.out 1
          have hfz67_2 := blk_frozen BK246.out 2
          have hfz67_3 := blk_frozen BK246.out 3
          have hfz67_4 := blk_frozen BK246.out 4
          have hfz67_5 := blk_frozen BK246.out 5
          have hfz67_6 := blk_frozen BK246.out 6
          have hfz67_7 := blk_frozen BK246.out 7
          have hfz67_8 := blk_frozen BK246.out 8
          have hfz67_9 := blk_frozen BK246.out 9
          have hfz67_10 := blk_frozen BK246.out 10
          try go_wp2
          have n0_ : Aside0 ((wc.setCell ⟨gb246, 7, none⟩ (.int .i64 2)).heap[gb243]? = some (.cells #[.int .i64 a0_0, .int .i64 a0_1, .int .i64 a0_2, .int .i64 a0_3, .int .i64 a0_4, .int .i64 a0_5, .int .i64 a0_6, .int .i64 a0_7, .int .i64 a0_8, .int .i64 a0_9, .int .i64 a0_10] 30 (0, 0))) := ⟨by (with_reducible repeat (first | refine blk_drewN ?_ _ | refine blk_drew ?_ | refine blk_alloc ?_ _)); refine blk_far ?_ NB243_246.out _; (with_reducible repeat (first | refine blk_drewN ?_ _ | refine blk_drew ?_ | refine blk_alloc ?_ _)); exact BK243.out⟩
          have n1_ : Aside0 ((wc.setCell ⟨gb246, 7, none⟩ (.int .i64 2)).heap[gb245]? = some (.cells #[.int .i64 a0_0, .int .i64 a0_1, .int .i64 a0_2, .int .i64 a0_3, .int .i64 a0_4, .int .i64 a0_5, .int .i64 a0_6, .int .i64 x246007_5, .int .i64 a0_8, .int .i64 a0_9, .int .i64 x246010_5] 30 (0, 0))) := ⟨by (with_reducible repeat (first | refine blk_drewN ?_ _ | refine blk_drew ?_ | refine blk_alloc ?_ _)); refine blk_far ?_ NB245_246.out _; (with_reducible repeat (first | refine blk_drewN ?_ _ | refine blk_drew ?_ | refine blk_alloc ?_ _)); exact BK245.out⟩
          have n2_ : Aside0 ((wc.setCell ⟨gb246, 7, none⟩ (.int .i64 2)).heap[gb246]? = some (.cells #[.int .i64 a0_0, .int .i64 a0_1, .int .i64 a0_2, .int .i64 a0_3, .int .i64 a0_4, .int .i64 a0_5, .int .i64 a0_6, .int .i64 2, .int .i64 a0_8, .int .i64 a0_9, .int .i64 a0_10] 30 (0, 0))) := ⟨by (with_reducible repeat (first | refine blk_drewN ?_ _ | refine blk_drew ?_ | refine blk_alloc ?_ _)); refine blk_put (cs := #[.int .i64 a0_0, .int .i64 a0_1, .int .i64 a0_2, .int .i64 a0_3, .int .i64 a0_4, .int .i64 a0_5, .int .i64 a0_6, .int .i64 a0_7, .int .i64 a0_8, .int .i64 a0_9, .int .i64 a0_10]) ?_ 7 _ rfl; (with_reducible repeat (first | refine blk_drewN ?_ _ | refine blk_drew ?_ | refine blk_alloc ?_ _)); exact BK246.out⟩
          have n3_ : Aside0 (Below w.heap.size w (wc.setCell ⟨gb246, 7, none⟩ (.int .i64 2))) := ⟨by repeat (first | (with_reducible first | exact HB.out | apply below_alloc | apply pw_below_drewN | apply below_drew1 | refine below_set ?_ GE243.out | refine below_set ?_ GE245.out | refine below_set ?_ GE246.out) | exact HB.out)⟩
          (try clear BK243)
          (try clear BK245)
          (try clear BK246)
          (try clear HB)
          generalize (wc.setCell ⟨gb246, 7, none⟩ (.int .i64 2)) = w68 at n0_ n1_ n2_ n3_ ⊢
          have BK243 := n0_
          have BK245 := n1_
          have BK246 := n2_
          have HB := n3_
          clear n0_ n1_ n2_ n3_
          have n0_ := Aside0.mk (blk_drew BK243.out)
          have n1_ := Aside0.mk (blk_drew BK245.out)
          have n2_ := Aside0.mk (blk_drew BK246.out)
          have n3_ := Aside0.mk (below_drew1 HB.out)
          clear BK243
          clear BK245
          clear BK246
          clear HB
          have BK243 := n0_
          have BK245 := n1_
          have BK246 := n2_
          have HB := n3_
          clear n0_ n1_ n2_ n3_
          refine start_ (n := 22) (S := fun w' => w'.cell? ⟨gb243, 0, none⟩ = some (.int .i64 a0_0) ∧ w'.cell? ⟨gb243, 1, none⟩ = some (.int .i64 a0_1) ∧ w'.cell? ⟨gb243, 2, none⟩ = some (.int .i64 a0_2) ∧ w'.cell? ⟨gb243, 3, none⟩ = some (.int .i64 a0_3) ∧ w'.cell? ⟨gb243, 4, none⟩ = some (.int .i64 a0_4) ∧ w'.cell? ⟨gb243, 5, none⟩ = some (.int .i64 a0_5) ∧ w'.cell? ⟨gb243, 6, none⟩ = some (.int .i64 a0_6) ∧ w'.cell? ⟨gb243, 7, none⟩ = some (.int .i64 a0_7) ∧ w'.cell? ⟨gb243, 8, none⟩ = some (.int .i64 a0_8) ∧ w'.cell? ⟨gb243, 9, none⟩ = some (.int .i64 a0_9) ∧ w'.cell? ⟨gb243, 10, none⟩ = some (.int .i64 a0_10)) (ds := []) #[false, false, false, false, false, false, false, false, false, false, false, false, false, false, false, false, false, false, false, false, false, false] (by kernel_rfl) rfl rfl ⟨(blk_cell BK243.out 0).trans rfl, (blk_cell BK243.out 1).trans rfl, (blk_cell BK243.out 2).trans rfl, (blk_cell BK243.out 3).trans rfl, (blk_cell BK243.out 4).trans rfl, (blk_cell BK243.out 5).trans rfl, (blk_cell BK243.out 6).trans rfl, (blk_cell BK243.out 7).trans rfl, (blk_cell BK243.out 8).trans rfl, (blk_cell BK243.out 9).trans rfl, (blk_cell BK243.out 10).trans rfl⟩ (fun hHeld => ?_); refine with_tabW hawalalaw14_SagaAny.tab7 hawalalaw14_SagaAny.bits7 (fun HT_ HW_ => ?_)
          generalize w68.drew = w69 at BK243 BK245 BK246 HB hHeld ⊢
          refine pure_ (i := 1) (N := some 22) (v := ?_) (a' := ?_) #[false, true, false, false, false, false, false, false, false, false, false, false, false, false, false, false, false, false, false, false, false, false] rfl rfl (any_of HT_.out (by kernel_rfl)) (fun _ _ _ h => h) (Or.inl ⟨by rfl, ?_⟩) ?_ ?_
          rotate_left
          · intro w'
            go_simp
            with_reducible rfl
          rotate_left
          · simp only [Act.put, List.setIfInBounds_toArray, List.set_cons_zero, List.set_cons_succ, i64_w, i32_w]
            rfl
          refine pure_ (i := 4) (N := some 25) (v := ?_) (a' := ?_) #[false, true, false, false, true, false, false, false, false, false, false, false, false, false, false, false, false, false, false, false, false, false] rfl rfl (any_of HT_.out (by kernel_rfl)) (fun _ _ _ h => h) (Or.inl ⟨by rfl, ?_⟩) ?_ ?_
          rotate_left
          · intro w'
            go_simp
            with_reducible rfl
          rotate_left
          · simp only [Act.put, List.setIfInBounds_toArray, List.set_cons_zero, List.set_cons_succ, i64_w, i32_w]
            rfl
          refine take_ (i := 0) (N := some 21) (v := ?_) (a' := ?_) #[true, true, false, false, true, false, false, false, false, false, false, false, false, false, false, false, false, false, false, false, false, false] rfl rfl (take_ofW HT_.out HW_.out (by kernel_rfl)) (fun _ _ _ h => h) (Or.inl ⟨by rfl, ?_⟩) hHeld ?_ ?_
          rotate_left
          · rintro w' ⟨s0, s1, s2, s3, s4, s5, s6, s7, s8, s9, s10⟩
            go_simp
            with_reducible rfl
          rotate_left
          · simp only [Act.put, List.setIfInBounds_toArray, List.set_cons_zero, List.set_cons_succ, i64_w, i32_w]
            rfl
          refine take_ (i := 3) (N := some 24) (v := ?_) (a' := ?_) #[true, true, false, true, true, false, false, false, false, false, false, false, false, false, false, false, false, false, false, false, false, false] rfl rfl (take_ofW HT_.out HW_.out (by kernel_rfl)) (fun _ _ _ h => h) (Or.inl ⟨by rfl, ?_⟩) hHeld ?_ ?_
          rotate_left
          · rintro w' ⟨s0, s1, s2, s3, s4, s5, s6, s7, s8, s9, s10⟩
            go_simp
            with_reducible rfl
          rotate_left
          · simp only [Act.put, List.setIfInBounds_toArray, List.set_cons_zero, List.set_cons_succ, i64_w, i32_w]
            rfl
          refine one_ (i := 2) (N := some 23) #[true, true, true, true, true, false, false, false, false, false, false, false, false, false, false, false, false, false, false, false, false, false] rfl rfl (one_of HT_.out (by kernel_rfl)) (by decide) (fun K hK => ?_)
          refine goes_ Try.func10 (by kernel_rfl) rfl #[.agg #[.int .i64 a0_0, .int .i64 a0_1, .int .i64 a0_2, .int .i64 a0_3, .int .i64 a0_4, .int .i64 a0_5, .int .i64 a0_6, .int .i64 a0_7, .int .i64 a0_8, .int .i64 a0_9, .int .i64 a0_10], .bool a1] (by rfl) rfl rfl (by (try simp only [List.map_toArray, List.map_cons, List.map_nil]); first | done | rfl | (simp only [List.length_drop, List.length_take]; rfl)) ?_
          with_reducible refine (saga_Leg.calls kj5 a0_0 a0_1 a0_2 a0_3 a0_4 a0_5 a0_6 a0_7 a0_8 a0_9 a0_10 a1 t247 t248 t249 t250 t251 t252 t253 t254 t255 t256 t257 _ A42.out).mono ?_
          rintro e w70 ⟨rfl, hb⟩
          refine ⟨_, rfl, ?_⟩
          have n0_ := Aside0.mk (blk_below (g := gb243) (o := .cells #[.int .i64 a0_0, .int .i64 a0_1, .int .i64 a0_2, .int .i64 a0_3, .int .i64 a0_4, .int .i64 a0_5, .int .i64 a0_6, .int .i64 a0_7, .int .i64 a0_8, .int .i64 a0_9, .int .i64 a0_10] 30 (0, 0)) (by (with_reducible repeat (first | refine blk_drewN ?_ _ | refine blk_drew ?_ | refine blk_alloc ?_ _)); exact BK243.out) hb)
          have n1_ := Aside0.mk (blk_below (g := gb245) (o := .cells #[.int .i64 a0_0, .int .i64 a0_1, .int .i64 a0_2, .int .i64 a0_3, .int .i64 a0_4, .int .i64 a0_5, .int .i64 a0_6, .int .i64 x246007_5, .int .i64 a0_8, .int .i64 a0_9, .int .i64 x246010_5] 30 (0, 0)) (by (with_reducible repeat (first | refine blk_drewN ?_ _ | refine blk_drew ?_ | refine blk_alloc ?_ _)); exact BK245.out) hb)
          have n2_ := Aside0.mk (blk_below (g := gb246) (o := .cells #[.int .i64 a0_0, .int .i64 a0_1, .int .i64 a0_2, .int .i64 a0_3, .int .i64 a0_4, .int .i64 a0_5, .int .i64 a0_6, .int .i64 2, .int .i64 a0_8, .int .i64 a0_9, .int .i64 a0_10] 30 (0, 0)) (by (with_reducible repeat (first | refine blk_drewN ?_ _ | refine blk_drew ?_ | refine blk_alloc ?_ _)); exact BK246.out) hb)
          have n3_ := Aside0.mk (below_step (by repeat (first | (with_reducible first | exact HB.out | apply below_alloc | apply pw_below_drewN | apply below_drew1 | refine below_set ?_ GE243.out | refine below_set ?_ GE245.out | refine below_set ?_ GE246.out) | exact HB.out)) hb)
          clear BK243
          clear BK245
          clear BK246
          clear HB
          have BK243 := n0_
          have BK245 := n1_
          have BK246 := n2_
          have HB := n3_
          clear n0_ n1_ n2_ n3_
          (try clear hb)
          (try clear hb2)
          (try clear hk)
          (try clear hi)
          refine hK.out _ _ ⟨(blk_cell BK243.out 0).trans rfl, (blk_cell BK243.out 1).trans rfl, (blk_cell BK243.out 2).trans rfl, (blk_cell BK243.out 3).trans rfl, (blk_cell BK243.out 4).trans rfl, (blk_cell BK243.out 5).trans rfl, (blk_cell BK243.out 6).trans rfl, (blk_cell BK243.out 7).trans rfl, (blk_cell BK243.out 8).trans rfl, (blk_cell BK243.out 9).trans rfl, (blk_cell BK243.out 10).trans rfl⟩ (fun hHeld => ?_)
          clear hK K
          refine norm_ (a' := ?_) ?_ ?_
          rotate_left
          · show Act.put _ (some 23) _ = _
            simp only [Act.put, List.setIfInBounds_toArray, List.set_cons_zero, List.set_cons_succ, i64_w, i32_w]
            rfl
          refine one_ (i := 5) (N := some 26) #[true, true, true, true, true, true, false, false, false, false, false, false, false, false, false, false, false, false, false, false, false, false] rfl rfl (one_of HT_.out (by kernel_rfl)) (by decide) (fun K hK => ?_)
          refine goes_ Try.func11 (by kernel_rfl) rfl #[.agg #[.int .i64 a0_0, .int .i64 a0_1, .int .i64 a0_2, .int .i64 a0_3, .int .i64 a0_4, .int .i64 a0_5, .int .i64 a0_6, .int .i64 a0_7, .int .i64 a0_8, .int .i64 a0_9, .int .i64 a0_10], .bool a1] (by rfl) rfl rfl (by (try simp only [List.map_toArray, List.map_cons, List.map_nil]); first | done | rfl | (simp only [List.length_drop, List.length_take]; rfl)) ?_
          with_reducible refine (hawalalaw14_leg.calls kj5 a0_0 a0_1 a0_2 a0_3 a0_4 a0_5 a0_6 a0_7 a0_8 a0_9 a0_10 a1 t258 t259 t260 t261 t262 t263 t264 t265 t266 t267 t268 _ A43.out).mono ?_
          rintro e w71 ⟨rfl, hb⟩
          refine ⟨_, rfl, ?_⟩
          have n0_ := Aside0.mk (blk_below (g := gb243) (o := .cells #[.int .i64 a0_0, .int .i64 a0_1, .int .i64 a0_2, .int .i64 a0_3, .int .i64 a0_4, .int .i64 a0_5, .int .i64 a0_6, .int .i64 a0_7, .int .i64 a0_8, .int .i64 a0_9, .int .i64 a0_10] 30 (0, 0)) (by (with_reducible repeat (first | refine blk_drewN ?_ _ | refine blk_drew ?_ | refine blk_alloc ?_ _)); exact BK243.out) hb)
          have n1_ := Aside0.mk (blk_below (g := gb245) (o := .cells #[.int .i64 a0_0, .int .i64 a0_1, .int .i64 a0_2, .int .i64 a0_3, .int .i64 a0_4, .int .i64 a0_5, .int .i64 a0_6, .int .i64 x246007_5, .int .i64 a0_8, .int .i64 a0_9, .int .i64 x246010_5] 30 (0, 0)) (by (with_reducible repeat (first | refine blk_drewN ?_ _ | refine blk_drew ?_ | refine blk_alloc ?_ _)); exact BK245.out) hb)
          have n2_ := Aside0.mk (blk_below (g := gb246) (o := .cells #[.int .i64 a0_0, .int .i64 a0_1, .int .i64 a0_2, .int .i64 a0_3, .int .i64 a0_4, .int .i64 a0_5, .int .i64 a0_6, .int .i64 2, .int .i64 a0_8, .int .i64 a0_9, .int .i64 a0_10] 30 (0, 0)) (by (with_reducible repeat (first | refine blk_drewN ?_ _ | refine blk_drew ?_ | refine blk_alloc ?_ _)); exact BK246.out) hb)
          have n3_ := Aside0.mk (below_step (by repeat (first | (with_reducible first | exact HB.out | apply below_alloc | apply pw_below_drewN | apply below_drew1 | refine below_set ?_ GE243.out | refine below_set ?_ GE245.out | refine below_set ?_ GE246.out) | exact HB.out)) hb)
          clear BK243
          clear BK245
          clear BK246
          clear HB
          have BK243 := n0_
          have BK245 := n1_
          have BK246 := n2_
          have HB := n3_
          clear n0_ n1_ n2_ n3_
          (try clear hb)
          (try clear hb2)
          (try clear hk)
          (try clear hi)
          refine hK.out _ _ ⟨(blk_cell BK243.out 0).trans rfl, (blk_cell BK243.out 1).trans rfl, (blk_cell BK243.out 2).trans rfl, (blk_cell BK243.out 3).trans rfl, (blk_cell BK243.out 4).trans rfl, (blk_cell BK243.out 5).trans rfl, (blk_cell BK243.out 6).trans rfl, (blk_cell BK243.out 7).trans rfl, (blk_cell BK243.out 8).trans rfl, (blk_cell BK243.out 9).trans rfl, (blk_cell BK243.out 10).trans rfl⟩ (fun hHeld => ?_)
          clear hK K
          refine norm_ (a' := ?_) ?_ ?_
          rotate_left
          · show Act.put _ (some 26) _ = _
            simp only [Act.put, List.setIfInBounds_toArray, List.set_cons_zero, List.set_cons_succ, i64_w, i32_w]
            rfl
          refine pure_ (i := 6) (N := some 27) (v := ?_) (a' := ?_) #[true, true, true, true, true, true, true, false, false, false, false, false, false, false, false, false, false, false, false, false, false, false] rfl rfl (any_of HT_.out (by kernel_rfl)) (fun _ _ _ h => h) (Or.inl ⟨by rfl, ?_⟩) ?_ ?_
          rotate_left
          · intro w'
            go_simp
            with_reducible rfl
          rotate_left
          · simp only [Act.put, List.setIfInBounds_toArray, List.set_cons_zero, List.set_cons_succ, i64_w, i32_w]
            rfl
          refine pure_ (i := 7) (N := some 28) (v := ?_) (a' := ?_) #[true, true, true, true, true, true, true, true, false, false, false, false, false, false, false, false, false, false, false, false, false, false] rfl rfl (any_of HT_.out (by kernel_rfl)) (fun _ _ _ h => h) (Or.inl ⟨by rfl, ?_⟩) ?_ ?_
          rotate_left
          · intro w'
            go_simp
            with_reducible rfl
          rotate_left
          · simp only [Act.put, List.setIfInBounds_toArray, List.set_cons_zero, List.set_cons_succ, i64_w, i32_w]
            rfl
          refine pure_ (i := 8) (N := some 29) (v := undef) (a' := ?_) #[true, true, true, true, true, true, true, true, true, false, false, false, false, false, false, false, false, false, false, false, false, false] rfl rfl (any_of HT_.out (by kernel_rfl)) (fun _ _ _ h => h) (Or.inr ⟨by rfl, rfl⟩) ?_ ?_
          rotate_left
          · simp only [Act.put, List.setIfInBounds_toArray, List.set_cons_zero, List.set_cons_succ, i64_w, i32_w]
            rfl
          refine pure_ (i := 9) (N := some 30) (v := undef) (a' := ?_) #[true, true, true, true, true, true, true, true, true, true, false, false, false, false, false, false, false, false, false, false, false, false] rfl rfl (any_of HT_.out (by kernel_rfl)) (fun _ _ _ h => h) (Or.inr ⟨by rfl, rfl⟩) ?_ ?_
          rotate_left
          · simp only [Act.put, List.setIfInBounds_toArray, List.set_cons_zero, List.set_cons_succ, i64_w, i32_w]
            rfl
          refine pure_ (i := 10) (N := some 31) (v := undef) (a' := ?_) #[true, true, true, true, true, true, true, true, true, true, true, false, false, false, false, false, false, false, false, false, false, false] rfl rfl (any_of HT_.out (by kernel_rfl)) (fun _ _ _ h => h) (Or.inr ⟨by rfl, rfl⟩) ?_ ?_
          rotate_left
          · simp only [Act.put, List.setIfInBounds_toArray, List.set_cons_zero, List.set_cons_succ, i64_w, i32_w]
            rfl
          refine pure_ (i := 11) (N := some 32) (v := undef) (a' := ?_) #[true, true, true, true, true, true, true, true, true, true, true, true, false, false, false, false, false, false, false, false, false, false] rfl rfl (any_of HT_.out (by kernel_rfl)) (fun _ _ _ h => h) (Or.inr ⟨by rfl, rfl⟩) ?_ ?_
          rotate_left
          · simp only [Act.put, List.setIfInBounds_toArray, List.set_cons_zero, List.set_cons_succ, i64_w, i32_w]
            rfl
          refine pure_ (i := 12) (N := some 33) (v := undef) (a' := ?_) #[true, true, true, true, true, true, true, true, true, true, true, true, true, false, false, false, false, false, false, false, false, false] rfl rfl (any_of HT_.out (by kernel_rfl)) (fun _ _ _ h => h) (Or.inr ⟨by rfl, rfl⟩) ?_ ?_
          rotate_left
          · simp only [Act.put, List.setIfInBounds_toArray, List.set_cons_zero, List.set_cons_succ, i64_w, i32_w]
            rfl
          refine pure_ (i := 13) (N := some 34) (v := undef) (a' := ?_) #[true, true, true, true, true, true, true, true, true, true, true, true, true, true, false, false, false, false, false, false, false, false] rfl rfl (any_of HT_.out (by kernel_rfl)) (fun _ _ _ h => h) (Or.inr ⟨by rfl, rfl⟩) ?_ ?_
          rotate_left
          · simp only [Act.put, List.setIfInBounds_toArray, List.set_cons_zero, List.set_cons_succ, i64_w, i32_w]
            rfl
          refine pure_ (i := 14) (N := some 35) (v := ?_) (a' := ?_) #[true, true, true, true, true, true, true, true, true, true, true, true, true, true, true, false, false, false, false, false, false, false] rfl rfl (any_of HT_.out (by kernel_rfl)) (fun _ _ _ h => h) (Or.inl ⟨by rfl, ?_⟩) ?_ ?_
          rotate_left
          · intro w'
            go_simp
            with_reducible rfl
          rotate_left
          · simp only [Act.put, List.setIfInBounds_toArray, List.set_cons_zero, List.set_cons_succ, i64_w, i32_w]
            rfl
          refine pure_ (i := 15) (N := some 36) (v := ?_) (a' := ?_) #[true, true, true, true, true, true, true, true, true, true, true, true, true, true, true, true, false, false, false, false, false, false] rfl rfl (any_of HT_.out (by kernel_rfl)) (fun _ _ _ h => h) (Or.inl ⟨by rfl, ?_⟩) ?_ ?_
          rotate_left
          · intro w'
            go_simp
            with_reducible rfl
          rotate_left
          · simp only [Act.put, List.setIfInBounds_toArray, List.set_cons_zero, List.set_cons_succ, i64_w, i32_w]
            rfl
          refine pure_ (i := 16) (N := some 37) (v := undef) (a' := ?_) #[true, true, true, true, true, true, true, true, true, true, true, true, true, true, true, true, true, false, false, false, false, false] rfl rfl (any_of HT_.out (by kernel_rfl)) (fun _ _ _ h => h) (Or.inr ⟨by rfl, rfl⟩) ?_ ?_
          rotate_left
          · simp only [Act.put, List.setIfInBounds_toArray, List.set_cons_zero, List.set_cons_succ, i64_w, i32_w]
            rfl
          refine pure_ (i := 17) (N := some 38) (v := undef) (a' := ?_) #[true, true, true, true, true, true, true, true, true, true, true, true, true, true, true, true, true, true, false, false, false, false] rfl rfl (any_of HT_.out (by kernel_rfl)) (fun _ _ _ h => h) (Or.inr ⟨by rfl, rfl⟩) ?_ ?_
          rotate_left
          · simp only [Act.put, List.setIfInBounds_toArray, List.set_cons_zero, List.set_cons_succ, i64_w, i32_w]
            rfl
          refine pure_ (i := 18) (N := some 39) (v := undef) (a' := ?_) #[true, true, true, true, true, true, true, true, true, true, true, true, true, true, true, true, true, true, true, false, false, false] rfl rfl (any_of HT_.out (by kernel_rfl)) (fun _ _ _ h => h) (Or.inr ⟨by rfl, rfl⟩) ?_ ?_
          rotate_left
          · simp only [Act.put, List.setIfInBounds_toArray, List.set_cons_zero, List.set_cons_succ, i64_w, i32_w]
            rfl
          refine pure_ (i := 19) (N := some 40) (v := undef) (a' := ?_) #[true, true, true, true, true, true, true, true, true, true, true, true, true, true, true, true, true, true, true, true, false, false] rfl rfl (any_of HT_.out (by kernel_rfl)) (fun _ _ _ h => h) (Or.inr ⟨by rfl, rfl⟩) ?_ ?_
          rotate_left
          · simp only [Act.put, List.setIfInBounds_toArray, List.set_cons_zero, List.set_cons_succ, i64_w, i32_w]
            rfl
          refine pure_ (i := 20) (N := some 41) (v := ?_) (a' := ?_) #[true, true, true, true, true, true, true, true, true, true, true, true, true, true, true, true, true, true, true, true, true, false] rfl rfl (any_of HT_.out (by kernel_rfl)) (fun _ _ _ h => h) (Or.inl ⟨by rfl, ?_⟩) ?_ ?_
          rotate_left
          · intro w'
            go_simp
            with_reducible rfl
          rotate_left
          · simp only [Act.put, List.setIfInBounds_toArray, List.set_cons_zero, List.set_cons_succ, i64_w, i32_w]
            rfl
          refine pure_ (i := 21) (N := some 6) (v := ?_) (a' := ?_) #[true, true, true, true, true, true, true, true, true, true, true, true, true, true, true, true, true, true, true, true, true, true] rfl rfl (any_of HT_.out (by kernel_rfl)) (fun _ _ _ h => h) (Or.inl ⟨by rfl, ?_⟩) ?_ ?_
          rotate_left
          · intro w'
            go_simp
            with_reducible rfl
          rotate_left
          · simp only [Act.put, List.setIfInBounds_toArray, List.set_cons_zero, List.set_cons_succ, i64_w, i32_w]
            rfl
          refine done_ (done_of HT_.out (by kernel_rfl)) ?_
          try go_wp2
          go_ret
          exact ⟨by first | rfl | (simp [errW_none, errW_some] <;> rfl) | (simp [*, errW_none, errW_some] <;> rfl), by repeat (first | (with_reducible first | exact HB.out | apply below_alloc | apply pw_below_drewN | apply below_drew1 | refine below_set ?_ GE243.out | refine below_set ?_ GE245.out | refine below_set ?_ GE246.out) | exact HB.out)⟩
  · replace c5 := Bool.eq_false_iff.mpr c5
    subst c5
    have H1 : (some false) = some r := by rw [if_neg (show ¬ (false = true) by decide)] at H; exact H
    clear H
    have H := H1
    clear H1
    obtain rfl := Option.some.inj H
    go_enter Try.func5, Try.ntmps5
    go_wp2_with (first | ((with_reducible refine gate_dst (N := 3) rfl ?_); refine box_event ?hg (N := 3) ?hd (cs := #[.int .i64 a0_0, .int .i64 a0_1, .int .i64 a0_2, .int .i64 a0_3, .int .i64 a0_4, .int .i64 a0_5, .int .i64 a0_6, .int .i64 a0_7, .int .i64 a0_8, .int .i64 a0_9, .int .i64 a0_10]) (t := 30) ?hr ?_; (case hd => rfl); (case hg => rfl); (case hr => first | (go_simp; done) | (go_simp; rfl)); intro gb243 hg w72 hbox hb; have n0_ := Aside0.mk (below_step (by repeat (first | (with_reducible first | exact HB.out | apply below_alloc | apply pw_below_drewN | apply below_drew1) | exact HB.out)) hb); have n1_ := Aside0.mk (hbox); have n2_ := Aside0.mk ((by rw [hg]; exact (below_size (by repeat (first | (with_reducible first | exact HB.out | apply below_alloc | apply pw_below_drewN | apply below_drew1) | exact HB.out))) : w.heap.size ≤ gb243)); have n3_ := Aside0.mk ((by rw [hg]; exact (below_size (by repeat (first | (with_reducible first | exact HB.out | apply below_alloc | apply pw_below_drewN | apply below_drew1) | exact HB.out))) : w.heap.size ≤ gb243)); clear HB; have HB := n0_; have BK243 := n1_; have GW243 := n2_; have GE243 := n3_; clear n0_ n1_ n2_ n3_; clear hb hbox hg) | ((with_reducible refine gate_callee (f := 7) rfl ?_); refine goesL_ (some 9) rfl rfl Try.func7 (by kernel_rfl) rfl #[] rfl (by (try simp only [List.map_toArray, List.map_cons, List.map_nil]); first | done | rfl | (simp only [List.length_drop, List.length_take]; rfl)) ?_; (with_reducible refine (hawalalaw14_awake.calls k  false _ A4.out).mono ?_); rintro e w73 ⟨rfl, hb⟩; refine ⟨_, rfl, ?_⟩; have n0_ := Aside0.mk (blk_below (g := gb243) (o := .cells #[.int .i64 a0_0, .int .i64 a0_1, .int .i64 a0_2, .int .i64 a0_3, .int .i64 a0_4, .int .i64 a0_5, .int .i64 a0_6, .int .i64 a0_7, .int .i64 a0_8, .int .i64 a0_9, .int .i64 a0_10] 30 (0, 0)) (by (with_reducible repeat (first | refine blk_drewN ?_ _ | refine blk_drew ?_ | refine blk_alloc ?_ _)); exact BK243.out) hb); have n1_ := Aside0.mk (below_step (by repeat (first | (with_reducible first | exact HB.out | apply below_alloc | apply pw_below_drewN | apply below_drew1 | refine below_set ?_ GE243.out) | exact HB.out)) hb); clear BK243; clear HB; have BK243 := n0_; have HB := n1_; clear n0_ n1_; (try clear hb); (try clear hb2); (try clear hk); (try clear hi)))
    go_ret
    exact ⟨by first | rfl | (simp [errW_none, errW_some] <;> rfl) | (simp [*, errW_none, errW_some] <;> rfl), by repeat (first | (with_reducible first | exact HB.out | apply below_alloc | apply pw_below_drewN | apply below_drew1 | refine below_set ?_ GE243.out) | exact HB.out)⟩

/-- THE ONE PURE STATEMENT of hawalalaw14_SagaAny: yours. -/
def hawalalaw14_SagaAny.Pure : Prop := ∀ (y0 : S30) (a1 : Bool) (a2 : Int), okS30 y0 → (Lit.int .i8 a2).wf = true → ∃ k, hawalalaw14_SagaAny.f k y0.f0.f0 y0.f0.f1 y0.f0.f2 y0.f0.f3 y0.f0.f4 y0.f0.f5 y0.f0.f6 y0.f1 y0.f2 y0.f3 y0.f4 a1 a2 = some true

end Go.Proofs.Ytinjmjgfhpojfaa.PAll
