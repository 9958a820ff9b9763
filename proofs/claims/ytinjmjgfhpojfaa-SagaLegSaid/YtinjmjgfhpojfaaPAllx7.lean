/- What each Go function computes, as a plain Lean function, and the proof that the machine comes to it; for every input. Laid by wip/tools of this session over the kit's print, with small turns of ours. Not trusted: Lean checks it. -/
import Derived.Test.YtinjmjgfhpojfaaPAllx0
import Derived.Test.YtinjmjgfhpojfaaPAllx1
import Derived.Test.YtinjmjgfhpojfaaPAllx2
import Derived.Test.YtinjmjgfhpojfaaPAllx3
import Derived.Test.YtinjmjgfhpojfaaPAllx5
import Derived.Test.YtinjmjgfhpojfaaPAllx6
namespace Go.Proofs.Ytinjmjgfhpojfaa.PAll
open Go.Proofs.YtinjmjgfhpojfaaW
open Go.RowKit Go.Proofs.YtinjmjgfhpojfaaW.PrintWords Go.Proofs.YtinjmjgfhpojfaaW.PrintLast Go.Proofs.YtinjmjgfhpojfaaW.PrintMore
attribute [local go_sem] max2_int min2_int max_two min_two max_three min_three max_four min_four   -- for this text's walks alone
set_option linter.unusedVariables false
set_option linter.unusedSimpArgs false

attribute [local go_sem high] eqA30
/-! ### hawalalaw14_SagaLeg: function 3 -/
mutual
def hawalalaw14_SagaLeg.l0 : Nat → List Bool → Int → Int → Int → Int → Int → Int → Int → Int → Int → Int → Int → Int → Int → Int → Int → Int → Int → Int → Int → Int → Int → Int → Int → Int → Option (Bool)
  | 0, _, _, _, _, _, _, _, _, _, _, _, _, _, _, _, _, _, _, _, _, _, _, _, _, _ => none
  | k + 1, x21, x22, x23, x174000, x174001, x174002, x174003, x174004, x174005, x174006, x174007, x174008, x174009, x174010, x175000, x175001, x175002, x175003, x175004, x175005, x175006, x175007, x175008, x175009, x175010 => if x23 < x22 then (if 0 ≤ x23 then (if x23 < (x21.length : Int) then (if ((!(x174000 == x175000) || (!(x174001 == x175001) || (!(x174002 == x175002) || (!(x174003 == x175003) || (!(x174004 == x175004) || (!(x174005 == x175005) || (!(x174006 == x175006)))))))) || (!(x174007 == x175007) || (!(x174008 == x175008) || (!(x174009 == x175009) || (!(x174010 == x175010)))))) = true then (hawalalaw14_SagaLeg.j1 k (rdOf false x21 x23) x21 x22 x23 true x174000 x174001 x174002 x174003 x174004 x174005 x174006 x174007 x174008 x174009 x174010 x175000 x175001 x175002 x175003 x175004 x175005 x175006 x175007 x175008 x175009 x175010) else ((saga_Ready.f x174000 x174001 x174002 x174003 x174004 x174005 x174006 x174007 x174008 x174009 x174010).bind fun t176 => (if x175007 = 0 then (hawalalaw14_SagaLeg.j1 k (rdOf false x21 x23) x21 x22 x23 (t176 != (decide (x175008 ≥ x175005))) x174000 x174001 x174002 x174003 x174004 x174005 x174006 x174007 x174008 x174009 x174010 x175000 x175001 x175002 x175003 x175004 x175005 x175006 x175007 x175008 x175009 x175010) else (hawalalaw14_SagaLeg.j1 k (rdOf false x21 x23) x21 x22 x23 (t176 != false) x174000 x174001 x174002 x174003 x174004 x174005 x174006 x174007 x174008 x174009 x174010 x175000 x175001 x175002 x175003 x175004 x175005 x175006 x175007 x175008 x175009 x175010)))) else (none)) else (none)) else (some ((x174000 == x175000 && (x174001 == x175001 && (x174002 == x175002 && (x174003 == x175003 && (x174004 == x175004 && (x174005 == x175005 && (x174006 == x175006))))))) && (x174007 == x175007 && (x174008 == x175008 && (x174009 == x175009 && (x174010 == x175010))))))
def hawalalaw14_SagaLeg.j1 : Nat → Bool → List Bool → Int → Int → Bool → Int → Int → Int → Int → Int → Int → Int → Int → Int → Int → Int → Int → Int → Int → Int → Int → Int → Int → Int → Int → Int → Int → Option (Bool)
  | 0, _, _, _, _, _, _, _, _, _, _, _, _, _, _, _, _, _, _, _, _, _, _, _, _, _, _, _ => none
  | k + 1, x10, x21, x22, x23, x45, x174000, x174001, x174002, x174003, x174004, x174005, x174006, x174007, x174008, x174009, x174010, x175000, x175001, x175002, x175003, x175004, x175005, x175006, x175007, x175008, x175009, x175010 => if x45 = true then (some false) else ((saga_Leg.f k x174000 x174001 x174002 x174003 x174004 x174005 x174006 x174007 x174008 x174009 x174010 x10).bind fun bt177 => ((hawalalaw14_leg.f k x175000 x175001 x175002 x175003 x175004 x175005 x175006 x175007 x175008 x175009 x175010 x10).bind fun bt188 => (hawalalaw14_SagaLeg.l0 k x21 x22 (wrap64 (x23 + 1)) bt177.1 bt177.2.1 bt177.2.2.1 bt177.2.2.2.1 bt177.2.2.2.2.1 bt177.2.2.2.2.2.1 bt177.2.2.2.2.2.2.1 bt177.2.2.2.2.2.2.2.1 bt177.2.2.2.2.2.2.2.2.1 bt177.2.2.2.2.2.2.2.2.2.1 bt177.2.2.2.2.2.2.2.2.2.2 bt188.1 bt188.2.1 bt188.2.2.1 bt188.2.2.2.1 bt188.2.2.2.2.1 bt188.2.2.2.2.2.1 bt188.2.2.2.2.2.2.1 bt188.2.2.2.2.2.2.2.1 bt188.2.2.2.2.2.2.2.2.1 bt188.2.2.2.2.2.2.2.2.2.1 bt188.2.2.2.2.2.2.2.2.2.2)))
end
def hawalalaw14_SagaLeg.f (k : Nat) (a0 : Int) (l1 : List Bool) (a2_0 : Int) (a2_1 : Int) (a2_2 : Int) (a2_3 : Int) (a2_4 : Int) (a2_5 : Int) (a2_6 : Int) : Option (Bool) := (hawalalaw14_awake.f k).bind fun t161 => (if t161 = true then ((saga_Begin.f a2_0 a2_1 a2_2 a2_3 a2_4 (wrap64 (Int.tmod a0 5)) a2_6).bind fun bt162 => (hawalalaw14_SagaLeg.l0 k l1 (l1.length : Int) 0 bt162.1 bt162.2.1 bt162.2.2.1 bt162.2.2.2.1 bt162.2.2.2.2.1 bt162.2.2.2.2.2.1 bt162.2.2.2.2.2.2.1 bt162.2.2.2.2.2.2.2.1 bt162.2.2.2.2.2.2.2.2.1 bt162.2.2.2.2.2.2.2.2.2.1 bt162.2.2.2.2.2.2.2.2.2.2 a2_0 a2_1 a2_2 a2_3 a2_4 (wrap64 (Int.tmod a0 5)) a2_6 0 0 0 0)) else (some false))
theorem hawalalaw14_SagaLeg.mono_l : ∀ k, (∀ y0 y1 y2 y3 y4 y5 y6 y7 y8 y9 y10 y11 y12 y13 y14 y15 y16 y17 y18 y19 y20 y21 y22 y23 y24, LeO (hawalalaw14_SagaLeg.l0 k y0 y1 y2 y3 y4 y5 y6 y7 y8 y9 y10 y11 y12 y13 y14 y15 y16 y17 y18 y19 y20 y21 y22 y23 y24) (hawalalaw14_SagaLeg.l0 (k + 1) y0 y1 y2 y3 y4 y5 y6 y7 y8 y9 y10 y11 y12 y13 y14 y15 y16 y17 y18 y19 y20 y21 y22 y23 y24)) ∧ (∀ y0 y1 y2 y3 y4 y5 y6 y7 y8 y9 y10 y11 y12 y13 y14 y15 y16 y17 y18 y19 y20 y21 y22 y23 y24 y25 y26, LeO (hawalalaw14_SagaLeg.j1 k y0 y1 y2 y3 y4 y5 y6 y7 y8 y9 y10 y11 y12 y13 y14 y15 y16 y17 y18 y19 y20 y21 y22 y23 y24 y25 y26) (hawalalaw14_SagaLeg.j1 (k + 1) y0 y1 y2 y3 y4 y5 y6 y7 y8 y9 y10 y11 y12 y13 y14 y15 y16 y17 y18 y19 y20 y21 y22 y23 y24 y25 y26))
  | 0 => ⟨fun _ _ _ _ _ _ _ _ _ _ _ _ _ _ _ _ _ _ _ _ _ _ _ _ _ r h => by simp [hawalalaw14_SagaLeg.l0] at h, fun _ _ _ _ _ _ _ _ _ _ _ _ _ _ _ _ _ _ _ _ _ _ _ _ _ _ _ r h => by simp [hawalalaw14_SagaLeg.j1] at h⟩
  | k + 1 => by
    obtain ⟨ih0, ih1⟩ := hawalalaw14_SagaLeg.mono_l k
    refine ⟨?_, ?_⟩
    · intro y0 y1 y2 y3 y4 y5 y6 y7 y8 y9 y10 y11 y12 y13 y14 y15 y16 y17 y18 y19 y20 y21 y22 y23 y24
      unfold hawalalaw14_SagaLeg.l0
      repeat' first
      | (with_reducible exact ih0 _ _ _ _ _ _ _ _ _ _ _ _ _ _ _ _ _ _ _ _ _ _ _ _ _)
      | (with_reducible exact ih1 _ _ _ _ _ _ _ _ _ _ _ _ _ _ _ _ _ _ _ _ _ _ _ _ _ _ _)
      | (with_reducible exact hawalalaw14_awake.mono _)
      | (with_reducible exact hawalalaw14_leg.mono _ _ _ _ _ _ _ _ _ _ _ _ _)
      | (with_reducible exact saga_Leg.mono _ _ _ _ _ _ _ _ _ _ _ _ _)
      | (with_reducible exact LeO.refl _)
      | (with_reducible exact LeO.none _)
      | (with_reducible refine LeO.ite ?_ ?_)
      | (with_reducible refine LeO.bind ?_ (fun _ => ?_))
      | exact ih0 _ _ _ _ _ _ _ _ _ _ _ _ _ _ _ _ _ _ _ _ _ _ _ _ _
      | exact ih1 _ _ _ _ _ _ _ _ _ _ _ _ _ _ _ _ _ _ _ _ _ _ _ _ _ _ _
      | exact hawalalaw14_awake.mono _
      | exact hawalalaw14_leg.mono _ _ _ _ _ _ _ _ _ _ _ _ _
      | exact saga_Leg.mono _ _ _ _ _ _ _ _ _ _ _ _ _
      | exact LeO.none _
      | refine LeO.ite ?_ ?_
      | refine LeO.bind ?_ (fun _ => ?_)
    · intro y0 y1 y2 y3 y4 y5 y6 y7 y8 y9 y10 y11 y12 y13 y14 y15 y16 y17 y18 y19 y20 y21 y22 y23 y24 y25 y26
      unfold hawalalaw14_SagaLeg.j1
      repeat' first
      | (with_reducible exact ih0 _ _ _ _ _ _ _ _ _ _ _ _ _ _ _ _ _ _ _ _ _ _ _ _ _)
      | (with_reducible exact ih1 _ _ _ _ _ _ _ _ _ _ _ _ _ _ _ _ _ _ _ _ _ _ _ _ _ _ _)
      | (with_reducible exact hawalalaw14_awake.mono _)
      | (with_reducible exact hawalalaw14_leg.mono _ _ _ _ _ _ _ _ _ _ _ _ _)
      | (with_reducible exact saga_Leg.mono _ _ _ _ _ _ _ _ _ _ _ _ _)
      | (with_reducible exact LeO.refl _)
      | (with_reducible exact LeO.none _)
      | (with_reducible refine LeO.ite ?_ ?_)
      | (with_reducible refine LeO.bind ?_ (fun _ => ?_))
      | exact ih0 _ _ _ _ _ _ _ _ _ _ _ _ _ _ _ _ _ _ _ _ _ _ _ _ _
      | exact ih1 _ _ _ _ _ _ _ _ _ _ _ _ _ _ _ _ _ _ _ _ _ _ _ _ _ _ _
      | exact hawalalaw14_awake.mono _
      | exact hawalalaw14_leg.mono _ _ _ _ _ _ _ _ _ _ _ _ _
      | exact saga_Leg.mono _ _ _ _ _ _ _ _ _ _ _ _ _
      | exact LeO.none _
      | refine LeO.ite ?_ ?_
      | refine LeO.bind ?_ (fun _ => ?_)
theorem hawalalaw14_SagaLeg.mono : ∀ a0 a1 a2 a3 a4 a5 a6 a7 a8 k, LeO (hawalalaw14_SagaLeg.f k a0 a1 a2 a3 a4 a5 a6 a7 a8) (hawalalaw14_SagaLeg.f (k + 1) a0 a1 a2 a3 a4 a5 a6 a7 a8) := by
  intro a0 a1 a2 a3 a4 a5 a6 a7 a8 k
  obtain ⟨ih0, ih1⟩ := hawalalaw14_SagaLeg.mono_l k
  unfold hawalalaw14_SagaLeg.f
  repeat' first
      | (with_reducible exact ih0 _ _ _ _ _ _ _ _ _ _ _ _ _ _ _ _ _ _ _ _ _ _ _ _ _)
      | (with_reducible exact ih1 _ _ _ _ _ _ _ _ _ _ _ _ _ _ _ _ _ _ _ _ _ _ _ _ _ _ _)
      | (with_reducible exact hawalalaw14_awake.mono _)
      | (with_reducible exact hawalalaw14_leg.mono _ _ _ _ _ _ _ _ _ _ _ _ _)
      | (with_reducible exact saga_Leg.mono _ _ _ _ _ _ _ _ _ _ _ _ _)
      | (with_reducible exact LeO.refl _)
      | (with_reducible exact LeO.none _)
      | (with_reducible refine LeO.ite ?_ ?_)
      | (with_reducible refine LeO.bind ?_ (fun _ => ?_))
      | exact ih0 _ _ _ _ _ _ _ _ _ _ _ _ _ _ _ _ _ _ _ _ _ _ _ _ _
      | exact ih1 _ _ _ _ _ _ _ _ _ _ _ _ _ _ _ _ _ _ _ _ _ _ _ _ _ _ _
      | exact hawalalaw14_awake.mono _
      | exact hawalalaw14_leg.mono _ _ _ _ _ _ _ _ _ _ _ _ _
      | exact saga_Leg.mono _ _ _ _ _ _ _ _ _ _ _ _ _
      | exact LeO.none _
      | refine LeO.ite ?_ ?_
      | refine LeO.bind ?_ (fun _ => ?_)
def hawalalaw14_SagaLeg.T4 : Bool × List (List Nat × List Nat) := (true, [([], []), ([0], [0]), ([], []), ([2], [2]), ([], []), ([], []), ([4, 1, 1, 0, 1, 4, 5], [1, 4]), ([5, 3, 6, 0, 1, 2, 3, 4, 5, 6], [3, 5])])
def hawalalaw14_SagaLeg.B4 : List Nat := [0, 1, 0, 4, 0, 0, 51, 127]
theorem hawalalaw14_SagaLeg.tab4 : rtab .any (opsOf Try.f3 4) = hawalalaw14_SagaLeg.T4 := by kernel_rfl
theorem hawalalaw14_SagaLeg.bits4 : waitsOk hawalalaw14_SagaLeg.T4.2 hawalalaw14_SagaLeg.B4 = true := by kernel_rfl
def hawalalaw14_SagaLeg.T8 : Bool × List (List Nat × List Nat) := (true, [([], []), ([], []), ([0, 1], [0, 1]), ([2], [2]), ([3], [3]), ([4, 3, 3], [3, 4]), ([3], [3]), ([6, 3], [3, 6]), ([7, 3], [3, 7]), ([8, 5, 3], [3, 8]), ([9], [9]), ([10, 9], [9, 10]), ([9], [9]), ([12, 9], [9, 12]), ([13, 9], [9, 13]), ([11, 14, 9], [9, 11, 14]), ([9, 15, 3], [3, 9, 15]), ([5, 16, 3], [3, 5, 16]), ([3, 17], [3, 17])])
def hawalalaw14_SagaLeg.B8 : List Nat := [0, 0, 3, 7, 15, 31, 15, 79, 207, 511, 1023, 2047, 1023, 5119, 13311, 32767, 65535, 131071, 262143]
theorem hawalalaw14_SagaLeg.tab8 : rtab .any (opsOf Try.f3 8) = hawalalaw14_SagaLeg.T8 := by kernel_rfl
theorem hawalalaw14_SagaLeg.bits8 : waitsOk hawalalaw14_SagaLeg.T8.2 hawalalaw14_SagaLeg.B8 = true := by kernel_rfl
def hawalalaw14_SagaLeg.T10 : Bool × List (List Nat × List Nat) := (true, [([], []), ([], []), ([0, 1], [0, 1]), ([], []), ([], []), ([3, 4, 2], [3, 4]), ([2, 5, 0, 1, 2], [2]), ([5, 6, 0, 1, 2, 3, 4, 5, 6], [5])])
def hawalalaw14_SagaLeg.B10 : List Nat := [0, 0, 3, 0, 0, 31, 63, 127]
theorem hawalalaw14_SagaLeg.tab10 : rtab .any (opsOf Try.f3 10) = hawalalaw14_SagaLeg.T10 := by kernel_rfl
theorem hawalalaw14_SagaLeg.bits10 : waitsOk hawalalaw14_SagaLeg.T10.2 hawalalaw14_SagaLeg.B10 = true := by kernel_rfl
set_option maxHeartbeats 8000000 in
set_option maxRecDepth 100000 in
theorem hawalalaw14_SagaLeg.calls (k : Nat) (a0 : Int) (A1 : Option Addr) (c1 : Nat) (l1 : List Bool) (a2_0 : Int) (a2_1 : Int) (a2_2 : Int) (a2_3 : Int) (a2_4 : Int) (a2_5 : Int) (a2_6 : Int) (r : Bool) (w : World) (hr1 : Kd.C Kd.bool w A1 l1.length l1) (hc1 : l1.length ≤ c1) (h : hawalalaw14_SagaLeg.f k a0 l1 a2_0 a2_1 a2_2 a2_3 a2_4 a2_5 a2_6 = some r) :
    Calls Try.prog 3 #[.int .u8 a0, .slice A1 l1.length c1, .agg #[.int .i64 a2_0, .int .i64 a2_1, .int .i64 a2_2, .int .i64 a2_3, .int .i64 a2_4, .int .i64 a2_5, .int .i64 a2_6]] w fun e w' => e = .returned (.bool r) ∧ Below w.heap.size w w' := by
  have hu25 := Try.underlying25
  have hu30 := Try.underlying30
  have HR1 := Aside0.mk hr1
  have HC1 := Aside0.mk hc1
  clear hr1 hc1
  have HB := Aside0.mk (Below.refl w.heap.size w)
  have H : ((hawalalaw14_awake.f k).bind fun t161 => (if t161 = true then ((saga_Begin.f a2_0 a2_1 a2_2 a2_3 a2_4 (wrap64 (Int.tmod a0 5)) a2_6).bind fun bt162 => (hawalalaw14_SagaLeg.l0 k l1 (l1.length : Int) 0 bt162.1 bt162.2.1 bt162.2.2.1 bt162.2.2.2.1 bt162.2.2.2.2.1 bt162.2.2.2.2.2.1 bt162.2.2.2.2.2.2.1 bt162.2.2.2.2.2.2.2.1 bt162.2.2.2.2.2.2.2.2.1 bt162.2.2.2.2.2.2.2.2.2.1 bt162.2.2.2.2.2.2.2.2.2.2 a2_0 a2_1 a2_2 a2_3 a2_4 (wrap64 (Int.tmod a0 5)) a2_6 0 0 0 0)) else (some false))) = some r := h
  clear h
  replace H := Option.bind_eq_some_iff.mp H
  obtain ⟨t161, A40, H⟩ := H
  replace H : (if t161 = true then ((saga_Begin.f a2_0 a2_1 a2_2 a2_3 a2_4 (wrap64 (Int.tmod a0 5)) a2_6).bind fun bt162 => (hawalalaw14_SagaLeg.l0 k l1 (l1.length : Int) 0 bt162.1 bt162.2.1 bt162.2.2.1 bt162.2.2.2.1 bt162.2.2.2.2.1 bt162.2.2.2.2.2.1 bt162.2.2.2.2.2.2.1 bt162.2.2.2.2.2.2.2.1 bt162.2.2.2.2.2.2.2.2.1 bt162.2.2.2.2.2.2.2.2.2.1 bt162.2.2.2.2.2.2.2.2.2.2 a2_0 a2_1 a2_2 a2_3 a2_4 (wrap64 (Int.tmod a0 5)) a2_6 0 0 0 0)) else (some false)) = some r := H
  have A4 := Aside0.mk A40
  clear A40
  by_cases c5 : t161 = true
  · subst c5
    have H1 : ((saga_Begin.f a2_0 a2_1 a2_2 a2_3 a2_4 (wrap64 (Int.tmod a0 5)) a2_6).bind fun bt162 => (hawalalaw14_SagaLeg.l0 k l1 (l1.length : Int) 0 bt162.1 bt162.2.1 bt162.2.2.1 bt162.2.2.2.1 bt162.2.2.2.2.1 bt162.2.2.2.2.2.1 bt162.2.2.2.2.2.2.1 bt162.2.2.2.2.2.2.2.1 bt162.2.2.2.2.2.2.2.2.1 bt162.2.2.2.2.2.2.2.2.2.1 bt162.2.2.2.2.2.2.2.2.2.2 a2_0 a2_1 a2_2 a2_3 a2_4 (wrap64 (Int.tmod a0 5)) a2_6 0 0 0 0)) = some r := by rw [if_pos rfl] at H; exact H
    clear H
    have H := H1
    clear H1
    replace H := Option.bind_eq_some_iff.mp H
    obtain ⟨⟨t162, t163, t164, t165, t166, t167, t168, t169, t170, t171, t172⟩, A60, H⟩ := H
    replace H : (hawalalaw14_SagaLeg.l0 k l1 (l1.length : Int) 0 t162 t163 t164 t165 t166 t167 t168 t169 t170 t171 t172 a2_0 a2_1 a2_2 a2_3 a2_4 (wrap64 (Int.tmod a0 5)) a2_6 0 0 0 0) = some r := H
    have A6 := Aside0.mk A60
    clear A60
    have H' := Aside0.mk H
    clear H
    go_enter Try.func3, Try.ntmps3
    try go_wp2_with (first | ((with_reducible refine gate_dst (N := 5) rfl ?_); refine box_event ?hg (N := 5) ?hd (cs := #[.int .i64 a2_0, .int .i64 a2_1, .int .i64 a2_2, .int .i64 a2_3, .int .i64 a2_4, .int .i64 a2_5, .int .i64 a2_6]) (t := 25) ?hr ?_; (case hd => rfl); (case hg => rfl); (case hr => first | (go_simp; done) | (go_simp; rfl)); intro gb160 hg w7 hbox hb; have n0_ := Aside0.mk (below_step (by repeat (first | (with_reducible first | exact HB.out | apply below_alloc | apply pw_below_drewN | apply below_drew1) | exact HB.out)) hb); have n1_ := Aside0.mk (hbox); have n2_ := Aside0.mk ((by rw [hg]; exact (below_size (by repeat (first | (with_reducible first | exact HB.out | apply below_alloc | apply pw_below_drewN | apply below_drew1) | exact HB.out))) : w.heap.size ≤ gb160)); have n3_ := Aside0.mk ((by rw [hg]; exact (below_size (by repeat (first | (with_reducible first | exact HB.out | apply below_alloc | apply pw_below_drewN | apply below_drew1) | exact HB.out))) : w.heap.size ≤ gb160)); clear HB; have HB := n0_; have BK160 := n1_; have GW160 := n2_; have GE160 := n3_; clear n0_ n1_ n2_ n3_; clear hb hbox hg) | ((with_reducible refine gate_callee (f := 7) rfl ?_); refine goesL_ (some 11) rfl rfl Try.func7 (by kernel_rfl) rfl #[] rfl (by (try simp only [List.map_toArray, List.map_cons, List.map_nil]); first | done | rfl | (simp only [List.length_drop, List.length_take]; rfl)) ?_; (with_reducible refine (hawalalaw14_awake.calls k  true _ A4.out).mono ?_); rintro e w8 ⟨rfl, hb⟩; refine ⟨_, rfl, ?_⟩; have n0_ := Aside0.mk (blk_below (g := gb160) (o := .cells #[.int .i64 a2_0, .int .i64 a2_1, .int .i64 a2_2, .int .i64 a2_3, .int .i64 a2_4, .int .i64 a2_5, .int .i64 a2_6] 25 (0, 0)) (by (with_reducible repeat (first | refine blk_drewN ?_ _ | refine blk_drew ?_ | refine blk_alloc ?_ _)); exact BK160.out) hb); have n1_ := Aside0.mk (below_step (by repeat (first | (with_reducible first | exact HB.out | apply below_alloc | apply pw_below_drewN | apply below_drew1 | refine below_set ?_ GE160.out) | exact HB.out)) hb); clear BK160; clear HB; have BK160 := n0_; have HB := n1_; clear n0_ n1_; (try clear hb); (try clear hb2); (try clear hk); (try clear hi); have hcz9_0 : w8.cell? ⟨gb160, 0, none⟩ = some (.int .i64 a2_0) := (blk_cell BK160.out 0).trans rfl; have hcz9_1 : w8.cell? ⟨gb160, 1, none⟩ = some (.int .i64 a2_1) := (blk_cell BK160.out 1).trans rfl; have hcz9_2 : w8.cell? ⟨gb160, 2, none⟩ = some (.int .i64 a2_2) := (blk_cell BK160.out 2).trans rfl; have hcz9_3 : w8.cell? ⟨gb160, 3, none⟩ = some (.int .i64 a2_3) := (blk_cell BK160.out 3).trans rfl; have hcz9_4 : w8.cell? ⟨gb160, 4, none⟩ = some (.int .i64 a2_4) := (blk_cell BK160.out 4).trans rfl; have hcz9_5 : w8.cell? ⟨gb160, 5, none⟩ = some (.int .i64 a2_5) := (blk_cell BK160.out 5).trans rfl; have hcz9_6 : w8.cell? ⟨gb160, 6, none⟩ = some (.int .i64 a2_6) := (blk_cell BK160.out 6).trans rfl; have hfz9_0 := blk_frozen BK160.out 0; have hfz9_1 := blk_frozen BK160.out 1; have hfz9_2 := blk_frozen BK160.out 2; have hfz9_3 := blk_frozen BK160.out 3; have hfz9_4 := blk_frozen BK160.out 4; have hfz9_5 := blk_frozen BK160.out 5; have hfz9_6 := blk_frozen BK160.out 6))
    have n0_ : Aside0 ((w8.setCell ⟨gb160, 5, none⟩ (.int .i64 (wrap64 (Int.tmod a0 5)))).heap[gb160]? = some (.cells #[.int .i64 a2_0, .int .i64 a2_1, .int .i64 a2_2, .int .i64 a2_3, .int .i64 a2_4, .int .i64 (wrap64 (Int.tmod a0 5)), .int .i64 a2_6] 25 (0, 0))) := ⟨by (with_reducible repeat (first | refine blk_drewN ?_ _ | refine blk_drew ?_ | refine blk_alloc ?_ _)); refine blk_put (cs := #[.int .i64 a2_0, .int .i64 a2_1, .int .i64 a2_2, .int .i64 a2_3, .int .i64 a2_4, .int .i64 a2_5, .int .i64 a2_6]) ?_ 5 _ rfl; (with_reducible repeat (first | refine blk_drewN ?_ _ | refine blk_drew ?_ | refine blk_alloc ?_ _)); exact BK160.out⟩
    have n1_ : Aside0 (Below w.heap.size w (w8.setCell ⟨gb160, 5, none⟩ (.int .i64 (wrap64 (Int.tmod a0 5))))) := ⟨by repeat (first | (with_reducible first | exact HB.out | apply below_alloc | apply pw_below_drewN | apply below_drew1 | refine below_set ?_ GE160.out) | exact HB.out)⟩
    (try clear BK160)
    (try clear HB)
    generalize (w8.setCell ⟨gb160, 5, none⟩ (.int .i64 (wrap64 (Int.tmod a0 5)))) = w10 at n0_ n1_ ⊢
    have BK160 := n0_
    have HB := n1_
    clear n0_ n1_
    have n0_ := Aside0.mk (blk_drew BK160.out)
    have n1_ := Aside0.mk (below_drew1 HB.out)
    clear BK160
    clear HB
    have BK160 := n0_
    have HB := n1_
    clear n0_ n1_
    refine start_ (n := 8) (S := fun w' => w'.cell? ⟨gb160, 0, none⟩ = some (.int .i64 a2_0) ∧ w'.cell? ⟨gb160, 1, none⟩ = some (.int .i64 a2_1) ∧ w'.cell? ⟨gb160, 2, none⟩ = some (.int .i64 a2_2) ∧ w'.cell? ⟨gb160, 3, none⟩ = some (.int .i64 a2_3) ∧ w'.cell? ⟨gb160, 4, none⟩ = some (.int .i64 a2_4) ∧ w'.cell? ⟨gb160, 5, none⟩ = some (.int .i64 (wrap64 (Int.tmod a0 5))) ∧ w'.cell? ⟨gb160, 6, none⟩ = some (.int .i64 a2_6)) (ds := []) #[false, false, false, false, false, false, false, false] (by kernel_rfl) rfl rfl ⟨(blk_cell BK160.out 0).trans rfl, (blk_cell BK160.out 1).trans rfl, (blk_cell BK160.out 2).trans rfl, (blk_cell BK160.out 3).trans rfl, (blk_cell BK160.out 4).trans rfl, (blk_cell BK160.out 5).trans rfl, (blk_cell BK160.out 6).trans rfl⟩ (fun hHeld => ?_); refine with_tabW hawalalaw14_SagaLeg.tab4 hawalalaw14_SagaLeg.bits4 (fun HT_ HW_ => ?_)
    generalize w10.drew = w11 at BK160 HB hHeld ⊢
    refine take_ (i := 0) (N := some 17) (v := ?_) (a' := ?_) #[true, false, false, false, false, false, false, false] rfl rfl (take_ofW HT_.out HW_.out (by kernel_rfl)) (fun _ _ _ h => h) (Or.inl ⟨by rfl, ?_⟩) hHeld ?_ ?_
    rotate_left
    · rintro w' ⟨s0, s1, s2, s3, s4, s5, s6⟩
      go_simp
      with_reducible rfl
    rotate_left
    · simp only [Act.put, List.setIfInBounds_toArray, List.set_cons_zero, List.set_cons_succ, i64_w, i32_w]
      rfl
    refine take_ (i := 2) (N := some 19) (v := ?_) (a' := ?_) #[true, false, true, false, false, false, false, false] rfl rfl (take_ofW HT_.out HW_.out (by kernel_rfl)) (fun _ _ _ h => h) (Or.inl ⟨by rfl, ?_⟩) hHeld ?_ ?_
    rotate_left
    · rintro w' ⟨s0, s1, s2, s3, s4, s5, s6⟩
      go_simp
      with_reducible rfl
    rotate_left
    · simp only [Act.put, List.setIfInBounds_toArray, List.set_cons_zero, List.set_cons_succ, i64_w, i32_w]
      rfl
    refine pure_ (i := 3) (N := some 20) (v := ?_) (a' := ?_) #[true, false, true, true, false, false, false, false] rfl rfl (any_of HT_.out (by kernel_rfl)) (fun _ _ _ h => h) (Or.inl ⟨by rfl, ?_⟩) ?_ ?_
    rotate_left
    · intro w'
      go_simp
      with_reducible rfl
    rotate_left
    · simp only [Act.put, List.setIfInBounds_toArray, List.set_cons_zero, List.set_cons_succ, i64_w, i32_w]
      rfl
    refine join_ (σ := Nat × Nat) 2 #[true, true, true, true, true, true, false, false] (fun s_ => [(18, .agg #[.int .i64 t162, .int .i64 t163, .int .i64 t164, .int .i64 t165, .int .i64 t166, .int .i64 t167, .int .i64 t168, .int .i64 t169, .int .i64 t170, .int .i64 t171, .int .i64 t172]), (7, .pointer (some ⟨s_.1, 0, none⟩)), (8, .pointer (some ⟨s_.2, 0, none⟩))]) (fun s_ w' => (w'.cell? ⟨gb160, 0, none⟩ = some (.int .i64 a2_0) ∧ w'.cell? ⟨gb160, 1, none⟩ = some (.int .i64 a2_1) ∧ w'.cell? ⟨gb160, 2, none⟩ = some (.int .i64 a2_2) ∧ w'.cell? ⟨gb160, 3, none⟩ = some (.int .i64 a2_3) ∧ w'.cell? ⟨gb160, 4, none⟩ = some (.int .i64 a2_4) ∧ w'.cell? ⟨gb160, 5, none⟩ = some (.int .i64 (wrap64 (Int.tmod a0 5))) ∧ w'.cell? ⟨gb160, 6, none⟩ = some (.int .i64 a2_6)) ∧ (w'.heap[gb160]? = some (.cells #[.int .i64 a2_0, .int .i64 a2_1, .int .i64 a2_2, .int .i64 a2_3, .int .i64 a2_4, .int .i64 (wrap64 (Int.tmod a0 5)), .int .i64 a2_6] 25 (0, 0))) ∧ (w'.heap[s_.1]? = some (.cells #[.int .i64 0, .int .i64 0, .int .i64 0, .int .i64 0, .int .i64 0, .int .i64 0, .int .i64 0, .int .i64 0, .int .i64 0, .int .i64 0, .int .i64 0] 30 (0, 0))) ∧ (w'.heap[s_.2]? = some (.cells #[.int .i64 0, .int .i64 0, .int .i64 0, .int .i64 0, .int .i64 0, .int .i64 0, .int .i64 0, .int .i64 0, .int .i64 0, .int .i64 0, .int .i64 0] 30 (0, 0))) ∧ (w.heap.size ≤ s_.1) ∧ (w.heap.size ≤ s_.1) ∧ (gb160 ≠ s_.1) ∧ (s_.1 ≠ gb160) ∧ (s_.2 ≠ s_.1) ∧ (s_.1 ≠ s_.2) ∧ (w.heap.size ≤ s_.2) ∧ (w.heap.size ≤ s_.2) ∧ (gb160 ≠ s_.2) ∧ (s_.2 ≠ gb160) ∧ (Below w.heap.size w w')) ?_ ?_
    rotate_left
    · intro hJ1_4_5
      refine join_ (σ := Nat) 3 #[true, true, true, true, true, false, false, false] (fun s_ => [(18, .agg #[.int .i64 t162, .int .i64 t163, .int .i64 t164, .int .i64 t165, .int .i64 t166, .int .i64 t167, .int .i64 t168, .int .i64 t169, .int .i64 t170, .int .i64 t171, .int .i64 t172]), (7, .pointer (some ⟨s_, 0, none⟩))]) (fun s_ w' => (w'.cell? ⟨gb160, 0, none⟩ = some (.int .i64 a2_0) ∧ w'.cell? ⟨gb160, 1, none⟩ = some (.int .i64 a2_1) ∧ w'.cell? ⟨gb160, 2, none⟩ = some (.int .i64 a2_2) ∧ w'.cell? ⟨gb160, 3, none⟩ = some (.int .i64 a2_3) ∧ w'.cell? ⟨gb160, 4, none⟩ = some (.int .i64 a2_4) ∧ w'.cell? ⟨gb160, 5, none⟩ = some (.int .i64 (wrap64 (Int.tmod a0 5))) ∧ w'.cell? ⟨gb160, 6, none⟩ = some (.int .i64 a2_6)) ∧ (w'.heap[gb160]? = some (.cells #[.int .i64 a2_0, .int .i64 a2_1, .int .i64 a2_2, .int .i64 a2_3, .int .i64 a2_4, .int .i64 (wrap64 (Int.tmod a0 5)), .int .i64 a2_6] 25 (0, 0))) ∧ (w'.heap[s_]? = some (.cells #[.int .i64 0, .int .i64 0, .int .i64 0, .int .i64 0, .int .i64 0, .int .i64 0, .int .i64 0, .int .i64 0, .int .i64 0, .int .i64 0, .int .i64 0] 30 (0, 0))) ∧ (w.heap.size ≤ s_) ∧ (w.heap.size ≤ s_) ∧ (gb160 ≠ s_) ∧ (s_ ≠ gb160) ∧ (Below w.heap.size w w')) ?_ ?_
      rotate_left
      · intro hJ1_4
        refine join_ (σ := Nat) 3 #[true, true, true, true, false, true, false, false] (fun s_ => [(18, .agg #[.int .i64 t162, .int .i64 t163, .int .i64 t164, .int .i64 t165, .int .i64 t166, .int .i64 t167, .int .i64 t168, .int .i64 t169, .int .i64 t170, .int .i64 t171, .int .i64 t172]), (8, .pointer (some ⟨s_, 0, none⟩))]) (fun s_ w' => (w'.cell? ⟨gb160, 0, none⟩ = some (.int .i64 a2_0) ∧ w'.cell? ⟨gb160, 1, none⟩ = some (.int .i64 a2_1) ∧ w'.cell? ⟨gb160, 2, none⟩ = some (.int .i64 a2_2) ∧ w'.cell? ⟨gb160, 3, none⟩ = some (.int .i64 a2_3) ∧ w'.cell? ⟨gb160, 4, none⟩ = some (.int .i64 a2_4) ∧ w'.cell? ⟨gb160, 5, none⟩ = some (.int .i64 (wrap64 (Int.tmod a0 5))) ∧ w'.cell? ⟨gb160, 6, none⟩ = some (.int .i64 a2_6)) ∧ (w'.heap[gb160]? = some (.cells #[.int .i64 a2_0, .int .i64 a2_1, .int .i64 a2_2, .int .i64 a2_3, .int .i64 a2_4, .int .i64 (wrap64 (Int.tmod a0 5)), .int .i64 a2_6] 25 (0, 0))) ∧ (w'.heap[s_]? = some (.cells #[.int .i64 0, .int .i64 0, .int .i64 0, .int .i64 0, .int .i64 0, .int .i64 0, .int .i64 0, .int .i64 0, .int .i64 0, .int .i64 0, .int .i64 0] 30 (0, 0))) ∧ (w.heap.size ≤ s_) ∧ (w.heap.size ≤ s_) ∧ (gb160 ≠ s_) ∧ (s_ ≠ gb160) ∧ (Below w.heap.size w w')) ?_ ?_
        rotate_left
        · intro hJ1_5
          refine join_ (σ := Nat × Nat) 3 #[true, false, true, true, true, true, false, false] (fun s_ => [(7, .pointer (some ⟨s_.1, 0, none⟩)), (8, .pointer (some ⟨s_.2, 0, none⟩))]) (fun s_ w' => (w'.cell? ⟨gb160, 0, none⟩ = some (.int .i64 a2_0) ∧ w'.cell? ⟨gb160, 1, none⟩ = some (.int .i64 a2_1) ∧ w'.cell? ⟨gb160, 2, none⟩ = some (.int .i64 a2_2) ∧ w'.cell? ⟨gb160, 3, none⟩ = some (.int .i64 a2_3) ∧ w'.cell? ⟨gb160, 4, none⟩ = some (.int .i64 a2_4) ∧ w'.cell? ⟨gb160, 5, none⟩ = some (.int .i64 (wrap64 (Int.tmod a0 5))) ∧ w'.cell? ⟨gb160, 6, none⟩ = some (.int .i64 a2_6)) ∧ (w'.heap[gb160]? = some (.cells #[.int .i64 a2_0, .int .i64 a2_1, .int .i64 a2_2, .int .i64 a2_3, .int .i64 a2_4, .int .i64 (wrap64 (Int.tmod a0 5)), .int .i64 a2_6] 25 (0, 0))) ∧ (w'.heap[s_.1]? = some (.cells #[.int .i64 0, .int .i64 0, .int .i64 0, .int .i64 0, .int .i64 0, .int .i64 0, .int .i64 0, .int .i64 0, .int .i64 0, .int .i64 0, .int .i64 0] 30 (0, 0))) ∧ (w'.heap[s_.2]? = some (.cells #[.int .i64 0, .int .i64 0, .int .i64 0, .int .i64 0, .int .i64 0, .int .i64 0, .int .i64 0, .int .i64 0, .int .i64 0, .int .i64 0, .int .i64 0] 30 (0, 0))) ∧ (w.heap.size ≤ s_.1) ∧ (w.heap.size ≤ s_.1) ∧ (gb160 ≠ s_.1) ∧ (s_.1 ≠ gb160) ∧ (s_.2 ≠ s_.1) ∧ (s_.1 ≠ s_.2) ∧ (w.heap.size ≤ s_.2) ∧ (w.heap.size ≤ s_.2) ∧ (gb160 ≠ s_.2) ∧ (s_.2 ≠ gb160) ∧ (Below w.heap.size w w')) ?_ ?_
          rotate_left
          · intro hJ4_5
            refine join_ (σ := Unit) 4 #[true, true, true, true, false, false, false, false] (fun s_ => [(18, .agg #[.int .i64 t162, .int .i64 t163, .int .i64 t164, .int .i64 t165, .int .i64 t166, .int .i64 t167, .int .i64 t168, .int .i64 t169, .int .i64 t170, .int .i64 t171, .int .i64 t172])]) (fun s_ w' => (w'.cell? ⟨gb160, 0, none⟩ = some (.int .i64 a2_0) ∧ w'.cell? ⟨gb160, 1, none⟩ = some (.int .i64 a2_1) ∧ w'.cell? ⟨gb160, 2, none⟩ = some (.int .i64 a2_2) ∧ w'.cell? ⟨gb160, 3, none⟩ = some (.int .i64 a2_3) ∧ w'.cell? ⟨gb160, 4, none⟩ = some (.int .i64 a2_4) ∧ w'.cell? ⟨gb160, 5, none⟩ = some (.int .i64 (wrap64 (Int.tmod a0 5))) ∧ w'.cell? ⟨gb160, 6, none⟩ = some (.int .i64 a2_6)) ∧ (w'.heap[gb160]? = some (.cells #[.int .i64 a2_0, .int .i64 a2_1, .int .i64 a2_2, .int .i64 a2_3, .int .i64 a2_4, .int .i64 (wrap64 (Int.tmod a0 5)), .int .i64 a2_6] 25 (0, 0))) ∧ (Below w.heap.size w w')) ?_ ?_
            rotate_left
            · intro hJ1
              refine join_ (σ := Nat) 4 #[true, false, true, true, true, false, false, false] (fun s_ => [(7, .pointer (some ⟨s_, 0, none⟩))]) (fun s_ w' => (w'.cell? ⟨gb160, 0, none⟩ = some (.int .i64 a2_0) ∧ w'.cell? ⟨gb160, 1, none⟩ = some (.int .i64 a2_1) ∧ w'.cell? ⟨gb160, 2, none⟩ = some (.int .i64 a2_2) ∧ w'.cell? ⟨gb160, 3, none⟩ = some (.int .i64 a2_3) ∧ w'.cell? ⟨gb160, 4, none⟩ = some (.int .i64 a2_4) ∧ w'.cell? ⟨gb160, 5, none⟩ = some (.int .i64 (wrap64 (Int.tmod a0 5))) ∧ w'.cell? ⟨gb160, 6, none⟩ = some (.int .i64 a2_6)) ∧ (w'.heap[gb160]? = some (.cells #[.int .i64 a2_0, .int .i64 a2_1, .int .i64 a2_2, .int .i64 a2_3, .int .i64 a2_4, .int .i64 (wrap64 (Int.tmod a0 5)), .int .i64 a2_6] 25 (0, 0))) ∧ (w'.heap[s_]? = some (.cells #[.int .i64 0, .int .i64 0, .int .i64 0, .int .i64 0, .int .i64 0, .int .i64 0, .int .i64 0, .int .i64 0, .int .i64 0, .int .i64 0, .int .i64 0] 30 (0, 0))) ∧ (w.heap.size ≤ s_) ∧ (w.heap.size ≤ s_) ∧ (gb160 ≠ s_) ∧ (s_ ≠ gb160) ∧ (Below w.heap.size w w')) ?_ ?_
              rotate_left
              · intro hJ4
                refine join_ (σ := Nat) 4 #[true, false, true, true, false, true, false, false] (fun s_ => [(8, .pointer (some ⟨s_, 0, none⟩))]) (fun s_ w' => (w'.cell? ⟨gb160, 0, none⟩ = some (.int .i64 a2_0) ∧ w'.cell? ⟨gb160, 1, none⟩ = some (.int .i64 a2_1) ∧ w'.cell? ⟨gb160, 2, none⟩ = some (.int .i64 a2_2) ∧ w'.cell? ⟨gb160, 3, none⟩ = some (.int .i64 a2_3) ∧ w'.cell? ⟨gb160, 4, none⟩ = some (.int .i64 a2_4) ∧ w'.cell? ⟨gb160, 5, none⟩ = some (.int .i64 (wrap64 (Int.tmod a0 5))) ∧ w'.cell? ⟨gb160, 6, none⟩ = some (.int .i64 a2_6)) ∧ (w'.heap[gb160]? = some (.cells #[.int .i64 a2_0, .int .i64 a2_1, .int .i64 a2_2, .int .i64 a2_3, .int .i64 a2_4, .int .i64 (wrap64 (Int.tmod a0 5)), .int .i64 a2_6] 25 (0, 0))) ∧ (w'.heap[s_]? = some (.cells #[.int .i64 0, .int .i64 0, .int .i64 0, .int .i64 0, .int .i64 0, .int .i64 0, .int .i64 0, .int .i64 0, .int .i64 0, .int .i64 0, .int .i64 0] 30 (0, 0))) ∧ (w.heap.size ≤ s_) ∧ (w.heap.size ≤ s_) ∧ (gb160 ≠ s_) ∧ (s_ ≠ gb160) ∧ (Below w.heap.size w w')) ?_ ?_
                rotate_left
                · intro hJ5
                  refine three_ (i := 1) (j := 4) (k := 5) (Ni := some 18) (Nj := some 7) (Nk := some 8) #[true, true, true, true, false, false, false, false] #[true, false, true, true, true, false, false, false] #[true, false, true, true, false, true, false, false] rfl rfl rfl rfl rfl rfl (three_of HT_.out (by kernel_rfl)) (by decide) (by decide) (by decide) (fun K hK => ?_) (fun K hK => ?_) (fun K hK => ?_)
                  · skip
                    refine goes_ Try.func8 (by kernel_rfl) rfl #[.agg #[.int .i64 a2_0, .int .i64 a2_1, .int .i64 a2_2, .int .i64 a2_3, .int .i64 a2_4, .int .i64 (wrap64 (Int.tmod a0 5)), .int .i64 a2_6]] (by rfl) rfl rfl (by (try simp only [List.map_toArray, List.map_cons, List.map_nil]); first | done | rfl | (simp only [List.length_drop, List.length_take]; rfl)) ?_
                    with_reducible refine (saga_Begin.calls a2_0 a2_1 a2_2 a2_3 a2_4 (wrap64 (Int.tmod a0 5)) a2_6 t162 t163 t164 t165 t166 t167 t168 t169 t170 t171 t172 _ A6.out).mono ?_
                    rintro e w12 ⟨rfl, hb⟩
                    refine ⟨_, rfl, ?_⟩
                    have n0_ := Aside0.mk (blk_below (g := gb160) (o := .cells #[.int .i64 a2_0, .int .i64 a2_1, .int .i64 a2_2, .int .i64 a2_3, .int .i64 a2_4, .int .i64 (wrap64 (Int.tmod a0 5)), .int .i64 a2_6] 25 (0, 0)) (by (with_reducible repeat (first | refine blk_drewN ?_ _ | refine blk_drew ?_ | refine blk_alloc ?_ _)); exact BK160.out) hb)
                    have n1_ := Aside0.mk (below_step (by repeat (first | (with_reducible first | exact HB.out | apply below_alloc | apply pw_below_drewN | apply below_drew1 | refine below_set ?_ GE160.out) | exact HB.out)) hb)
                    clear BK160
                    clear HB
                    have BK160 := n0_
                    have HB := n1_
                    clear n0_ n1_
                    (try clear hb)
                    (try clear hb2)
                    (try clear hk)
                    (try clear hi)
                    refine hK.out _ _ ⟨(blk_cell BK160.out 0).trans rfl, (blk_cell BK160.out 1).trans rfl, (blk_cell BK160.out 2).trans rfl, (blk_cell BK160.out 3).trans rfl, (blk_cell BK160.out 4).trans rfl, (blk_cell BK160.out 5).trans rfl, (blk_cell BK160.out 6).trans rfl⟩ (fun hHeld => ?_)
                    clear hK K
                    refine norm_ (a' := ?_) ?_ ?_
                    rotate_left
                    · show Act.put _ (some 18) _ = _
                      simp only [Act.put, List.setIfInBounds_toArray, List.set_cons_zero, List.set_cons_succ, i64_w, i32_w]
                      rfl
                    exact norm_ (by first | (simp only [putAll, Act.put, List.setIfInBounds_toArray, List.set_cons_zero, List.set_cons_succ]; done) | (simp only [putAll, Act.put, List.setIfInBounds_toArray, List.set_cons_zero, List.set_cons_succ]; rfl)) (hJ1 () _ ⟨hHeld, (by (with_reducible repeat (first | refine blk_drewN ?_ _ | refine blk_drew ?_ | refine blk_alloc ?_ _)); exact BK160.out), (by repeat (first | (with_reducible first | exact HB.out | apply below_alloc | apply pw_below_drewN | apply below_drew1 | refine below_set ?_ GE160.out) | exact HB.out))⟩)
                  · skip
                    refine box_step ?hg (N := 7) ?hd (cs := #[.int .i64 0, .int .i64 0, .int .i64 0, .int .i64 0, .int .i64 0, .int .i64 0, .int .i64 0, .int .i64 0, .int .i64 0, .int .i64 0, .int .i64 0]) (t := 30) ?hr ?_; (case hd => rfl); (case hg => rfl); (case hr => first | (go_simp; done) | (go_simp; rfl))
                    intro gb173 hg w12 hbox hb
                    have n0_ := Aside0.mk (blk_below (g := gb160) (o := .cells #[.int .i64 a2_0, .int .i64 a2_1, .int .i64 a2_2, .int .i64 a2_3, .int .i64 a2_4, .int .i64 (wrap64 (Int.tmod a0 5)), .int .i64 a2_6] 25 (0, 0)) (by (with_reducible repeat (first | refine blk_drewN ?_ _ | refine blk_drew ?_ | refine blk_alloc ?_ _)); exact BK160.out) hb)
                    have n1_ := Aside0.mk (below_step (by repeat (first | (with_reducible first | exact HB.out | apply below_alloc | apply pw_below_drewN | apply below_drew1 | refine below_set ?_ GE160.out) | exact HB.out)) hb)
                    have n2_ := Aside0.mk (hbox)
                    have n3_ := Aside0.mk ((by rw [hg]; exact (below_size (by repeat (first | (with_reducible first | exact HB.out | apply below_alloc | apply pw_below_drewN | apply below_drew1 | refine below_set ?_ GE160.out) | exact HB.out))) : w.heap.size ≤ gb173))
                    have n4_ := Aside0.mk ((by rw [hg]; exact (below_size (by repeat (first | (with_reducible first | exact HB.out | apply below_alloc | apply pw_below_drewN | apply below_drew1 | refine below_set ?_ GE160.out) | exact HB.out))) : w.heap.size ≤ gb173))
                    have n5_ := Aside0.mk ((by rw [hg]; exact Nat.ne_of_lt (blk_lt (g := gb160) (o := .cells #[.int .i64 a2_0, .int .i64 a2_1, .int .i64 a2_2, .int .i64 a2_3, .int .i64 a2_4, .int .i64 (wrap64 (Int.tmod a0 5)), .int .i64 a2_6] 25 (0, 0)) (by (with_reducible repeat (first | refine blk_drewN ?_ _ | refine blk_drew ?_ | refine blk_alloc ?_ _)); exact BK160.out)) : gb160 ≠ gb173))
                    have n6_ := Aside0.mk ((by rw [hg]; exact Nat.ne_of_gt (blk_lt (g := gb160) (o := .cells #[.int .i64 a2_0, .int .i64 a2_1, .int .i64 a2_2, .int .i64 a2_3, .int .i64 a2_4, .int .i64 (wrap64 (Int.tmod a0 5)), .int .i64 a2_6] 25 (0, 0)) (by (with_reducible repeat (first | refine blk_drewN ?_ _ | refine blk_drew ?_ | refine blk_alloc ?_ _)); exact BK160.out)) : gb173 ≠ gb160))
                    clear BK160
                    clear HB
                    have BK160 := n0_
                    have HB := n1_
                    have BK173 := n2_
                    have GW173 := n3_
                    have GE173 := n4_
                    have NB160_173 := n5_
                    have NB173_160 := n6_
                    clear n0_ n1_ n2_ n3_ n4_ n5_ n6_
                    clear hb hbox hg
                    refine hK.out _ _ ⟨(blk_cell BK160.out 0).trans rfl, (blk_cell BK160.out 1).trans rfl, (blk_cell BK160.out 2).trans rfl, (blk_cell BK160.out 3).trans rfl, (blk_cell BK160.out 4).trans rfl, (blk_cell BK160.out 5).trans rfl, (blk_cell BK160.out 6).trans rfl⟩ (fun hHeld => ?_)
                    clear hK K
                    refine norm_ (a' := ?_) ?_ ?_
                    rotate_left
                    · show Act.put _ (some 7) _ = _
                      simp only [Act.put, List.setIfInBounds_toArray, List.set_cons_zero, List.set_cons_succ, i64_w, i32_w]
                      rfl
                    exact norm_ (by first | (simp only [putAll, Act.put, List.setIfInBounds_toArray, List.set_cons_zero, List.set_cons_succ]; done) | (simp only [putAll, Act.put, List.setIfInBounds_toArray, List.set_cons_zero, List.set_cons_succ]; rfl)) (hJ4 (gb173) _ ⟨hHeld, (by (with_reducible repeat (first | refine blk_drewN ?_ _ | refine blk_drew ?_ | refine blk_alloc ?_ _)); exact BK160.out), (by (with_reducible repeat (first | refine blk_drewN ?_ _ | refine blk_drew ?_ | refine blk_alloc ?_ _)); exact BK173.out), GW173.out, GE173.out, NB160_173.out, NB173_160.out, (by repeat (first | (with_reducible first | exact HB.out | apply below_alloc | apply pw_below_drewN | apply below_drew1 | refine below_set ?_ GE160.out | refine below_set ?_ GE173.out) | exact HB.out))⟩)
                  · skip
                    refine box_step ?hg (N := 8) ?hd (cs := #[.int .i64 0, .int .i64 0, .int .i64 0, .int .i64 0, .int .i64 0, .int .i64 0, .int .i64 0, .int .i64 0, .int .i64 0, .int .i64 0, .int .i64 0]) (t := 30) ?hr ?_; (case hd => rfl); (case hg => rfl); (case hr => first | (go_simp; done) | (go_simp; rfl))
                    intro gb174 hg w12 hbox hb
                    have n0_ := Aside0.mk (blk_below (g := gb160) (o := .cells #[.int .i64 a2_0, .int .i64 a2_1, .int .i64 a2_2, .int .i64 a2_3, .int .i64 a2_4, .int .i64 (wrap64 (Int.tmod a0 5)), .int .i64 a2_6] 25 (0, 0)) (by (with_reducible repeat (first | refine blk_drewN ?_ _ | refine blk_drew ?_ | refine blk_alloc ?_ _)); exact BK160.out) hb)
                    have n1_ := Aside0.mk (below_step (by repeat (first | (with_reducible first | exact HB.out | apply below_alloc | apply pw_below_drewN | apply below_drew1 | refine below_set ?_ GE160.out) | exact HB.out)) hb)
                    have n2_ := Aside0.mk (hbox)
                    have n3_ := Aside0.mk ((by rw [hg]; exact (below_size (by repeat (first | (with_reducible first | exact HB.out | apply below_alloc | apply pw_below_drewN | apply below_drew1 | refine below_set ?_ GE160.out) | exact HB.out))) : w.heap.size ≤ gb174))
                    have n4_ := Aside0.mk ((by rw [hg]; exact (below_size (by repeat (first | (with_reducible first | exact HB.out | apply below_alloc | apply pw_below_drewN | apply below_drew1 | refine below_set ?_ GE160.out) | exact HB.out))) : w.heap.size ≤ gb174))
                    have n5_ := Aside0.mk ((by rw [hg]; exact Nat.ne_of_lt (blk_lt (g := gb160) (o := .cells #[.int .i64 a2_0, .int .i64 a2_1, .int .i64 a2_2, .int .i64 a2_3, .int .i64 a2_4, .int .i64 (wrap64 (Int.tmod a0 5)), .int .i64 a2_6] 25 (0, 0)) (by (with_reducible repeat (first | refine blk_drewN ?_ _ | refine blk_drew ?_ | refine blk_alloc ?_ _)); exact BK160.out)) : gb160 ≠ gb174))
                    have n6_ := Aside0.mk ((by rw [hg]; exact Nat.ne_of_gt (blk_lt (g := gb160) (o := .cells #[.int .i64 a2_0, .int .i64 a2_1, .int .i64 a2_2, .int .i64 a2_3, .int .i64 a2_4, .int .i64 (wrap64 (Int.tmod a0 5)), .int .i64 a2_6] 25 (0, 0)) (by (with_reducible repeat (first | refine blk_drewN ?_ _ | refine blk_drew ?_ | refine blk_alloc ?_ _)); exact BK160.out)) : gb174 ≠ gb160))
                    clear BK160
                    clear HB
                    have BK160 := n0_
                    have HB := n1_
                    have BK174 := n2_
                    have GW174 := n3_
                    have GE174 := n4_
                    have NB160_174 := n5_
                    have NB174_160 := n6_
                    clear n0_ n1_ n2_ n3_ n4_ n5_ n6_
                    clear hb hbox hg
                    refine hK.out _ _ ⟨(blk_cell BK160.out 0).trans rfl, (blk_cell BK160.out 1).trans rfl, (blk_cell BK160.out 2).trans rfl, (blk_cell BK160.out 3).trans rfl, (blk_cell BK160.out 4).trans rfl, (blk_cell BK160.out 5).trans rfl, (blk_cell BK160.out 6).trans rfl⟩ (fun hHeld => ?_)
                    clear hK K
                    refine norm_ (a' := ?_) ?_ ?_
                    rotate_left
                    · show Act.put _ (some 8) _ = _
                      simp only [Act.put, List.setIfInBounds_toArray, List.set_cons_zero, List.set_cons_succ, i64_w, i32_w]
                      rfl
                    exact norm_ (by first | (simp only [putAll, Act.put, List.setIfInBounds_toArray, List.set_cons_zero, List.set_cons_succ]; done) | (simp only [putAll, Act.put, List.setIfInBounds_toArray, List.set_cons_zero, List.set_cons_succ]; rfl)) (hJ5 (gb174) _ ⟨hHeld, (by (with_reducible repeat (first | refine blk_drewN ?_ _ | refine blk_drew ?_ | refine blk_alloc ?_ _)); exact BK160.out), (by (with_reducible repeat (first | refine blk_drewN ?_ _ | refine blk_drew ?_ | refine blk_alloc ?_ _)); exact BK174.out), GW174.out, GE174.out, NB160_174.out, NB174_160.out, (by repeat (first | (with_reducible first | exact HB.out | apply below_alloc | apply pw_below_drewN | apply below_drew1 | refine below_set ?_ GE160.out | refine below_set ?_ GE174.out) | exact HB.out))⟩)
                · skip
                  rintro gb174 w13 ⟨hS_, h0_, h1_, h2_, h3_, h4_, h5_, h6_⟩
                  have n0_ : Aside0 (w13.heap[gb160]? = some (.cells #[.int .i64 a2_0, .int .i64 a2_1, .int .i64 a2_2, .int .i64 a2_3, .int .i64 a2_4, .int .i64 (wrap64 (Int.tmod a0 5)), .int .i64 a2_6] 25 (0, 0))) := ⟨h0_⟩
                  have n1_ : Aside0 (w13.heap[gb174]? = some (.cells #[.int .i64 0, .int .i64 0, .int .i64 0, .int .i64 0, .int .i64 0, .int .i64 0, .int .i64 0, .int .i64 0, .int .i64 0, .int .i64 0, .int .i64 0] 30 (0, 0))) := ⟨h1_⟩
                  have n2_ : Aside0 (w.heap.size ≤ gb174) := ⟨h2_⟩
                  have n3_ : Aside0 (w.heap.size ≤ gb174) := ⟨h3_⟩
                  have n4_ : Aside0 (gb160 ≠ gb174) := ⟨h4_⟩
                  have n5_ : Aside0 (gb174 ≠ gb160) := ⟨h5_⟩
                  have n6_ : Aside0 (Below w.heap.size w w13) := ⟨h6_⟩
                  clear BK160
                  clear HB
                  clear h0_ h1_ h2_ h3_ h4_ h5_ h6_
                  have BK160 := n0_
                  have BK174 := n1_
                  have GW174 := n2_
                  have GE174 := n3_
                  have NB160_174 := n4_
                  have NB174_160 := n5_
                  have HB := n6_
                  clear n0_ n1_ n2_ n3_ n4_ n5_ n6_
                  have hHeld : w13.cell? ⟨gb160, 0, none⟩ = some (.int .i64 a2_0) ∧ w13.cell? ⟨gb160, 1, none⟩ = some (.int .i64 a2_1) ∧ w13.cell? ⟨gb160, 2, none⟩ = some (.int .i64 a2_2) ∧ w13.cell? ⟨gb160, 3, none⟩ = some (.int .i64 a2_3) ∧ w13.cell? ⟨gb160, 4, none⟩ = some (.int .i64 a2_4) ∧ w13.cell? ⟨gb160, 5, none⟩ = some (.int .i64 (wrap64 (Int.tmod a0 5))) ∧ w13.cell? ⟨gb160, 6, none⟩ = some (.int .i64 a2_6) := hS_
                  refine norm_ (a' := ?_) ?_ ?_
                  rotate_left
                  · simp only [putAll, Act.put, List.setIfInBounds_toArray, List.set_cons_zero, List.set_cons_succ]
                    rfl
                  refine two_ (i := 1) (j := 4) (Ni := some 18) (Nj := some 7) #[true, true, true, true, false, true, false, false] #[true, false, true, true, true, true, false, false] rfl rfl rfl rfl (two_of HT_.out (by kernel_rfl)) (by decide) (by decide) (fun K hK => ?_) (fun K hK => ?_)
                  · skip
                    refine goes_ Try.func8 (by kernel_rfl) rfl #[.agg #[.int .i64 a2_0, .int .i64 a2_1, .int .i64 a2_2, .int .i64 a2_3, .int .i64 a2_4, .int .i64 (wrap64 (Int.tmod a0 5)), .int .i64 a2_6]] (by rfl) rfl rfl (by (try simp only [List.map_toArray, List.map_cons, List.map_nil]); first | done | rfl | (simp only [List.length_drop, List.length_take]; rfl)) ?_
                    with_reducible refine (saga_Begin.calls a2_0 a2_1 a2_2 a2_3 a2_4 (wrap64 (Int.tmod a0 5)) a2_6 t162 t163 t164 t165 t166 t167 t168 t169 t170 t171 t172 _ A6.out).mono ?_
                    rintro e w14 ⟨rfl, hb⟩
                    refine ⟨_, rfl, ?_⟩
                    have n0_ := Aside0.mk (blk_below (g := gb160) (o := .cells #[.int .i64 a2_0, .int .i64 a2_1, .int .i64 a2_2, .int .i64 a2_3, .int .i64 a2_4, .int .i64 (wrap64 (Int.tmod a0 5)), .int .i64 a2_6] 25 (0, 0)) (by (with_reducible repeat (first | refine blk_drewN ?_ _ | refine blk_drew ?_ | refine blk_alloc ?_ _)); exact BK160.out) hb)
                    have n1_ := Aside0.mk (blk_below (g := gb174) (o := .cells #[.int .i64 0, .int .i64 0, .int .i64 0, .int .i64 0, .int .i64 0, .int .i64 0, .int .i64 0, .int .i64 0, .int .i64 0, .int .i64 0, .int .i64 0] 30 (0, 0)) (by (with_reducible repeat (first | refine blk_drewN ?_ _ | refine blk_drew ?_ | refine blk_alloc ?_ _)); exact BK174.out) hb)
                    have n2_ := Aside0.mk (below_step (by repeat (first | (with_reducible first | exact HB.out | apply below_alloc | apply pw_below_drewN | apply below_drew1 | refine below_set ?_ GE160.out | refine below_set ?_ GE174.out) | exact HB.out)) hb)
                    clear BK160
                    clear BK174
                    clear HB
                    have BK160 := n0_
                    have BK174 := n1_
                    have HB := n2_
                    clear n0_ n1_ n2_
                    (try clear hb)
                    (try clear hb2)
                    (try clear hk)
                    (try clear hi)
                    refine hK.out _ _ ⟨(blk_cell BK160.out 0).trans rfl, (blk_cell BK160.out 1).trans rfl, (blk_cell BK160.out 2).trans rfl, (blk_cell BK160.out 3).trans rfl, (blk_cell BK160.out 4).trans rfl, (blk_cell BK160.out 5).trans rfl, (blk_cell BK160.out 6).trans rfl⟩ (fun hHeld => ?_)
                    clear hK K
                    refine norm_ (a' := ?_) ?_ ?_
                    rotate_left
                    · show Act.put _ (some 18) _ = _
                      simp only [Act.put, List.setIfInBounds_toArray, List.set_cons_zero, List.set_cons_succ, i64_w, i32_w]
                      rfl
                    exact norm_ (by first | (simp only [putAll, Act.put, List.setIfInBounds_toArray, List.set_cons_zero, List.set_cons_succ]; done) | (simp only [putAll, Act.put, List.setIfInBounds_toArray, List.set_cons_zero, List.set_cons_succ]; rfl)) (hJ1_5 (gb174) _ ⟨hHeld, (by (with_reducible repeat (first | refine blk_drewN ?_ _ | refine blk_drew ?_ | refine blk_alloc ?_ _)); exact BK160.out), (by (with_reducible repeat (first | refine blk_drewN ?_ _ | refine blk_drew ?_ | refine blk_alloc ?_ _)); exact BK174.out), GW174.out, GE174.out, NB160_174.out, NB174_160.out, (by repeat (first | (with_reducible first | exact HB.out | apply below_alloc | apply pw_below_drewN | apply below_drew1 | refine below_set ?_ GE160.out | refine below_set ?_ GE174.out) | exact HB.out))⟩)
                  · skip
                    refine box_step ?hg (N := 7) ?hd (cs := #[.int .i64 0, .int .i64 0, .int .i64 0, .int .i64 0, .int .i64 0, .int .i64 0, .int .i64 0, .int .i64 0, .int .i64 0, .int .i64 0, .int .i64 0]) (t := 30) ?hr ?_; (case hd => rfl); (case hg => rfl); (case hr => first | (go_simp; done) | (go_simp; rfl))
                    intro gb173 hg w14 hbox hb
                    have n0_ := Aside0.mk (blk_below (g := gb160) (o := .cells #[.int .i64 a2_0, .int .i64 a2_1, .int .i64 a2_2, .int .i64 a2_3, .int .i64 a2_4, .int .i64 (wrap64 (Int.tmod a0 5)), .int .i64 a2_6] 25 (0, 0)) (by (with_reducible repeat (first | refine blk_drewN ?_ _ | refine blk_drew ?_ | refine blk_alloc ?_ _)); exact BK160.out) hb)
                    have n1_ := Aside0.mk (blk_below (g := gb174) (o := .cells #[.int .i64 0, .int .i64 0, .int .i64 0, .int .i64 0, .int .i64 0, .int .i64 0, .int .i64 0, .int .i64 0, .int .i64 0, .int .i64 0, .int .i64 0] 30 (0, 0)) (by (with_reducible repeat (first | refine blk_drewN ?_ _ | refine blk_drew ?_ | refine blk_alloc ?_ _)); exact BK174.out) hb)
                    have n2_ := Aside0.mk (below_step (by repeat (first | (with_reducible first | exact HB.out | apply below_alloc | apply pw_below_drewN | apply below_drew1 | refine below_set ?_ GE160.out | refine below_set ?_ GE174.out) | exact HB.out)) hb)
                    have n3_ := Aside0.mk (hbox)
                    have n4_ := Aside0.mk ((by rw [hg]; exact (below_size (by repeat (first | (with_reducible first | exact HB.out | apply below_alloc | apply pw_below_drewN | apply below_drew1 | refine below_set ?_ GE160.out | refine below_set ?_ GE174.out) | exact HB.out))) : w.heap.size ≤ gb173))
                    have n5_ := Aside0.mk ((by rw [hg]; exact (below_size (by repeat (first | (with_reducible first | exact HB.out | apply below_alloc | apply pw_below_drewN | apply below_drew1 | refine below_set ?_ GE160.out | refine below_set ?_ GE174.out) | exact HB.out))) : w.heap.size ≤ gb173))
                    have n6_ := Aside0.mk ((by rw [hg]; exact Nat.ne_of_lt (blk_lt (g := gb160) (o := .cells #[.int .i64 a2_0, .int .i64 a2_1, .int .i64 a2_2, .int .i64 a2_3, .int .i64 a2_4, .int .i64 (wrap64 (Int.tmod a0 5)), .int .i64 a2_6] 25 (0, 0)) (by (with_reducible repeat (first | refine blk_drewN ?_ _ | refine blk_drew ?_ | refine blk_alloc ?_ _)); exact BK160.out)) : gb160 ≠ gb173))
                    have n7_ := Aside0.mk ((by rw [hg]; exact Nat.ne_of_gt (blk_lt (g := gb160) (o := .cells #[.int .i64 a2_0, .int .i64 a2_1, .int .i64 a2_2, .int .i64 a2_3, .int .i64 a2_4, .int .i64 (wrap64 (Int.tmod a0 5)), .int .i64 a2_6] 25 (0, 0)) (by (with_reducible repeat (first | refine blk_drewN ?_ _ | refine blk_drew ?_ | refine blk_alloc ?_ _)); exact BK160.out)) : gb173 ≠ gb160))
                    have n8_ := Aside0.mk ((by rw [hg]; exact Nat.ne_of_lt (blk_lt (g := gb174) (o := .cells #[.int .i64 0, .int .i64 0, .int .i64 0, .int .i64 0, .int .i64 0, .int .i64 0, .int .i64 0, .int .i64 0, .int .i64 0, .int .i64 0, .int .i64 0] 30 (0, 0)) (by (with_reducible repeat (first | refine blk_drewN ?_ _ | refine blk_drew ?_ | refine blk_alloc ?_ _)); exact BK174.out)) : gb174 ≠ gb173))
                    have n9_ := Aside0.mk ((by rw [hg]; exact Nat.ne_of_gt (blk_lt (g := gb174) (o := .cells #[.int .i64 0, .int .i64 0, .int .i64 0, .int .i64 0, .int .i64 0, .int .i64 0, .int .i64 0, .int .i64 0, .int .i64 0, .int .i64 0, .int .i64 0] 30 (0, 0)) (by (with_reducible repeat (first | refine blk_drewN ?_ _ | refine blk_drew ?_ | refine blk_alloc ?_ _)); exact BK174.out)) : gb173 ≠ gb174))
                    clear BK160
                    clear BK174
                    clear HB
                    have BK160 := n0_
                    have BK174 := n1_
                    have HB := n2_
                    have BK173 := n3_
                    have GW173 := n4_
                    have GE173 := n5_
                    have NB160_173 := n6_
                    have NB173_160 := n7_
                    have NB174_173 := n8_
                    have NB173_174 := n9_
                    clear n0_ n1_ n2_ n3_ n4_ n5_ n6_ n7_ n8_ n9_
                    clear hb hbox hg
                    refine hK.out _ _ ⟨(blk_cell BK160.out 0).trans rfl, (blk_cell BK160.out 1).trans rfl, (blk_cell BK160.out 2).trans rfl, (blk_cell BK160.out 3).trans rfl, (blk_cell BK160.out 4).trans rfl, (blk_cell BK160.out 5).trans rfl, (blk_cell BK160.out 6).trans rfl⟩ (fun hHeld => ?_)
                    clear hK K
                    refine norm_ (a' := ?_) ?_ ?_
                    rotate_left
                    · show Act.put _ (some 7) _ = _
                      simp only [Act.put, List.setIfInBounds_toArray, List.set_cons_zero, List.set_cons_succ, i64_w, i32_w]
                      rfl
                    exact norm_ (by first | (simp only [putAll, Act.put, List.setIfInBounds_toArray, List.set_cons_zero, List.set_cons_succ]; done) | (simp only [putAll, Act.put, List.setIfInBounds_toArray, List.set_cons_zero, List.set_cons_succ]; rfl)) (hJ4_5 (gb173, gb174) _ ⟨hHeld, (by (with_reducible repeat (first | refine blk_drewN ?_ _ | refine blk_drew ?_ | refine blk_alloc ?_ _)); exact BK160.out), (by (with_reducible repeat (first | refine blk_drewN ?_ _ | refine blk_drew ?_ | refine blk_alloc ?_ _)); exact BK173.out), (by (with_reducible repeat (first | refine blk_drewN ?_ _ | refine blk_drew ?_ | refine blk_alloc ?_ _)); exact BK174.out), GW173.out, GE173.out, NB160_173.out, NB173_160.out, NB174_173.out, NB173_174.out, GW174.out, GE174.out, NB160_174.out, NB174_160.out, (by repeat (first | (with_reducible first | exact HB.out | apply below_alloc | apply pw_below_drewN | apply below_drew1 | refine below_set ?_ GE160.out | refine below_set ?_ GE174.out | refine below_set ?_ GE173.out) | exact HB.out))⟩)
              · skip
                rintro gb173 w13 ⟨hS_, h0_, h1_, h2_, h3_, h4_, h5_, h6_⟩
                have n0_ : Aside0 (w13.heap[gb160]? = some (.cells #[.int .i64 a2_0, .int .i64 a2_1, .int .i64 a2_2, .int .i64 a2_3, .int .i64 a2_4, .int .i64 (wrap64 (Int.tmod a0 5)), .int .i64 a2_6] 25 (0, 0))) := ⟨h0_⟩
                have n1_ : Aside0 (w13.heap[gb173]? = some (.cells #[.int .i64 0, .int .i64 0, .int .i64 0, .int .i64 0, .int .i64 0, .int .i64 0, .int .i64 0, .int .i64 0, .int .i64 0, .int .i64 0, .int .i64 0] 30 (0, 0))) := ⟨h1_⟩
                have n2_ : Aside0 (w.heap.size ≤ gb173) := ⟨h2_⟩
                have n3_ : Aside0 (w.heap.size ≤ gb173) := ⟨h3_⟩
                have n4_ : Aside0 (gb160 ≠ gb173) := ⟨h4_⟩
                have n5_ : Aside0 (gb173 ≠ gb160) := ⟨h5_⟩
                have n6_ : Aside0 (Below w.heap.size w w13) := ⟨h6_⟩
                clear BK160
                clear HB
                clear h0_ h1_ h2_ h3_ h4_ h5_ h6_
                have BK160 := n0_
                have BK173 := n1_
                have GW173 := n2_
                have GE173 := n3_
                have NB160_173 := n4_
                have NB173_160 := n5_
                have HB := n6_
                clear n0_ n1_ n2_ n3_ n4_ n5_ n6_
                have hHeld : w13.cell? ⟨gb160, 0, none⟩ = some (.int .i64 a2_0) ∧ w13.cell? ⟨gb160, 1, none⟩ = some (.int .i64 a2_1) ∧ w13.cell? ⟨gb160, 2, none⟩ = some (.int .i64 a2_2) ∧ w13.cell? ⟨gb160, 3, none⟩ = some (.int .i64 a2_3) ∧ w13.cell? ⟨gb160, 4, none⟩ = some (.int .i64 a2_4) ∧ w13.cell? ⟨gb160, 5, none⟩ = some (.int .i64 (wrap64 (Int.tmod a0 5))) ∧ w13.cell? ⟨gb160, 6, none⟩ = some (.int .i64 a2_6) := hS_
                refine norm_ (a' := ?_) ?_ ?_
                rotate_left
                · simp only [putAll, Act.put, List.setIfInBounds_toArray, List.set_cons_zero, List.set_cons_succ]
                  rfl
                refine two_ (i := 1) (j := 5) (Ni := some 18) (Nj := some 8) #[true, true, true, true, true, false, false, false] #[true, false, true, true, true, true, false, false] rfl rfl rfl rfl (two_of HT_.out (by kernel_rfl)) (by decide) (by decide) (fun K hK => ?_) (fun K hK => ?_)
                · skip
                  refine goes_ Try.func8 (by kernel_rfl) rfl #[.agg #[.int .i64 a2_0, .int .i64 a2_1, .int .i64 a2_2, .int .i64 a2_3, .int .i64 a2_4, .int .i64 (wrap64 (Int.tmod a0 5)), .int .i64 a2_6]] (by rfl) rfl rfl (by (try simp only [List.map_toArray, List.map_cons, List.map_nil]); first | done | rfl | (simp only [List.length_drop, List.length_take]; rfl)) ?_
                  with_reducible refine (saga_Begin.calls a2_0 a2_1 a2_2 a2_3 a2_4 (wrap64 (Int.tmod a0 5)) a2_6 t162 t163 t164 t165 t166 t167 t168 t169 t170 t171 t172 _ A6.out).mono ?_
                  rintro e w14 ⟨rfl, hb⟩
                  refine ⟨_, rfl, ?_⟩
                  have n0_ := Aside0.mk (blk_below (g := gb160) (o := .cells #[.int .i64 a2_0, .int .i64 a2_1, .int .i64 a2_2, .int .i64 a2_3, .int .i64 a2_4, .int .i64 (wrap64 (Int.tmod a0 5)), .int .i64 a2_6] 25 (0, 0)) (by (with_reducible repeat (first | refine blk_drewN ?_ _ | refine blk_drew ?_ | refine blk_alloc ?_ _)); exact BK160.out) hb)
                  have n1_ := Aside0.mk (blk_below (g := gb173) (o := .cells #[.int .i64 0, .int .i64 0, .int .i64 0, .int .i64 0, .int .i64 0, .int .i64 0, .int .i64 0, .int .i64 0, .int .i64 0, .int .i64 0, .int .i64 0] 30 (0, 0)) (by (with_reducible repeat (first | refine blk_drewN ?_ _ | refine blk_drew ?_ | refine blk_alloc ?_ _)); exact BK173.out) hb)
                  have n2_ := Aside0.mk (below_step (by repeat (first | (with_reducible first | exact HB.out | apply below_alloc | apply pw_below_drewN | apply below_drew1 | refine below_set ?_ GE160.out | refine below_set ?_ GE173.out) | exact HB.out)) hb)
                  clear BK160
                  clear BK173
                  clear HB
                  have BK160 := n0_
                  have BK173 := n1_
                  have HB := n2_
                  clear n0_ n1_ n2_
                  (try clear hb)
                  (try clear hb2)
                  (try clear hk)
                  (try clear hi)
                  refine hK.out _ _ ⟨(blk_cell BK160.out 0).trans rfl, (blk_cell BK160.out 1).trans rfl, (blk_cell BK160.out 2).trans rfl, (blk_cell BK160.out 3).trans rfl, (blk_cell BK160.out 4).trans rfl, (blk_cell BK160.out 5).trans rfl, (blk_cell BK160.out 6).trans rfl⟩ (fun hHeld => ?_)
                  clear hK K
                  refine norm_ (a' := ?_) ?_ ?_
                  rotate_left
                  · show Act.put _ (some 18) _ = _
                    simp only [Act.put, List.setIfInBounds_toArray, List.set_cons_zero, List.set_cons_succ, i64_w, i32_w]
                    rfl
                  exact norm_ (by first | (simp only [putAll, Act.put, List.setIfInBounds_toArray, List.set_cons_zero, List.set_cons_succ]; done) | (simp only [putAll, Act.put, List.setIfInBounds_toArray, List.set_cons_zero, List.set_cons_succ]; rfl)) (hJ1_4 (gb173) _ ⟨hHeld, (by (with_reducible repeat (first | refine blk_drewN ?_ _ | refine blk_drew ?_ | refine blk_alloc ?_ _)); exact BK160.out), (by (with_reducible repeat (first | refine blk_drewN ?_ _ | refine blk_drew ?_ | refine blk_alloc ?_ _)); exact BK173.out), GW173.out, GE173.out, NB160_173.out, NB173_160.out, (by repeat (first | (with_reducible first | exact HB.out | apply below_alloc | apply pw_below_drewN | apply below_drew1 | refine below_set ?_ GE160.out | refine below_set ?_ GE173.out) | exact HB.out))⟩)
                · skip
                  refine box_step ?hg (N := 8) ?hd (cs := #[.int .i64 0, .int .i64 0, .int .i64 0, .int .i64 0, .int .i64 0, .int .i64 0, .int .i64 0, .int .i64 0, .int .i64 0, .int .i64 0, .int .i64 0]) (t := 30) ?hr ?_; (case hd => rfl); (case hg => rfl); (case hr => first | (go_simp; done) | (go_simp; rfl))
                  intro gb174 hg w14 hbox hb
                  have n0_ := Aside0.mk (blk_below (g := gb160) (o := .cells #[.int .i64 a2_0, .int .i64 a2_1, .int .i64 a2_2, .int .i64 a2_3, .int .i64 a2_4, .int .i64 (wrap64 (Int.tmod a0 5)), .int .i64 a2_6] 25 (0, 0)) (by (with_reducible repeat (first | refine blk_drewN ?_ _ | refine blk_drew ?_ | refine blk_alloc ?_ _)); exact BK160.out) hb)
                  have n1_ := Aside0.mk (blk_below (g := gb173) (o := .cells #[.int .i64 0, .int .i64 0, .int .i64 0, .int .i64 0, .int .i64 0, .int .i64 0, .int .i64 0, .int .i64 0, .int .i64 0, .int .i64 0, .int .i64 0] 30 (0, 0)) (by (with_reducible repeat (first | refine blk_drewN ?_ _ | refine blk_drew ?_ | refine blk_alloc ?_ _)); exact BK173.out) hb)
                  have n2_ := Aside0.mk (below_step (by repeat (first | (with_reducible first | exact HB.out | apply below_alloc | apply pw_below_drewN | apply below_drew1 | refine below_set ?_ GE160.out | refine below_set ?_ GE173.out) | exact HB.out)) hb)
                  have n3_ := Aside0.mk (hbox)
                  have n4_ := Aside0.mk ((by rw [hg]; exact (below_size (by repeat (first | (with_reducible first | exact HB.out | apply below_alloc | apply pw_below_drewN | apply below_drew1 | refine below_set ?_ GE160.out | refine below_set ?_ GE173.out) | exact HB.out))) : w.heap.size ≤ gb174))
                  have n5_ := Aside0.mk ((by rw [hg]; exact (below_size (by repeat (first | (with_reducible first | exact HB.out | apply below_alloc | apply pw_below_drewN | apply below_drew1 | refine below_set ?_ GE160.out | refine below_set ?_ GE173.out) | exact HB.out))) : w.heap.size ≤ gb174))
                  have n6_ := Aside0.mk ((by rw [hg]; exact Nat.ne_of_lt (blk_lt (g := gb160) (o := .cells #[.int .i64 a2_0, .int .i64 a2_1, .int .i64 a2_2, .int .i64 a2_3, .int .i64 a2_4, .int .i64 (wrap64 (Int.tmod a0 5)), .int .i64 a2_6] 25 (0, 0)) (by (with_reducible repeat (first | refine blk_drewN ?_ _ | refine blk_drew ?_ | refine blk_alloc ?_ _)); exact BK160.out)) : gb160 ≠ gb174))
                  have n7_ := Aside0.mk ((by rw [hg]; exact Nat.ne_of_gt (blk_lt (g := gb160) (o := .cells #[.int .i64 a2_0, .int .i64 a2_1, .int .i64 a2_2, .int .i64 a2_3, .int .i64 a2_4, .int .i64 (wrap64 (Int.tmod a0 5)), .int .i64 a2_6] 25 (0, 0)) (by (with_reducible repeat (first | refine blk_drewN ?_ _ | refine blk_drew ?_ | refine blk_alloc ?_ _)); exact BK160.out)) : gb174 ≠ gb160))
                  have n8_ := Aside0.mk ((by rw [hg]; exact Nat.ne_of_lt (blk_lt (g := gb173) (o := .cells #[.int .i64 0, .int .i64 0, .int .i64 0, .int .i64 0, .int .i64 0, .int .i64 0, .int .i64 0, .int .i64 0, .int .i64 0, .int .i64 0, .int .i64 0] 30 (0, 0)) (by (with_reducible repeat (first | refine blk_drewN ?_ _ | refine blk_drew ?_ | refine blk_alloc ?_ _)); exact BK173.out)) : gb173 ≠ gb174))
                  have n9_ := Aside0.mk ((by rw [hg]; exact Nat.ne_of_gt (blk_lt (g := gb173) (o := .cells #[.int .i64 0, .int .i64 0, .int .i64 0, .int .i64 0, .int .i64 0, .int .i64 0, .int .i64 0, .int .i64 0, .int .i64 0, .int .i64 0, .int .i64 0] 30 (0, 0)) (by (with_reducible repeat (first | refine blk_drewN ?_ _ | refine blk_drew ?_ | refine blk_alloc ?_ _)); exact BK173.out)) : gb174 ≠ gb173))
                  clear BK160
                  clear BK173
                  clear HB
                  have BK160 := n0_
                  have BK173 := n1_
                  have HB := n2_
                  have BK174 := n3_
                  have GW174 := n4_
                  have GE174 := n5_
                  have NB160_174 := n6_
                  have NB174_160 := n7_
                  have NB173_174 := n8_
                  have NB174_173 := n9_
                  clear n0_ n1_ n2_ n3_ n4_ n5_ n6_ n7_ n8_ n9_
                  clear hb hbox hg
                  refine hK.out _ _ ⟨(blk_cell BK160.out 0).trans rfl, (blk_cell BK160.out 1).trans rfl, (blk_cell BK160.out 2).trans rfl, (blk_cell BK160.out 3).trans rfl, (blk_cell BK160.out 4).trans rfl, (blk_cell BK160.out 5).trans rfl, (blk_cell BK160.out 6).trans rfl⟩ (fun hHeld => ?_)
                  clear hK K
                  refine norm_ (a' := ?_) ?_ ?_
                  rotate_left
                  · show Act.put _ (some 8) _ = _
                    simp only [Act.put, List.setIfInBounds_toArray, List.set_cons_zero, List.set_cons_succ, i64_w, i32_w]
                    rfl
                  exact norm_ (by first | (simp only [putAll, Act.put, List.setIfInBounds_toArray, List.set_cons_zero, List.set_cons_succ]; done) | (simp only [putAll, Act.put, List.setIfInBounds_toArray, List.set_cons_zero, List.set_cons_succ]; rfl)) (hJ4_5 (gb173, gb174) _ ⟨hHeld, (by (with_reducible repeat (first | refine blk_drewN ?_ _ | refine blk_drew ?_ | refine blk_alloc ?_ _)); exact BK160.out), (by (with_reducible repeat (first | refine blk_drewN ?_ _ | refine blk_drew ?_ | refine blk_alloc ?_ _)); exact BK173.out), (by (with_reducible repeat (first | refine blk_drewN ?_ _ | refine blk_drew ?_ | refine blk_alloc ?_ _)); exact BK174.out), GW173.out, GE173.out, NB160_173.out, NB173_160.out, NB174_173.out, NB173_174.out, GW174.out, GE174.out, NB160_174.out, NB174_160.out, (by repeat (first | (with_reducible first | exact HB.out | apply below_alloc | apply pw_below_drewN | apply below_drew1 | refine below_set ?_ GE160.out | refine below_set ?_ GE173.out | refine below_set ?_ GE174.out) | exact HB.out))⟩)
            · skip
              rintro _ w13 ⟨hS_, h0_, h1_⟩
              have n0_ : Aside0 (w13.heap[gb160]? = some (.cells #[.int .i64 a2_0, .int .i64 a2_1, .int .i64 a2_2, .int .i64 a2_3, .int .i64 a2_4, .int .i64 (wrap64 (Int.tmod a0 5)), .int .i64 a2_6] 25 (0, 0))) := ⟨h0_⟩
              have n1_ : Aside0 (Below w.heap.size w w13) := ⟨h1_⟩
              clear BK160
              clear HB
              clear h0_ h1_
              have BK160 := n0_
              have HB := n1_
              clear n0_ n1_
              have hHeld : w13.cell? ⟨gb160, 0, none⟩ = some (.int .i64 a2_0) ∧ w13.cell? ⟨gb160, 1, none⟩ = some (.int .i64 a2_1) ∧ w13.cell? ⟨gb160, 2, none⟩ = some (.int .i64 a2_2) ∧ w13.cell? ⟨gb160, 3, none⟩ = some (.int .i64 a2_3) ∧ w13.cell? ⟨gb160, 4, none⟩ = some (.int .i64 a2_4) ∧ w13.cell? ⟨gb160, 5, none⟩ = some (.int .i64 (wrap64 (Int.tmod a0 5))) ∧ w13.cell? ⟨gb160, 6, none⟩ = some (.int .i64 a2_6) := hS_
              refine norm_ (a' := ?_) ?_ ?_
              rotate_left
              · simp only [putAll, Act.put, List.setIfInBounds_toArray, List.set_cons_zero, List.set_cons_succ]
                rfl
              refine two_ (i := 4) (j := 5) (Ni := some 7) (Nj := some 8) #[true, true, true, true, true, false, false, false] #[true, true, true, true, false, true, false, false] rfl rfl rfl rfl (two_of HT_.out (by kernel_rfl)) (by decide) (by decide) (fun K hK => ?_) (fun K hK => ?_)
              · skip
                refine box_step ?hg (N := 7) ?hd (cs := #[.int .i64 0, .int .i64 0, .int .i64 0, .int .i64 0, .int .i64 0, .int .i64 0, .int .i64 0, .int .i64 0, .int .i64 0, .int .i64 0, .int .i64 0]) (t := 30) ?hr ?_; (case hd => rfl); (case hg => rfl); (case hr => first | (go_simp; done) | (go_simp; rfl))
                intro gb173 hg w14 hbox hb
                have n0_ := Aside0.mk (blk_below (g := gb160) (o := .cells #[.int .i64 a2_0, .int .i64 a2_1, .int .i64 a2_2, .int .i64 a2_3, .int .i64 a2_4, .int .i64 (wrap64 (Int.tmod a0 5)), .int .i64 a2_6] 25 (0, 0)) (by (with_reducible repeat (first | refine blk_drewN ?_ _ | refine blk_drew ?_ | refine blk_alloc ?_ _)); exact BK160.out) hb)
                have n1_ := Aside0.mk (below_step (by repeat (first | (with_reducible first | exact HB.out | apply below_alloc | apply pw_below_drewN | apply below_drew1 | refine below_set ?_ GE160.out) | exact HB.out)) hb)
                have n2_ := Aside0.mk (hbox)
                have n3_ := Aside0.mk ((by rw [hg]; exact (below_size (by repeat (first | (with_reducible first | exact HB.out | apply below_alloc | apply pw_below_drewN | apply below_drew1 | refine below_set ?_ GE160.out) | exact HB.out))) : w.heap.size ≤ gb173))
                have n4_ := Aside0.mk ((by rw [hg]; exact (below_size (by repeat (first | (with_reducible first | exact HB.out | apply below_alloc | apply pw_below_drewN | apply below_drew1 | refine below_set ?_ GE160.out) | exact HB.out))) : w.heap.size ≤ gb173))
                have n5_ := Aside0.mk ((by rw [hg]; exact Nat.ne_of_lt (blk_lt (g := gb160) (o := .cells #[.int .i64 a2_0, .int .i64 a2_1, .int .i64 a2_2, .int .i64 a2_3, .int .i64 a2_4, .int .i64 (wrap64 (Int.tmod a0 5)), .int .i64 a2_6] 25 (0, 0)) (by (with_reducible repeat (first | refine blk_drewN ?_ _ | refine blk_drew ?_ | refine blk_alloc ?_ _)); exact BK160.out)) : gb160 ≠ gb173))
                have n6_ := Aside0.mk ((by rw [hg]; exact Nat.ne_of_gt (blk_lt (g := gb160) (o := .cells #[.int .i64 a2_0, .int .i64 a2_1, .int .i64 a2_2, .int .i64 a2_3, .int .i64 a2_4, .int .i64 (wrap64 (Int.tmod a0 5)), .int .i64 a2_6] 25 (0, 0)) (by (with_reducible repeat (first | refine blk_drewN ?_ _ | refine blk_drew ?_ | refine blk_alloc ?_ _)); exact BK160.out)) : gb173 ≠ gb160))
                clear BK160
                clear HB
                have BK160 := n0_
                have HB := n1_
                have BK173 := n2_
                have GW173 := n3_
                have GE173 := n4_
                have NB160_173 := n5_
                have NB173_160 := n6_
                clear n0_ n1_ n2_ n3_ n4_ n5_ n6_
                clear hb hbox hg
                refine hK.out _ _ ⟨(blk_cell BK160.out 0).trans rfl, (blk_cell BK160.out 1).trans rfl, (blk_cell BK160.out 2).trans rfl, (blk_cell BK160.out 3).trans rfl, (blk_cell BK160.out 4).trans rfl, (blk_cell BK160.out 5).trans rfl, (blk_cell BK160.out 6).trans rfl⟩ (fun hHeld => ?_)
                clear hK K
                refine norm_ (a' := ?_) ?_ ?_
                rotate_left
                · show Act.put _ (some 7) _ = _
                  simp only [Act.put, List.setIfInBounds_toArray, List.set_cons_zero, List.set_cons_succ, i64_w, i32_w]
                  rfl
                exact norm_ (by first | (simp only [putAll, Act.put, List.setIfInBounds_toArray, List.set_cons_zero, List.set_cons_succ]; done) | (simp only [putAll, Act.put, List.setIfInBounds_toArray, List.set_cons_zero, List.set_cons_succ]; rfl)) (hJ1_4 (gb173) _ ⟨hHeld, (by (with_reducible repeat (first | refine blk_drewN ?_ _ | refine blk_drew ?_ | refine blk_alloc ?_ _)); exact BK160.out), (by (with_reducible repeat (first | refine blk_drewN ?_ _ | refine blk_drew ?_ | refine blk_alloc ?_ _)); exact BK173.out), GW173.out, GE173.out, NB160_173.out, NB173_160.out, (by repeat (first | (with_reducible first | exact HB.out | apply below_alloc | apply pw_below_drewN | apply below_drew1 | refine below_set ?_ GE160.out | refine below_set ?_ GE173.out) | exact HB.out))⟩)
              · skip
                refine box_step ?hg (N := 8) ?hd (cs := #[.int .i64 0, .int .i64 0, .int .i64 0, .int .i64 0, .int .i64 0, .int .i64 0, .int .i64 0, .int .i64 0, .int .i64 0, .int .i64 0, .int .i64 0]) (t := 30) ?hr ?_; (case hd => rfl); (case hg => rfl); (case hr => first | (go_simp; done) | (go_simp; rfl))
                intro gb174 hg w14 hbox hb
                have n0_ := Aside0.mk (blk_below (g := gb160) (o := .cells #[.int .i64 a2_0, .int .i64 a2_1, .int .i64 a2_2, .int .i64 a2_3, .int .i64 a2_4, .int .i64 (wrap64 (Int.tmod a0 5)), .int .i64 a2_6] 25 (0, 0)) (by (with_reducible repeat (first | refine blk_drewN ?_ _ | refine blk_drew ?_ | refine blk_alloc ?_ _)); exact BK160.out) hb)
                have n1_ := Aside0.mk (below_step (by repeat (first | (with_reducible first | exact HB.out | apply below_alloc | apply pw_below_drewN | apply below_drew1 | refine below_set ?_ GE160.out) | exact HB.out)) hb)
                have n2_ := Aside0.mk (hbox)
                have n3_ := Aside0.mk ((by rw [hg]; exact (below_size (by repeat (first | (with_reducible first | exact HB.out | apply below_alloc | apply pw_below_drewN | apply below_drew1 | refine below_set ?_ GE160.out) | exact HB.out))) : w.heap.size ≤ gb174))
                have n4_ := Aside0.mk ((by rw [hg]; exact (below_size (by repeat (first | (with_reducible first | exact HB.out | apply below_alloc | apply pw_below_drewN | apply below_drew1 | refine below_set ?_ GE160.out) | exact HB.out))) : w.heap.size ≤ gb174))
                have n5_ := Aside0.mk ((by rw [hg]; exact Nat.ne_of_lt (blk_lt (g := gb160) (o := .cells #[.int .i64 a2_0, .int .i64 a2_1, .int .i64 a2_2, .int .i64 a2_3, .int .i64 a2_4, .int .i64 (wrap64 (Int.tmod a0 5)), .int .i64 a2_6] 25 (0, 0)) (by (with_reducible repeat (first | refine blk_drewN ?_ _ | refine blk_drew ?_ | refine blk_alloc ?_ _)); exact BK160.out)) : gb160 ≠ gb174))
                have n6_ := Aside0.mk ((by rw [hg]; exact Nat.ne_of_gt (blk_lt (g := gb160) (o := .cells #[.int .i64 a2_0, .int .i64 a2_1, .int .i64 a2_2, .int .i64 a2_3, .int .i64 a2_4, .int .i64 (wrap64 (Int.tmod a0 5)), .int .i64 a2_6] 25 (0, 0)) (by (with_reducible repeat (first | refine blk_drewN ?_ _ | refine blk_drew ?_ | refine blk_alloc ?_ _)); exact BK160.out)) : gb174 ≠ gb160))
                clear BK160
                clear HB
                have BK160 := n0_
                have HB := n1_
                have BK174 := n2_
                have GW174 := n3_
                have GE174 := n4_
                have NB160_174 := n5_
                have NB174_160 := n6_
                clear n0_ n1_ n2_ n3_ n4_ n5_ n6_
                clear hb hbox hg
                refine hK.out _ _ ⟨(blk_cell BK160.out 0).trans rfl, (blk_cell BK160.out 1).trans rfl, (blk_cell BK160.out 2).trans rfl, (blk_cell BK160.out 3).trans rfl, (blk_cell BK160.out 4).trans rfl, (blk_cell BK160.out 5).trans rfl, (blk_cell BK160.out 6).trans rfl⟩ (fun hHeld => ?_)
                clear hK K
                refine norm_ (a' := ?_) ?_ ?_
                rotate_left
                · show Act.put _ (some 8) _ = _
                  simp only [Act.put, List.setIfInBounds_toArray, List.set_cons_zero, List.set_cons_succ, i64_w, i32_w]
                  rfl
                exact norm_ (by first | (simp only [putAll, Act.put, List.setIfInBounds_toArray, List.set_cons_zero, List.set_cons_succ]; done) | (simp only [putAll, Act.put, List.setIfInBounds_toArray, List.set_cons_zero, List.set_cons_succ]; rfl)) (hJ1_5 (gb174) _ ⟨hHeld, (by (with_reducible repeat (first | refine blk_drewN ?_ _ | refine blk_drew ?_ | refine blk_alloc ?_ _)); exact BK160.out), (by (with_reducible repeat (first | refine blk_drewN ?_ _ | refine blk_drew ?_ | refine blk_alloc ?_ _)); exact BK174.out), GW174.out, GE174.out, NB160_174.out, NB174_160.out, (by repeat (first | (with_reducible first | exact HB.out | apply below_alloc | apply pw_below_drewN | apply below_drew1 | refine below_set ?_ GE160.out | refine below_set ?_ GE174.out) | exact HB.out))⟩)
          · skip
            rintro ⟨gb173, gb174⟩ w14 ⟨hS_, h0_, h1_, h2_, h3_, h4_, h5_, h6_, h7_, h8_, h9_, h10_, h11_, h12_, h13_⟩
            have n0_ : Aside0 (w14.heap[gb160]? = some (.cells #[.int .i64 a2_0, .int .i64 a2_1, .int .i64 a2_2, .int .i64 a2_3, .int .i64 a2_4, .int .i64 (wrap64 (Int.tmod a0 5)), .int .i64 a2_6] 25 (0, 0))) := ⟨h0_⟩
            have n1_ : Aside0 (w14.heap[gb173]? = some (.cells #[.int .i64 0, .int .i64 0, .int .i64 0, .int .i64 0, .int .i64 0, .int .i64 0, .int .i64 0, .int .i64 0, .int .i64 0, .int .i64 0, .int .i64 0] 30 (0, 0))) := ⟨h1_⟩
            have n2_ : Aside0 (w14.heap[gb174]? = some (.cells #[.int .i64 0, .int .i64 0, .int .i64 0, .int .i64 0, .int .i64 0, .int .i64 0, .int .i64 0, .int .i64 0, .int .i64 0, .int .i64 0, .int .i64 0] 30 (0, 0))) := ⟨h2_⟩
            have n3_ : Aside0 (w.heap.size ≤ gb173) := ⟨h3_⟩
            have n4_ : Aside0 (w.heap.size ≤ gb173) := ⟨h4_⟩
            have n5_ : Aside0 (gb160 ≠ gb173) := ⟨h5_⟩
            have n6_ : Aside0 (gb173 ≠ gb160) := ⟨h6_⟩
            have n7_ : Aside0 (gb174 ≠ gb173) := ⟨h7_⟩
            have n8_ : Aside0 (gb173 ≠ gb174) := ⟨h8_⟩
            have n9_ : Aside0 (w.heap.size ≤ gb174) := ⟨h9_⟩
            have n10_ : Aside0 (w.heap.size ≤ gb174) := ⟨h10_⟩
            have n11_ : Aside0 (gb160 ≠ gb174) := ⟨h11_⟩
            have n12_ : Aside0 (gb174 ≠ gb160) := ⟨h12_⟩
            have n13_ : Aside0 (Below w.heap.size w w14) := ⟨h13_⟩
            clear BK160
            clear HB
            clear h0_ h1_ h2_ h3_ h4_ h5_ h6_ h7_ h8_ h9_ h10_ h11_ h12_ h13_
            have BK160 := n0_
            have BK173 := n1_
            have BK174 := n2_
            have GW173 := n3_
            have GE173 := n4_
            have NB160_173 := n5_
            have NB173_160 := n6_
            have NB174_173 := n7_
            have NB173_174 := n8_
            have GW174 := n9_
            have GE174 := n10_
            have NB160_174 := n11_
            have NB174_160 := n12_
            have HB := n13_
            clear n0_ n1_ n2_ n3_ n4_ n5_ n6_ n7_ n8_ n9_ n10_ n11_ n12_ n13_
            have hHeld : w14.cell? ⟨gb160, 0, none⟩ = some (.int .i64 a2_0) ∧ w14.cell? ⟨gb160, 1, none⟩ = some (.int .i64 a2_1) ∧ w14.cell? ⟨gb160, 2, none⟩ = some (.int .i64 a2_2) ∧ w14.cell? ⟨gb160, 3, none⟩ = some (.int .i64 a2_3) ∧ w14.cell? ⟨gb160, 4, none⟩ = some (.int .i64 a2_4) ∧ w14.cell? ⟨gb160, 5, none⟩ = some (.int .i64 (wrap64 (Int.tmod a0 5))) ∧ w14.cell? ⟨gb160, 6, none⟩ = some (.int .i64 a2_6) := hS_
            refine norm_ (a' := ?_) ?_ ?_
            rotate_left
            · simp only [putAll, Act.put, List.setIfInBounds_toArray, List.set_cons_zero, List.set_cons_succ]
              rfl
            refine one_ (i := 1) (N := some 18) #[true, true, true, true, true, true, false, false] rfl rfl (one_of HT_.out (by kernel_rfl)) (by decide) (fun K hK => ?_)
            refine goes_ Try.func8 (by kernel_rfl) rfl #[.agg #[.int .i64 a2_0, .int .i64 a2_1, .int .i64 a2_2, .int .i64 a2_3, .int .i64 a2_4, .int .i64 (wrap64 (Int.tmod a0 5)), .int .i64 a2_6]] (by rfl) rfl rfl (by (try simp only [List.map_toArray, List.map_cons, List.map_nil]); first | done | rfl | (simp only [List.length_drop, List.length_take]; rfl)) ?_
            with_reducible refine (saga_Begin.calls a2_0 a2_1 a2_2 a2_3 a2_4 (wrap64 (Int.tmod a0 5)) a2_6 t162 t163 t164 t165 t166 t167 t168 t169 t170 t171 t172 _ A6.out).mono ?_
            rintro e w15 ⟨rfl, hb⟩
            refine ⟨_, rfl, ?_⟩
            have n0_ := Aside0.mk (blk_below (g := gb160) (o := .cells #[.int .i64 a2_0, .int .i64 a2_1, .int .i64 a2_2, .int .i64 a2_3, .int .i64 a2_4, .int .i64 (wrap64 (Int.tmod a0 5)), .int .i64 a2_6] 25 (0, 0)) (by (with_reducible repeat (first | refine blk_drewN ?_ _ | refine blk_drew ?_ | refine blk_alloc ?_ _)); exact BK160.out) hb)
            have n1_ := Aside0.mk (blk_below (g := gb173) (o := .cells #[.int .i64 0, .int .i64 0, .int .i64 0, .int .i64 0, .int .i64 0, .int .i64 0, .int .i64 0, .int .i64 0, .int .i64 0, .int .i64 0, .int .i64 0] 30 (0, 0)) (by (with_reducible repeat (first | refine blk_drewN ?_ _ | refine blk_drew ?_ | refine blk_alloc ?_ _)); exact BK173.out) hb)
            have n2_ := Aside0.mk (blk_below (g := gb174) (o := .cells #[.int .i64 0, .int .i64 0, .int .i64 0, .int .i64 0, .int .i64 0, .int .i64 0, .int .i64 0, .int .i64 0, .int .i64 0, .int .i64 0, .int .i64 0] 30 (0, 0)) (by (with_reducible repeat (first | refine blk_drewN ?_ _ | refine blk_drew ?_ | refine blk_alloc ?_ _)); exact BK174.out) hb)
            have n3_ := Aside0.mk (below_step (by repeat (first | (with_reducible first | exact HB.out | apply below_alloc | apply pw_below_drewN | apply below_drew1 | refine below_set ?_ GE160.out | refine below_set ?_ GE173.out | refine below_set ?_ GE174.out) | exact HB.out)) hb)
            clear BK160
            clear BK173
            clear BK174
            clear HB
            have BK160 := n0_
            have BK173 := n1_
            have BK174 := n2_
            have HB := n3_
            clear n0_ n1_ n2_ n3_
            (try clear hb)
            (try clear hb2)
            (try clear hk)
            (try clear hi)
            refine hK.out _ _ ⟨(blk_cell BK160.out 0).trans rfl, (blk_cell BK160.out 1).trans rfl, (blk_cell BK160.out 2).trans rfl, (blk_cell BK160.out 3).trans rfl, (blk_cell BK160.out 4).trans rfl, (blk_cell BK160.out 5).trans rfl, (blk_cell BK160.out 6).trans rfl⟩ (fun hHeld => ?_)
            clear hK K
            refine norm_ (a' := ?_) ?_ ?_
            rotate_left
            · show Act.put _ (some 18) _ = _
              simp only [Act.put, List.setIfInBounds_toArray, List.set_cons_zero, List.set_cons_succ, i64_w, i32_w]
              rfl
            exact norm_ (by first | (simp only [putAll, Act.put, List.setIfInBounds_toArray, List.set_cons_zero, List.set_cons_succ]; done) | (simp only [putAll, Act.put, List.setIfInBounds_toArray, List.set_cons_zero, List.set_cons_succ]; rfl)) (hJ1_4_5 (gb173, gb174) _ ⟨hHeld, (by (with_reducible repeat (first | refine blk_drewN ?_ _ | refine blk_drew ?_ | refine blk_alloc ?_ _)); exact BK160.out), (by (with_reducible repeat (first | refine blk_drewN ?_ _ | refine blk_drew ?_ | refine blk_alloc ?_ _)); exact BK173.out), (by (with_reducible repeat (first | refine blk_drewN ?_ _ | refine blk_drew ?_ | refine blk_alloc ?_ _)); exact BK174.out), GW173.out, GE173.out, NB160_173.out, NB173_160.out, NB174_173.out, NB173_174.out, GW174.out, GE174.out, NB160_174.out, NB174_160.out, (by repeat (first | (with_reducible first | exact HB.out | apply below_alloc | apply pw_below_drewN | apply below_drew1 | refine below_set ?_ GE160.out | refine below_set ?_ GE173.out | refine below_set ?_ GE174.out) | exact HB.out))⟩)
        · skip
          rintro gb174 w14 ⟨hS_, h0_, h1_, h2_, h3_, h4_, h5_, h6_⟩
          have n0_ : Aside0 (w14.heap[gb160]? = some (.cells #[.int .i64 a2_0, .int .i64 a2_1, .int .i64 a2_2, .int .i64 a2_3, .int .i64 a2_4, .int .i64 (wrap64 (Int.tmod a0 5)), .int .i64 a2_6] 25 (0, 0))) := ⟨h0_⟩
          have n1_ : Aside0 (w14.heap[gb174]? = some (.cells #[.int .i64 0, .int .i64 0, .int .i64 0, .int .i64 0, .int .i64 0, .int .i64 0, .int .i64 0, .int .i64 0, .int .i64 0, .int .i64 0, .int .i64 0] 30 (0, 0))) := ⟨h1_⟩
          have n2_ : Aside0 (w.heap.size ≤ gb174) := ⟨h2_⟩
          have n3_ : Aside0 (w.heap.size ≤ gb174) := ⟨h3_⟩
          have n4_ : Aside0 (gb160 ≠ gb174) := ⟨h4_⟩
          have n5_ : Aside0 (gb174 ≠ gb160) := ⟨h5_⟩
          have n6_ : Aside0 (Below w.heap.size w w14) := ⟨h6_⟩
          clear BK160
          clear HB
          clear h0_ h1_ h2_ h3_ h4_ h5_ h6_
          have BK160 := n0_
          have BK174 := n1_
          have GW174 := n2_
          have GE174 := n3_
          have NB160_174 := n4_
          have NB174_160 := n5_
          have HB := n6_
          clear n0_ n1_ n2_ n3_ n4_ n5_ n6_
          have hHeld : w14.cell? ⟨gb160, 0, none⟩ = some (.int .i64 a2_0) ∧ w14.cell? ⟨gb160, 1, none⟩ = some (.int .i64 a2_1) ∧ w14.cell? ⟨gb160, 2, none⟩ = some (.int .i64 a2_2) ∧ w14.cell? ⟨gb160, 3, none⟩ = some (.int .i64 a2_3) ∧ w14.cell? ⟨gb160, 4, none⟩ = some (.int .i64 a2_4) ∧ w14.cell? ⟨gb160, 5, none⟩ = some (.int .i64 (wrap64 (Int.tmod a0 5))) ∧ w14.cell? ⟨gb160, 6, none⟩ = some (.int .i64 a2_6) := hS_
          refine norm_ (a' := ?_) ?_ ?_
          rotate_left
          · simp only [putAll, Act.put, List.setIfInBounds_toArray, List.set_cons_zero, List.set_cons_succ]
            rfl
          refine one_ (i := 4) (N := some 7) #[true, true, true, true, true, true, false, false] rfl rfl (one_of HT_.out (by kernel_rfl)) (by decide) (fun K hK => ?_)
          refine box_step ?hg (N := 7) ?hd (cs := #[.int .i64 0, .int .i64 0, .int .i64 0, .int .i64 0, .int .i64 0, .int .i64 0, .int .i64 0, .int .i64 0, .int .i64 0, .int .i64 0, .int .i64 0]) (t := 30) ?hr ?_; (case hd => rfl); (case hg => rfl); (case hr => first | (go_simp; done) | (go_simp; rfl))
          intro gb173 hg w15 hbox hb
          have n0_ := Aside0.mk (blk_below (g := gb160) (o := .cells #[.int .i64 a2_0, .int .i64 a2_1, .int .i64 a2_2, .int .i64 a2_3, .int .i64 a2_4, .int .i64 (wrap64 (Int.tmod a0 5)), .int .i64 a2_6] 25 (0, 0)) (by (with_reducible repeat (first | refine blk_drewN ?_ _ | refine blk_drew ?_ | refine blk_alloc ?_ _)); exact BK160.out) hb)
          have n1_ := Aside0.mk (blk_below (g := gb174) (o := .cells #[.int .i64 0, .int .i64 0, .int .i64 0, .int .i64 0, .int .i64 0, .int .i64 0, .int .i64 0, .int .i64 0, .int .i64 0, .int .i64 0, .int .i64 0] 30 (0, 0)) (by (with_reducible repeat (first | refine blk_drewN ?_ _ | refine blk_drew ?_ | refine blk_alloc ?_ _)); exact BK174.out) hb)
          have n2_ := Aside0.mk (below_step (by repeat (first | (with_reducible first | exact HB.out | apply below_alloc | apply pw_below_drewN | apply below_drew1 | refine below_set ?_ GE160.out | refine below_set ?_ GE174.out) | exact HB.out)) hb)
          have n3_ := Aside0.mk (hbox)
          have n4_ := Aside0.mk ((by rw [hg]; exact (below_size (by repeat (first | (with_reducible first | exact HB.out | apply below_alloc | apply pw_below_drewN | apply below_drew1 | refine below_set ?_ GE160.out | refine below_set ?_ GE174.out) | exact HB.out))) : w.heap.size ≤ gb173))
          have n5_ := Aside0.mk ((by rw [hg]; exact (below_size (by repeat (first | (with_reducible first | exact HB.out | apply below_alloc | apply pw_below_drewN | apply below_drew1 | refine below_set ?_ GE160.out | refine below_set ?_ GE174.out) | exact HB.out))) : w.heap.size ≤ gb173))
          have n6_ := Aside0.mk ((by rw [hg]; exact Nat.ne_of_lt (blk_lt (g := gb160) (o := .cells #[.int .i64 a2_0, .int .i64 a2_1, .int .i64 a2_2, .int .i64 a2_3, .int .i64 a2_4, .int .i64 (wrap64 (Int.tmod a0 5)), .int .i64 a2_6] 25 (0, 0)) (by (with_reducible repeat (first | refine blk_drewN ?_ _ | refine blk_drew ?_ | refine blk_alloc ?_ _)); exact BK160.out)) : gb160 ≠ gb173))
          have n7_ := Aside0.mk ((by rw [hg]; exact Nat.ne_of_gt (blk_lt (g := gb160) (o := .cells #[.int .i64 a2_0, .int .i64 a2_1, .int .i64 a2_2, .int .i64 a2_3, .int .i64 a2_4, .int .i64 (wrap64 (Int.tmod a0 5)), .int .i64 a2_6] 25 (0, 0)) (by (with_reducible repeat (first | refine blk_drewN ?_ _ | refine blk_drew ?_ | refine blk_alloc ?_ _)); exact BK160.out)) : gb173 ≠ gb160))
          have n8_ := Aside0.mk ((by rw [hg]; exact Nat.ne_of_lt (blk_lt (g := gb174) (o := .cells #[.int .i64 0, .int .i64 0, .int .i64 0, .int .i64 0, .int .i64 0, .int .i64 0, .int .i64 0, .int .i64 0, .int .i64 0, .int .i64 0, .int .i64 0] 30 (0, 0)) (by (with_reducible repeat (first | refine blk_drewN ?_ _ | refine blk_drew ?_ | refine blk_alloc ?_ _)); exact BK174.out)) : gb174 ≠ gb173))
          have n9_ := Aside0.mk ((by rw [hg]; exact Nat.ne_of_gt (blk_lt (g := gb174) (o := .cells #[.int .i64 0, .int .i64 0, .int .i64 0, .int .i64 0, .int .i64 0, .int .i64 0, .int .i64 0, .int .i64 0, .int .i64 0, .int .i64 0, .int .i64 0] 30 (0, 0)) (by (with_reducible repeat (first | refine blk_drewN ?_ _ | refine blk_drew ?_ | refine blk_alloc ?_ _)); exact BK174.out)) : gb173 ≠ gb174))
          clear BK160
          clear BK174
          clear HB
          have BK160 := n0_
          have BK174 := n1_
          have HB := n2_
          have BK173 := n3_
          have GW173 := n4_
          have GE173 := n5_
          have NB160_173 := n6_
          have NB173_160 := n7_
          have NB174_173 := n8_
          have NB173_174 := n9_
          clear n0_ n1_ n2_ n3_ n4_ n5_ n6_ n7_ n8_ n9_
          clear hb hbox hg
          refine hK.out _ _ ⟨(blk_cell BK160.out 0).trans rfl, (blk_cell BK160.out 1).trans rfl, (blk_cell BK160.out 2).trans rfl, (blk_cell BK160.out 3).trans rfl, (blk_cell BK160.out 4).trans rfl, (blk_cell BK160.out 5).trans rfl, (blk_cell BK160.out 6).trans rfl⟩ (fun hHeld => ?_)
          clear hK K
          refine norm_ (a' := ?_) ?_ ?_
          rotate_left
          · show Act.put _ (some 7) _ = _
            simp only [Act.put, List.setIfInBounds_toArray, List.set_cons_zero, List.set_cons_succ, i64_w, i32_w]
            rfl
          exact norm_ (by first | (simp only [putAll, Act.put, List.setIfInBounds_toArray, List.set_cons_zero, List.set_cons_succ]; done) | (simp only [putAll, Act.put, List.setIfInBounds_toArray, List.set_cons_zero, List.set_cons_succ]; rfl)) (hJ1_4_5 (gb173, gb174) _ ⟨hHeld, (by (with_reducible repeat (first | refine blk_drewN ?_ _ | refine blk_drew ?_ | refine blk_alloc ?_ _)); exact BK160.out), (by (with_reducible repeat (first | refine blk_drewN ?_ _ | refine blk_drew ?_ | refine blk_alloc ?_ _)); exact BK173.out), (by (with_reducible repeat (first | refine blk_drewN ?_ _ | refine blk_drew ?_ | refine blk_alloc ?_ _)); exact BK174.out), GW173.out, GE173.out, NB160_173.out, NB173_160.out, NB174_173.out, NB173_174.out, GW174.out, GE174.out, NB160_174.out, NB174_160.out, (by repeat (first | (with_reducible first | exact HB.out | apply below_alloc | apply pw_below_drewN | apply below_drew1 | refine below_set ?_ GE160.out | refine below_set ?_ GE174.out | refine below_set ?_ GE173.out) | exact HB.out))⟩)
      · skip
        rintro gb173 w14 ⟨hS_, h0_, h1_, h2_, h3_, h4_, h5_, h6_⟩
        have n0_ : Aside0 (w14.heap[gb160]? = some (.cells #[.int .i64 a2_0, .int .i64 a2_1, .int .i64 a2_2, .int .i64 a2_3, .int .i64 a2_4, .int .i64 (wrap64 (Int.tmod a0 5)), .int .i64 a2_6] 25 (0, 0))) := ⟨h0_⟩
        have n1_ : Aside0 (w14.heap[gb173]? = some (.cells #[.int .i64 0, .int .i64 0, .int .i64 0, .int .i64 0, .int .i64 0, .int .i64 0, .int .i64 0, .int .i64 0, .int .i64 0, .int .i64 0, .int .i64 0] 30 (0, 0))) := ⟨h1_⟩
        have n2_ : Aside0 (w.heap.size ≤ gb173) := ⟨h2_⟩
        have n3_ : Aside0 (w.heap.size ≤ gb173) := ⟨h3_⟩
        have n4_ : Aside0 (gb160 ≠ gb173) := ⟨h4_⟩
        have n5_ : Aside0 (gb173 ≠ gb160) := ⟨h5_⟩
        have n6_ : Aside0 (Below w.heap.size w w14) := ⟨h6_⟩
        clear BK160
        clear HB
        clear h0_ h1_ h2_ h3_ h4_ h5_ h6_
        have BK160 := n0_
        have BK173 := n1_
        have GW173 := n2_
        have GE173 := n3_
        have NB160_173 := n4_
        have NB173_160 := n5_
        have HB := n6_
        clear n0_ n1_ n2_ n3_ n4_ n5_ n6_
        have hHeld : w14.cell? ⟨gb160, 0, none⟩ = some (.int .i64 a2_0) ∧ w14.cell? ⟨gb160, 1, none⟩ = some (.int .i64 a2_1) ∧ w14.cell? ⟨gb160, 2, none⟩ = some (.int .i64 a2_2) ∧ w14.cell? ⟨gb160, 3, none⟩ = some (.int .i64 a2_3) ∧ w14.cell? ⟨gb160, 4, none⟩ = some (.int .i64 a2_4) ∧ w14.cell? ⟨gb160, 5, none⟩ = some (.int .i64 (wrap64 (Int.tmod a0 5))) ∧ w14.cell? ⟨gb160, 6, none⟩ = some (.int .i64 a2_6) := hS_
        refine norm_ (a' := ?_) ?_ ?_
        rotate_left
        · simp only [putAll, Act.put, List.setIfInBounds_toArray, List.set_cons_zero, List.set_cons_succ]
          rfl
        refine one_ (i := 5) (N := some 8) #[true, true, true, true, true, true, false, false] rfl rfl (one_of HT_.out (by kernel_rfl)) (by decide) (fun K hK => ?_)
        refine box_step ?hg (N := 8) ?hd (cs := #[.int .i64 0, .int .i64 0, .int .i64 0, .int .i64 0, .int .i64 0, .int .i64 0, .int .i64 0, .int .i64 0, .int .i64 0, .int .i64 0, .int .i64 0]) (t := 30) ?hr ?_; (case hd => rfl); (case hg => rfl); (case hr => first | (go_simp; done) | (go_simp; rfl))
        intro gb174 hg w15 hbox hb
        have n0_ := Aside0.mk (blk_below (g := gb160) (o := .cells #[.int .i64 a2_0, .int .i64 a2_1, .int .i64 a2_2, .int .i64 a2_3, .int .i64 a2_4, .int .i64 (wrap64 (Int.tmod a0 5)), .int .i64 a2_6] 25 (0, 0)) (by (with_reducible repeat (first | refine blk_drewN ?_ _ | refine blk_drew ?_ | refine blk_alloc ?_ _)); exact BK160.out) hb)
        have n1_ := Aside0.mk (blk_below (g := gb173) (o := .cells #[.int .i64 0, .int .i64 0, .int .i64 0, .int .i64 0, .int .i64 0, .int .i64 0, .int .i64 0, .int .i64 0, .int .i64 0, .int .i64 0, .int .i64 0] 30 (0, 0)) (by (with_reducible repeat (first | refine blk_drewN ?_ _ | refine blk_drew ?_ | refine blk_alloc ?_ _)); exact BK173.out) hb)
        have n2_ := Aside0.mk (below_step (by repeat (first | (with_reducible first | exact HB.out | apply below_alloc | apply pw_below_drewN | apply below_drew1 | refine below_set ?_ GE160.out | refine below_set ?_ GE173.out) | exact HB.out)) hb)
        have n3_ := Aside0.mk (hbox)
        have n4_ := Aside0.mk ((by rw [hg]; exact (below_size (by repeat (first | (with_reducible first | exact HB.out | apply below_alloc | apply pw_below_drewN | apply below_drew1 | refine below_set ?_ GE160.out | refine below_set ?_ GE173.out) | exact HB.out))) : w.heap.size ≤ gb174))
        have n5_ := Aside0.mk ((by rw [hg]; exact (below_size (by repeat (first | (with_reducible first | exact HB.out | apply below_alloc | apply pw_below_drewN | apply below_drew1 | refine below_set ?_ GE160.out | refine below_set ?_ GE173.out) | exact HB.out))) : w.heap.size ≤ gb174))
        have n6_ := Aside0.mk ((by rw [hg]; exact Nat.ne_of_lt (blk_lt (g := gb160) (o := .cells #[.int .i64 a2_0, .int .i64 a2_1, .int .i64 a2_2, .int .i64 a2_3, .int .i64 a2_4, .int .i64 (wrap64 (Int.tmod a0 5)), .int .i64 a2_6] 25 (0, 0)) (by (with_reducible repeat (first | refine blk_drewN ?_ _ | refine blk_drew ?_ | refine blk_alloc ?_ _)); exact BK160.out)) : gb160 ≠ gb174))
        have n7_ := Aside0.mk ((by rw [hg]; exact Nat.ne_of_gt (blk_lt (g := gb160) (o := .cells #[.int .i64 a2_0, .int .i64 a2_1, .int .i64 a2_2, .int .i64 a2_3, .int .i64 a2_4, .int .i64 (wrap64 (Int.tmod a0 5)), .int .i64 a2_6] 25 (0, 0)) (by (with_reducible repeat (first | refine blk_drewN ?_ _ | refine blk_drew ?_ | refine blk_alloc ?_ _)); exact BK160.out)) : gb174 ≠ gb160))
        have n8_ := Aside0.mk ((by rw [hg]; exact Nat.ne_of_lt (blk_lt (g := gb173) (o := .cells #[.int .i64 0, .int .i64 0, .int .i64 0, .int .i64 0, .int .i64 0, .int .i64 0, .int .i64 0, .int .i64 0, .int .i64 0, .int .i64 0, .int .i64 0] 30 (0, 0)) (by (with_reducible repeat (first | refine blk_drewN ?_ _ | refine blk_drew ?_ | refine blk_alloc ?_ _)); exact BK173.out)) : gb173 ≠ gb174))
        have n9_ := Aside0.mk ((by rw [hg]; exact Nat.ne_of_gt (blk_lt (g := gb173) (o := .cells #[.int .i64 0, .int .i64 0, .int .i64 0, .int .i64 0, .int .i64 0, .int .i64 0, .int .i64 0, .int .i64 0, .int .i64 0, .int .i64 0, .int .i64 0] 30 (0, 0)) (by (with_reducible repeat (first | refine blk_drewN ?_ _ | refine blk_drew ?_ | refine blk_alloc ?_ _)); exact BK173.out)) : gb174 ≠ gb173))
        clear BK160
        clear BK173
        clear HB
        have BK160 := n0_
        have BK173 := n1_
        have HB := n2_
        have BK174 := n3_
        have GW174 := n4_
        have GE174 := n5_
        have NB160_174 := n6_
        have NB174_160 := n7_
        have NB173_174 := n8_
        have NB174_173 := n9_
        clear n0_ n1_ n2_ n3_ n4_ n5_ n6_ n7_ n8_ n9_
        clear hb hbox hg
        refine hK.out _ _ ⟨(blk_cell BK160.out 0).trans rfl, (blk_cell BK160.out 1).trans rfl, (blk_cell BK160.out 2).trans rfl, (blk_cell BK160.out 3).trans rfl, (blk_cell BK160.out 4).trans rfl, (blk_cell BK160.out 5).trans rfl, (blk_cell BK160.out 6).trans rfl⟩ (fun hHeld => ?_)
        clear hK K
        refine norm_ (a' := ?_) ?_ ?_
        rotate_left
        · show Act.put _ (some 8) _ = _
          simp only [Act.put, List.setIfInBounds_toArray, List.set_cons_zero, List.set_cons_succ, i64_w, i32_w]
          rfl
        exact norm_ (by first | (simp only [putAll, Act.put, List.setIfInBounds_toArray, List.set_cons_zero, List.set_cons_succ]; done) | (simp only [putAll, Act.put, List.setIfInBounds_toArray, List.set_cons_zero, List.set_cons_succ]; rfl)) (hJ1_4_5 (gb173, gb174) _ ⟨hHeld, (by (with_reducible repeat (first | refine blk_drewN ?_ _ | refine blk_drew ?_ | refine blk_alloc ?_ _)); exact BK160.out), (by (with_reducible repeat (first | refine blk_drewN ?_ _ | refine blk_drew ?_ | refine blk_alloc ?_ _)); exact BK173.out), (by (with_reducible repeat (first | refine blk_drewN ?_ _ | refine blk_drew ?_ | refine blk_alloc ?_ _)); exact BK174.out), GW173.out, GE173.out, NB160_173.out, NB173_160.out, NB174_173.out, NB173_174.out, GW174.out, GE174.out, NB160_174.out, NB174_160.out, (by repeat (first | (with_reducible first | exact HB.out | apply below_alloc | apply pw_below_drewN | apply below_drew1 | refine below_set ?_ GE160.out | refine below_set ?_ GE173.out | refine below_set ?_ GE174.out) | exact HB.out))⟩)
    rintro ⟨gb173, gb174⟩ w15 ⟨hS_, h0_, h1_, h2_, h3_, h4_, h5_, h6_, h7_, h8_, h9_, h10_, h11_, h12_, h13_⟩
    have n0_ : Aside0 (w15.heap[gb160]? = some (.cells #[.int .i64 a2_0, .int .i64 a2_1, .int .i64 a2_2, .int .i64 a2_3, .int .i64 a2_4, .int .i64 (wrap64 (Int.tmod a0 5)), .int .i64 a2_6] 25 (0, 0))) := ⟨h0_⟩
    have n1_ : Aside0 (w15.heap[gb173]? = some (.cells #[.int .i64 0, .int .i64 0, .int .i64 0, .int .i64 0, .int .i64 0, .int .i64 0, .int .i64 0, .int .i64 0, .int .i64 0, .int .i64 0, .int .i64 0] 30 (0, 0))) := ⟨h1_⟩
    have n2_ : Aside0 (w15.heap[gb174]? = some (.cells #[.int .i64 0, .int .i64 0, .int .i64 0, .int .i64 0, .int .i64 0, .int .i64 0, .int .i64 0, .int .i64 0, .int .i64 0, .int .i64 0, .int .i64 0] 30 (0, 0))) := ⟨h2_⟩
    have n3_ : Aside0 (w.heap.size ≤ gb173) := ⟨h3_⟩
    have n4_ : Aside0 (w.heap.size ≤ gb173) := ⟨h4_⟩
    have n5_ : Aside0 (gb160 ≠ gb173) := ⟨h5_⟩
    have n6_ : Aside0 (gb173 ≠ gb160) := ⟨h6_⟩
    have n7_ : Aside0 (gb174 ≠ gb173) := ⟨h7_⟩
    have n8_ : Aside0 (gb173 ≠ gb174) := ⟨h8_⟩
    have n9_ : Aside0 (w.heap.size ≤ gb174) := ⟨h9_⟩
    have n10_ : Aside0 (w.heap.size ≤ gb174) := ⟨h10_⟩
    have n11_ : Aside0 (gb160 ≠ gb174) := ⟨h11_⟩
    have n12_ : Aside0 (gb174 ≠ gb160) := ⟨h12_⟩
    have n13_ : Aside0 (Below w.heap.size w w15) := ⟨h13_⟩
    clear BK160
    clear HB
    clear h0_ h1_ h2_ h3_ h4_ h5_ h6_ h7_ h8_ h9_ h10_ h11_ h12_ h13_
    have BK160 := n0_
    have BK173 := n1_
    have BK174 := n2_
    have GW173 := n3_
    have GE173 := n4_
    have NB160_173 := n5_
    have NB173_160 := n6_
    have NB174_173 := n7_
    have NB173_174 := n8_
    have GW174 := n9_
    have GE174 := n10_
    have NB160_174 := n11_
    have NB174_160 := n12_
    have HB := n13_
    clear n0_ n1_ n2_ n3_ n4_ n5_ n6_ n7_ n8_ n9_ n10_ n11_ n12_ n13_
    have hHeld : w15.cell? ⟨gb160, 0, none⟩ = some (.int .i64 a2_0) ∧ w15.cell? ⟨gb160, 1, none⟩ = some (.int .i64 a2_1) ∧ w15.cell? ⟨gb160, 2, none⟩ = some (.int .i64 a2_2) ∧ w15.cell? ⟨gb160, 3, none⟩ = some (.int .i64 a2_3) ∧ w15.cell? ⟨gb160, 4, none⟩ = some (.int .i64 a2_4) ∧ w15.cell? ⟨gb160, 5, none⟩ = some (.int .i64 (wrap64 (Int.tmod a0 5))) ∧ w15.cell? ⟨gb160, 6, none⟩ = some (.int .i64 a2_6) := hS_
    refine norm_ (a' := ?_) ?_ ?_
    rotate_left
    · simp only [putAll, Act.put, List.setIfInBounds_toArray, List.set_cons_zero, List.set_cons_succ]
      rfl
    refine one_ (i := 6) (N := none) #[true, true, true, true, true, true, true, false] rfl rfl (one_of HT_.out (by kernel_rfl)) (by decide) (fun K hK => ?_)
    have hs16 : w15.cell? ⟨gb173, 0, none⟩ = some (.int .i64 0) := (blk_cell BK173.out 0).trans rfl
    have hfs16 := blk_frozen BK173.out 0
    have hns16_0 := NB160_173.out
    have hns16_2 := NB174_173.out
    have hms16_0 := NB173_160.out
    have hms16_2 := NB173_174.out
    have hs17 : w15.cell? ⟨gb173, 1, none⟩ = some (.int .i64 0) := (blk_cell BK173.out 1).trans rfl
    have hfs17 := blk_frozen BK173.out 1
    have hns17_0 := NB160_173.out
    have hns17_2 := NB174_173.out
    have hms17_0 := NB173_160.out
    have hms17_2 := NB173_174.out
    have hs18 : w15.cell? ⟨gb173, 2, none⟩ = some (.int .i64 0) := (blk_cell BK173.out 2).trans rfl
    have hfs18 := blk_frozen BK173.out 2
    have hns18_0 := NB160_173.out
    have hns18_2 := NB174_173.out
    have hms18_0 := NB173_160.out
    have hms18_2 := NB173_174.out
    have hs19 : w15.cell? ⟨gb173, 3, none⟩ = some (.int .i64 0) := (blk_cell BK173.out 3).trans rfl
    have hfs19 := blk_frozen BK173.out 3
    have hns19_0 := NB160_173.out
    have hns19_2 := NB174_173.out
    have hms19_0 := NB173_160.out
    have hms19_2 := NB173_174.out
    have hs20 : w15.cell? ⟨gb173, 4, none⟩ = some (.int .i64 0) := (blk_cell BK173.out 4).trans rfl
    have hfs20 := blk_frozen BK173.out 4
    have hns20_0 := NB160_173.out
    have hns20_2 := NB174_173.out
    have hms20_0 := NB173_160.out
    have hms20_2 := NB173_174.out
    have hs21 : w15.cell? ⟨gb173, 5, none⟩ = some (.int .i64 0) := (blk_cell BK173.out 5).trans rfl
    have hfs21 := blk_frozen BK173.out 5
    have hns21_0 := NB160_173.out
    have hns21_2 := NB174_173.out
    have hms21_0 := NB173_160.out
    have hms21_2 := NB173_174.out
    have hs22 : w15.cell? ⟨gb173, 6, none⟩ = some (.int .i64 0) := (blk_cell BK173.out 6).trans rfl
    have hfs22 := blk_frozen BK173.out 6
    have hns22_0 := NB160_173.out
    have hns22_2 := NB174_173.out
    have hms22_0 := NB173_160.out
    have hms22_2 := NB173_174.out
    have hs23 : w15.cell? ⟨gb173, 7, none⟩ = some (.int .i64 0) := (blk_cell BK173.out 7).trans rfl
    have hfs23 := blk_frozen BK173.out 7
    have hns23_0 := NB160_173.out
    have hns23_2 := NB174_173.out
    have hms23_0 := NB173_160.out
    have hms23_2 := NB173_174.out
    have hs24 : w15.cell? ⟨gb173, 8, none⟩ = some (.int .i64 0) := (blk_cell BK173.out 8).trans rfl
    have hfs24 := blk_frozen BK173.out 8
    have hns24_0 := NB160_173.out
    have hns24_2 := NB174_173.out
    have hms24_0 := NB173_160.out
    have hms24_2 := NB173_174.out
    have hs25 : w15.cell? ⟨gb173, 9, none⟩ = some (.int .i64 0) := (blk_cell BK173.out 9).trans rfl
    have hfs25 := blk_frozen BK173.out 9
    have hns25_0 := NB160_173.out
    have hns25_2 := NB174_173.out
    have hms25_0 := NB173_160.out
    have hms25_2 := NB173_174.out
    have hs26 : w15.cell? ⟨gb173, 10, none⟩ = some (.int .i64 0) := (blk_cell BK173.out 10).trans rfl
    have hfs26 := blk_frozen BK173.out 10
    have hns26_0 := NB160_173.out
    have hns26_2 := NB174_173.out
    have hms26_0 := NB173_160.out
    have hms26_2 := NB173_174.out
    refine skip_ (w1 := ?_) ?hw_ ?hN_ ?_ ?_; (case hw_ => rfl); (case hN_ => rfl)
    rotate_left
    · go_simp
      rfl
    refine hK.out _ _ ⟨((cell_far (p := ⟨gb173, _, none⟩) NB160_173.out _).trans (((cell_far (p := ⟨gb173, _, none⟩) NB160_173.out _).trans (((cell_far (p := ⟨gb173, _, none⟩) NB160_173.out _).trans (((cell_far (p := ⟨gb173, _, none⟩) NB160_173.out _).trans (((cell_far (p := ⟨gb173, _, none⟩) NB160_173.out _).trans (((cell_far (p := ⟨gb173, _, none⟩) NB160_173.out _).trans (((cell_far (p := ⟨gb173, _, none⟩) NB160_173.out _).trans (((cell_far (p := ⟨gb173, _, none⟩) NB160_173.out _).trans (((cell_far (p := ⟨gb173, _, none⟩) NB160_173.out _).trans (((cell_far (p := ⟨gb173, _, none⟩) NB160_173.out _).trans (((cell_far (p := ⟨gb173, _, none⟩) NB160_173.out _).trans (hHeld.1)))))))))))))))))))))), ((cell_far (p := ⟨gb173, _, none⟩) NB160_173.out _).trans (((cell_far (p := ⟨gb173, _, none⟩) NB160_173.out _).trans (((cell_far (p := ⟨gb173, _, none⟩) NB160_173.out _).trans (((cell_far (p := ⟨gb173, _, none⟩) NB160_173.out _).trans (((cell_far (p := ⟨gb173, _, none⟩) NB160_173.out _).trans (((cell_far (p := ⟨gb173, _, none⟩) NB160_173.out _).trans (((cell_far (p := ⟨gb173, _, none⟩) NB160_173.out _).trans (((cell_far (p := ⟨gb173, _, none⟩) NB160_173.out _).trans (((cell_far (p := ⟨gb173, _, none⟩) NB160_173.out _).trans (((cell_far (p := ⟨gb173, _, none⟩) NB160_173.out _).trans (((cell_far (p := ⟨gb173, _, none⟩) NB160_173.out _).trans (hHeld.2.1)))))))))))))))))))))), ((cell_far (p := ⟨gb173, _, none⟩) NB160_173.out _).trans (((cell_far (p := ⟨gb173, _, none⟩) NB160_173.out _).trans (((cell_far (p := ⟨gb173, _, none⟩) NB160_173.out _).trans (((cell_far (p := ⟨gb173, _, none⟩) NB160_173.out _).trans (((cell_far (p := ⟨gb173, _, none⟩) NB160_173.out _).trans (((cell_far (p := ⟨gb173, _, none⟩) NB160_173.out _).trans (((cell_far (p := ⟨gb173, _, none⟩) NB160_173.out _).trans (((cell_far (p := ⟨gb173, _, none⟩) NB160_173.out _).trans (((cell_far (p := ⟨gb173, _, none⟩) NB160_173.out _).trans (((cell_far (p := ⟨gb173, _, none⟩) NB160_173.out _).trans (((cell_far (p := ⟨gb173, _, none⟩) NB160_173.out _).trans (hHeld.2.2.1)))))))))))))))))))))), ((cell_far (p := ⟨gb173, _, none⟩) NB160_173.out _).trans (((cell_far (p := ⟨gb173, _, none⟩) NB160_173.out _).trans (((cell_far (p := ⟨gb173, _, none⟩) NB160_173.out _).trans (((cell_far (p := ⟨gb173, _, none⟩) NB160_173.out _).trans (((cell_far (p := ⟨gb173, _, none⟩) NB160_173.out _).trans (((cell_far (p := ⟨gb173, _, none⟩) NB160_173.out _).trans (((cell_far (p := ⟨gb173, _, none⟩) NB160_173.out _).trans (((cell_far (p := ⟨gb173, _, none⟩) NB160_173.out _).trans (((cell_far (p := ⟨gb173, _, none⟩) NB160_173.out _).trans (((cell_far (p := ⟨gb173, _, none⟩) NB160_173.out _).trans (((cell_far (p := ⟨gb173, _, none⟩) NB160_173.out _).trans (hHeld.2.2.2.1)))))))))))))))))))))), ((cell_far (p := ⟨gb173, _, none⟩) NB160_173.out _).trans (((cell_far (p := ⟨gb173, _, none⟩) NB160_173.out _).trans (((cell_far (p := ⟨gb173, _, none⟩) NB160_173.out _).trans (((cell_far (p := ⟨gb173, _, none⟩) NB160_173.out _).trans (((cell_far (p := ⟨gb173, _, none⟩) NB160_173.out _).trans (((cell_far (p := ⟨gb173, _, none⟩) NB160_173.out _).trans (((cell_far (p := ⟨gb173, _, none⟩) NB160_173.out _).trans (((cell_far (p := ⟨gb173, _, none⟩) NB160_173.out _).trans (((cell_far (p := ⟨gb173, _, none⟩) NB160_173.out _).trans (((cell_far (p := ⟨gb173, _, none⟩) NB160_173.out _).trans (((cell_far (p := ⟨gb173, _, none⟩) NB160_173.out _).trans (hHeld.2.2.2.2.1)))))))))))))))))))))), ((cell_far (p := ⟨gb173, _, none⟩) NB160_173.out _).trans (((cell_far (p := ⟨gb173, _, none⟩) NB160_173.out _).trans (((cell_far (p := ⟨gb173, _, none⟩) NB160_173.out _).trans (((cell_far (p := ⟨gb173, _, none⟩) NB160_173.out _).trans (((cell_far (p := ⟨gb173, _, none⟩) NB160_173.out _).trans (((cell_far (p := ⟨gb173, _, none⟩) NB160_173.out _).trans (((cell_far (p := ⟨gb173, _, none⟩) NB160_173.out _).trans (((cell_far (p := ⟨gb173, _, none⟩) NB160_173.out _).trans (((cell_far (p := ⟨gb173, _, none⟩) NB160_173.out _).trans (((cell_far (p := ⟨gb173, _, none⟩) NB160_173.out _).trans (((cell_far (p := ⟨gb173, _, none⟩) NB160_173.out _).trans (hHeld.2.2.2.2.2.1)))))))))))))))))))))), ((cell_far (p := ⟨gb173, _, none⟩) NB160_173.out _).trans (((cell_far (p := ⟨gb173, _, none⟩) NB160_173.out _).trans (((cell_far (p := ⟨gb173, _, none⟩) NB160_173.out _).trans (((cell_far (p := ⟨gb173, _, none⟩) NB160_173.out _).trans (((cell_far (p := ⟨gb173, _, none⟩) NB160_173.out _).trans (((cell_far (p := ⟨gb173, _, none⟩) NB160_173.out _).trans (((cell_far (p := ⟨gb173, _, none⟩) NB160_173.out _).trans (((cell_far (p := ⟨gb173, _, none⟩) NB160_173.out _).trans (((cell_far (p := ⟨gb173, _, none⟩) NB160_173.out _).trans (((cell_far (p := ⟨gb173, _, none⟩) NB160_173.out _).trans (((cell_far (p := ⟨gb173, _, none⟩) NB160_173.out _).trans (hHeld.2.2.2.2.2.2))))))))))))))))))))))⟩ (fun hHeld => ?_)
    clear hK K
    refine one_ (i := 7) (N := none) #[true, true, true, true, true, true, true, true] rfl rfl (one_of HT_.out (by kernel_rfl)) (by decide) (fun K hK => ?_)
    have hs27 : w15.cell? ⟨gb174, 0, none⟩ = some (.int .i64 0) := (blk_cell BK174.out 0).trans rfl
    have hfs27 := blk_frozen BK174.out 0
    have hns27_0 := NB160_174.out
    have hns27_1 := NB173_174.out
    have hms27_0 := NB174_160.out
    have hms27_1 := NB174_173.out
    have hs28 : w15.cell? ⟨gb174, 1, none⟩ = some (.int .i64 0) := (blk_cell BK174.out 1).trans rfl
    have hfs28 := blk_frozen BK174.out 1
    have hns28_0 := NB160_174.out
    have hns28_1 := NB173_174.out
    have hms28_0 := NB174_160.out
    have hms28_1 := NB174_173.out
    have hs29 : w15.cell? ⟨gb174, 2, none⟩ = some (.int .i64 0) := (blk_cell BK174.out 2).trans rfl
    have hfs29 := blk_frozen BK174.out 2
    have hns29_0 := NB160_174.out
    have hns29_1 := NB173_174.out
    have hms29_0 := NB174_160.out
    have hms29_1 := NB174_173.out
    have hs30 : w15.cell? ⟨gb174, 3, none⟩ = some (.int .i64 0) := (blk_cell BK174.out 3).trans rfl
    have hfs30 := blk_frozen BK174.out 3
    have hns30_0 := NB160_174.out
    have hns30_1 := NB173_174.out
    have hms30_0 := NB174_160.out
    have hms30_1 := NB174_173.out
    have hs31 : w15.cell? ⟨gb174, 4, none⟩ = some (.int .i64 0) := (blk_cell BK174.out 4).trans rfl
    have hfs31 := blk_frozen BK174.out 4
    have hns31_0 := NB160_174.out
    have hns31_1 := NB173_174.out
    have hms31_0 := NB174_160.out
    have hms31_1 := NB174_173.out
    have hs32 : w15.cell? ⟨gb174, 5, none⟩ = some (.int .i64 0) := (blk_cell BK174.out 5).trans rfl
    have hfs32 := blk_frozen BK174.out 5
    have hns32_0 := NB160_174.out
    have hns32_1 := NB173_174.out
    have hms32_0 := NB174_160.out
    have hms32_1 := NB174_173.out
    have hs33 : w15.cell? ⟨gb174, 6, none⟩ = some (.int .i64 0) := (blk_cell BK174.out 6).trans rfl
    have hfs33 := blk_frozen BK174.out 6
    have hns33_0 := NB160_174.out
    have hns33_1 := NB173_174.out
    have hms33_0 := NB174_160.out
    have hms33_1 := NB174_173.out
    have hs34 : w15.cell? ⟨gb174, 7, none⟩ = some (.int .i64 0) := (blk_cell BK174.out 7).trans rfl
    have hfs34 := blk_frozen BK174.out 7
    have hns34_0 := NB160_174.out
    have hns34_1 := NB173_174.out
    have hms34_0 := NB174_160.out
    have hms34_1 := NB174_173.out
    have hs35 : w15.cell? ⟨gb174, 8, none⟩ = some (.int .i64 0) := (blk_cell BK174.out 8).trans rfl
    have hfs35 := blk_frozen BK174.out 8
    have hns35_0 := NB160_174.out
    have hns35_1 := NB173_174.out
    have hms35_0 := NB174_160.out
    have hms35_1 := NB174_173.out
    have hs36 : w15.cell? ⟨gb174, 9, none⟩ = some (.int .i64 0) := (blk_cell BK174.out 9).trans rfl
    have hfs36 := blk_frozen BK174.out 9
    have hns36_0 := NB160_174.out
    have hns36_1 := NB173_174.out
    have hms36_0 := NB174_160.out
    have hms36_1 := NB174_173.out
    have hs37 : w15.cell? ⟨gb174, 10, none⟩ = some (.int .i64 0) := (blk_cell BK174.out 10).trans rfl
    have hfs37 := blk_frozen BK174.out 10
    have hns37_0 := NB160_174.out
    have hns37_1 := NB173_174.out
    have hms37_0 := NB174_160.out
    have hms37_1 := NB174_173.out
    refine skip_ (w1 := ?_) ?hw_ ?hN_ ?_ ?_; (case hw_ => rfl); (case hN_ => rfl)
    rotate_left
    · go_simp
      rfl
    refine hK.out _ _ ⟨((cell_far (p := ⟨gb174, _, none⟩) NB160_174.out _).trans (((cell_far (p := ⟨gb174, _, none⟩) NB160_174.out _).trans (((cell_far (p := ⟨gb174, _, none⟩) NB160_174.out _).trans (((cell_far (p := ⟨gb174, _, none⟩) NB160_174.out _).trans (((cell_far (p := ⟨gb174, _, none⟩) NB160_174.out _).trans (((cell_far (p := ⟨gb174, _, none⟩) NB160_174.out _).trans (((cell_far (p := ⟨gb174, _, none⟩) NB160_174.out _).trans (((cell_far (p := ⟨gb174, _, none⟩) NB160_174.out _).trans (((cell_far (p := ⟨gb174, _, none⟩) NB160_174.out _).trans (((cell_far (p := ⟨gb174, _, none⟩) NB160_174.out _).trans (((cell_far (p := ⟨gb174, _, none⟩) NB160_174.out _).trans (hHeld.1)))))))))))))))))))))), ((cell_far (p := ⟨gb174, _, none⟩) NB160_174.out _).trans (((cell_far (p := ⟨gb174, _, none⟩) NB160_174.out _).trans (((cell_far (p := ⟨gb174, _, none⟩) NB160_174.out _).trans (((cell_far (p := ⟨gb174, _, none⟩) NB160_174.out _).trans (((cell_far (p := ⟨gb174, _, none⟩) NB160_174.out _).trans (((cell_far (p := ⟨gb174, _, none⟩) NB160_174.out _).trans (((cell_far (p := ⟨gb174, _, none⟩) NB160_174.out _).trans (((cell_far (p := ⟨gb174, _, none⟩) NB160_174.out _).trans (((cell_far (p := ⟨gb174, _, none⟩) NB160_174.out _).trans (((cell_far (p := ⟨gb174, _, none⟩) NB160_174.out _).trans (((cell_far (p := ⟨gb174, _, none⟩) NB160_174.out _).trans (hHeld.2.1)))))))))))))))))))))), ((cell_far (p := ⟨gb174, _, none⟩) NB160_174.out _).trans (((cell_far (p := ⟨gb174, _, none⟩) NB160_174.out _).trans (((cell_far (p := ⟨gb174, _, none⟩) NB160_174.out _).trans (((cell_far (p := ⟨gb174, _, none⟩) NB160_174.out _).trans (((cell_far (p := ⟨gb174, _, none⟩) NB160_174.out _).trans (((cell_far (p := ⟨gb174, _, none⟩) NB160_174.out _).trans (((cell_far (p := ⟨gb174, _, none⟩) NB160_174.out _).trans (((cell_far (p := ⟨gb174, _, none⟩) NB160_174.out _).trans (((cell_far (p := ⟨gb174, _, none⟩) NB160_174.out _).trans (((cell_far (p := ⟨gb174, _, none⟩) NB160_174.out _).trans (((cell_far (p := ⟨gb174, _, none⟩) NB160_174.out _).trans (hHeld.2.2.1)))))))))))))))))))))), ((cell_far (p := ⟨gb174, _, none⟩) NB160_174.out _).trans (((cell_far (p := ⟨gb174, _, none⟩) NB160_174.out _).trans (((cell_far (p := ⟨gb174, _, none⟩) NB160_174.out _).trans (((cell_far (p := ⟨gb174, _, none⟩) NB160_174.out _).trans (((cell_far (p := ⟨gb174, _, none⟩) NB160_174.out _).trans (((cell_far (p := ⟨gb174, _, none⟩) NB160_174.out _).trans (((cell_far (p := ⟨gb174, _, none⟩) NB160_174.out _).trans (((cell_far (p := ⟨gb174, _, none⟩) NB160_174.out _).trans (((cell_far (p := ⟨gb174, _, none⟩) NB160_174.out _).trans (((cell_far (p := ⟨gb174, _, none⟩) NB160_174.out _).trans (((cell_far (p := ⟨gb174, _, none⟩) NB160_174.out _).trans (hHeld.2.2.2.1)))))))))))))))))))))), ((cell_far (p := ⟨gb174, _, none⟩) NB160_174.out _).trans (((cell_far (p := ⟨gb174, _, none⟩) NB160_174.out _).trans (((cell_far (p := ⟨gb174, _, none⟩) NB160_174.out _).trans (((cell_far (p := ⟨gb174, _, none⟩) NB160_174.out _).trans (((cell_far (p := ⟨gb174, _, none⟩) NB160_174.out _).trans (((cell_far (p := ⟨gb174, _, none⟩) NB160_174.out _).trans (((cell_far (p := ⟨gb174, _, none⟩) NB160_174.out _).trans (((cell_far (p := ⟨gb174, _, none⟩) NB160_174.out _).trans (((cell_far (p := ⟨gb174, _, none⟩) NB160_174.out _).trans (((cell_far (p := ⟨gb174, _, none⟩) NB160_174.out _).trans (((cell_far (p := ⟨gb174, _, none⟩) NB160_174.out _).trans (hHeld.2.2.2.2.1)))))))))))))))))))))), ((cell_far (p := ⟨gb174, _, none⟩) NB160_174.out _).trans (((cell_far (p := ⟨gb174, _, none⟩) NB160_174.out _).trans (((cell_far (p := ⟨gb174, _, none⟩) NB160_174.out _).trans (((cell_far (p := ⟨gb174, _, none⟩) NB160_174.out _).trans (((cell_far (p := ⟨gb174, _, none⟩) NB160_174.out _).trans (((cell_far (p := ⟨gb174, _, none⟩) NB160_174.out _).trans (((cell_far (p := ⟨gb174, _, none⟩) NB160_174.out _).trans (((cell_far (p := ⟨gb174, _, none⟩) NB160_174.out _).trans (((cell_far (p := ⟨gb174, _, none⟩) NB160_174.out _).trans (((cell_far (p := ⟨gb174, _, none⟩) NB160_174.out _).trans (((cell_far (p := ⟨gb174, _, none⟩) NB160_174.out _).trans (hHeld.2.2.2.2.2.1)))))))))))))))))))))), ((cell_far (p := ⟨gb174, _, none⟩) NB160_174.out _).trans (((cell_far (p := ⟨gb174, _, none⟩) NB160_174.out _).trans (((cell_far (p := ⟨gb174, _, none⟩) NB160_174.out _).trans (((cell_far (p := ⟨gb174, _, none⟩) NB160_174.out _).trans (((cell_far (p := ⟨gb174, _, none⟩) NB160_174.out _).trans (((cell_far (p := ⟨gb174, _, none⟩) NB160_174.out _).trans (((cell_far (p := ⟨gb174, _, none⟩) NB160_174.out _).trans (((cell_far (p := ⟨gb174, _, none⟩) NB160_174.out _).trans (((cell_far (p := ⟨gb174, _, none⟩) NB160_174.out _).trans (((cell_far (p := ⟨gb174, _, none⟩) NB160_174.out _).trans (((cell_far (p := ⟨gb174, _, none⟩) NB160_174.out _).trans (hHeld.2.2.2.2.2.2))))))))))))))))))))))⟩ (fun hHeld => ?_)
    clear hK K
    refine done_ (done_of HT_.out (by kernel_rfl)) ?_
    try go_wp2
    go_loopg [23] k (fun kq v23 w' => ∃ (x23_1 : Int) (x174000_1 : Int) (x174001_1 : Int) (x174002_1 : Int) (x174003_1 : Int) (x174004_1 : Int) (x174005_1 : Int) (x174006_1 : Int) (x174007_1 : Int) (x174008_1 : Int) (x174009_1 : Int) (x174010_1 : Int) (x175000_1 : Int) (x175001_1 : Int) (x175002_1 : Int) (x175003_1 : Int) (x175004_1 : Int) (x175005_1 : Int) (x175006_1 : Int) (x175007_1 : Int) (x175008_1 : Int) (x175009_1 : Int) (x175010_1 : Int), v23 = .int .i64 x23_1 ∧ Aside0 (hawalalaw14_SagaLeg.l0 kq l1 (l1.length : Int) x23_1 x174000_1 x174001_1 x174002_1 x174003_1 x174004_1 x174005_1 x174006_1 x174007_1 x174008_1 x174009_1 x174010_1 x175000_1 x175001_1 x175002_1 x175003_1 x175004_1 x175005_1 x175006_1 x175007_1 x175008_1 x175009_1 x175010_1 = some r) ∧ Aside0 (kq ≤ k) ∧ Aside0 (w'.heap[gb160]? = some (.cells #[.int .i64 a2_0, .int .i64 a2_1, .int .i64 a2_2, .int .i64 a2_3, .int .i64 a2_4, .int .i64 (wrap64 (Int.tmod a0 5)), .int .i64 a2_6] 25 (0, 0))) ∧ Aside0 (w'.heap[gb173]? = some (.cells #[.int .i64 x174000_1, .int .i64 x174001_1, .int .i64 x174002_1, .int .i64 x174003_1, .int .i64 x174004_1, .int .i64 x174005_1, .int .i64 x174006_1, .int .i64 x174007_1, .int .i64 x174008_1, .int .i64 x174009_1, .int .i64 x174010_1] 30 (0, 0))) ∧ Aside0 (w'.heap[gb174]? = some (.cells #[.int .i64 x175000_1, .int .i64 x175001_1, .int .i64 x175002_1, .int .i64 x175003_1, .int .i64 x175004_1, .int .i64 x175005_1, .int .i64 x175006_1, .int .i64 x175007_1, .int .i64 x175008_1, .int .i64 x175009_1, .int .i64 x175010_1] 30 (0, 0))) ∧ Aside0 (Below w.heap.size w w'))
    case atStart => exact ⟨(0), (t162), (t163), (t164), (t165), (t166), (t167), (t168), (t169), (t170), (t171), (t172), (a2_0), (a2_1), (a2_2), (a2_3), (a2_4), (wrap64 (Int.tmod a0 5)), (a2_6), (0), (0), (0), (0), (by first | rfl | (simp; done) | (simp [*]; done)), H', ⟨Nat.le_refl _⟩, ⟨by (with_reducible repeat (first | refine blk_drewN ?_ _ | refine blk_drew ?_ | refine blk_alloc ?_ _)); refine blk_far ?_ NB160_174.out _; (with_reducible repeat (first | refine blk_drewN ?_ _ | refine blk_drew ?_ | refine blk_alloc ?_ _)); refine blk_far ?_ NB160_174.out _; (with_reducible repeat (first | refine blk_drewN ?_ _ | refine blk_drew ?_ | refine blk_alloc ?_ _)); refine blk_far ?_ NB160_174.out _; (with_reducible repeat (first | refine blk_drewN ?_ _ | refine blk_drew ?_ | refine blk_alloc ?_ _)); refine blk_far ?_ NB160_174.out _; (with_reducible repeat (first | refine blk_drewN ?_ _ | refine blk_drew ?_ | refine blk_alloc ?_ _)); refine blk_far ?_ NB160_174.out _; (with_reducible repeat (first | refine blk_drewN ?_ _ | refine blk_drew ?_ | refine blk_alloc ?_ _)); refine blk_far ?_ NB160_174.out _; (with_reducible repeat (first | refine blk_drewN ?_ _ | refine blk_drew ?_ | refine blk_alloc ?_ _)); refine blk_far ?_ NB160_174.out _; (with_reducible repeat (first | refine blk_drewN ?_ _ | refine blk_drew ?_ | refine blk_alloc ?_ _)); refine blk_far ?_ NB160_174.out _; (with_reducible repeat (first | refine blk_drewN ?_ _ | refine blk_drew ?_ | refine blk_alloc ?_ _)); refine blk_far ?_ NB160_174.out _; (with_reducible repeat (first | refine blk_drewN ?_ _ | refine blk_drew ?_ | refine blk_alloc ?_ _)); refine blk_far ?_ NB160_174.out _; (with_reducible repeat (first | refine blk_drewN ?_ _ | refine blk_drew ?_ | refine blk_alloc ?_ _)); refine blk_far ?_ NB160_174.out _; (with_reducible repeat (first | refine blk_drewN ?_ _ | refine blk_drew ?_ | refine blk_alloc ?_ _)); refine blk_far ?_ NB160_173.out _; (with_reducible repeat (first | refine blk_drewN ?_ _ | refine blk_drew ?_ | refine blk_alloc ?_ _)); refine blk_far ?_ NB160_173.out _; (with_reducible repeat (first | refine blk_drewN ?_ _ | refine blk_drew ?_ | refine blk_alloc ?_ _)); refine blk_far ?_ NB160_173.out _; (with_reducible repeat (first | refine blk_drewN ?_ _ | refine blk_drew ?_ | refine blk_alloc ?_ _)); refine blk_far ?_ NB160_173.out _; (with_reducible repeat (first | refine blk_drewN ?_ _ | refine blk_drew ?_ | refine blk_alloc ?_ _)); refine blk_far ?_ NB160_173.out _; (with_reducible repeat (first | refine blk_drewN ?_ _ | refine blk_drew ?_ | refine blk_alloc ?_ _)); refine blk_far ?_ NB160_173.out _; (with_reducible repeat (first | refine blk_drewN ?_ _ | refine blk_drew ?_ | refine blk_alloc ?_ _)); refine blk_far ?_ NB160_173.out _; (with_reducible repeat (first | refine blk_drewN ?_ _ | refine blk_drew ?_ | refine blk_alloc ?_ _)); refine blk_far ?_ NB160_173.out _; (with_reducible repeat (first | refine blk_drewN ?_ _ | refine blk_drew ?_ | refine blk_alloc ?_ _)); refine blk_far ?_ NB160_173.out _; (with_reducible repeat (first | refine blk_drewN ?_ _ | refine blk_drew ?_ | refine blk_alloc ?_ _)); refine blk_far ?_ NB160_173.out _; (with_reducible repeat (first | refine blk_drewN ?_ _ | refine blk_drew ?_ | refine blk_alloc ?_ _)); refine blk_far ?_ NB160_173.out _; (with_reducible repeat (first | refine blk_drewN ?_ _ | refine blk_drew ?_ | refine blk_alloc ?_ _)); exact BK160.out⟩, ⟨by (with_reducible repeat (first | refine blk_drewN ?_ _ | refine blk_drew ?_ | refine blk_alloc ?_ _)); refine blk_far ?_ NB173_174.out _; (with_reducible repeat (first | refine blk_drewN ?_ _ | refine blk_drew ?_ | refine blk_alloc ?_ _)); refine blk_far ?_ NB173_174.out _; (with_reducible repeat (first | refine blk_drewN ?_ _ | refine blk_drew ?_ | refine blk_alloc ?_ _)); refine blk_far ?_ NB173_174.out _; (with_reducible repeat (first | refine blk_drewN ?_ _ | refine blk_drew ?_ | refine blk_alloc ?_ _)); refine blk_far ?_ NB173_174.out _; (with_reducible repeat (first | refine blk_drewN ?_ _ | refine blk_drew ?_ | refine blk_alloc ?_ _)); refine blk_far ?_ NB173_174.out _; (with_reducible repeat (first | refine blk_drewN ?_ _ | refine blk_drew ?_ | refine blk_alloc ?_ _)); refine blk_far ?_ NB173_174.out _; (with_reducible repeat (first | refine blk_drewN ?_ _ | refine blk_drew ?_ | refine blk_alloc ?_ _)); refine blk_far ?_ NB173_174.out _; (with_reducible repeat (first | refine blk_drewN ?_ _ | refine blk_drew ?_ | refine blk_alloc ?_ _)); refine blk_far ?_ NB173_174.out _; (with_reducible repeat (first | refine blk_drewN ?_ _ | refine blk_drew ?_ | refine blk_alloc ?_ _)); refine blk_far ?_ NB173_174.out _; (with_reducible repeat (first | refine blk_drewN ?_ _ | refine blk_drew ?_ | refine blk_alloc ?_ _)); refine blk_far ?_ NB173_174.out _; (with_reducible repeat (first | refine blk_drewN ?_ _ | refine blk_drew ?_ | refine blk_alloc ?_ _)); refine blk_far ?_ NB173_174.out _; (with_reducible repeat (first | refine blk_drewN ?_ _ | refine blk_drew ?_ | refine blk_alloc ?_ _)); refine blk_put (cs := #[.int .i64 t162, .int .i64 t163, .int .i64 t164, .int .i64 t165, .int .i64 t166, .int .i64 t167, .int .i64 t168, .int .i64 t169, .int .i64 t170, .int .i64 t171, .int .i64 0]) ?_ 10 _ rfl; (with_reducible repeat (first | refine blk_drewN ?_ _ | refine blk_drew ?_ | refine blk_alloc ?_ _)); refine blk_put (cs := #[.int .i64 t162, .int .i64 t163, .int .i64 t164, .int .i64 t165, .int .i64 t166, .int .i64 t167, .int .i64 t168, .int .i64 t169, .int .i64 t170, .int .i64 0, .int .i64 0]) ?_ 9 _ rfl; (with_reducible repeat (first | refine blk_drewN ?_ _ | refine blk_drew ?_ | refine blk_alloc ?_ _)); refine blk_put (cs := #[.int .i64 t162, .int .i64 t163, .int .i64 t164, .int .i64 t165, .int .i64 t166, .int .i64 t167, .int .i64 t168, .int .i64 t169, .int .i64 0, .int .i64 0, .int .i64 0]) ?_ 8 _ rfl; (with_reducible repeat (first | refine blk_drewN ?_ _ | refine blk_drew ?_ | refine blk_alloc ?_ _)); refine blk_put (cs := #[.int .i64 t162, .int .i64 t163, .int .i64 t164, .int .i64 t165, .int .i64 t166, .int .i64 t167, .int .i64 t168, .int .i64 0, .int .i64 0, .int .i64 0, .int .i64 0]) ?_ 7 _ rfl; (with_reducible repeat (first | refine blk_drewN ?_ _ | refine blk_drew ?_ | refine blk_alloc ?_ _)); refine blk_put (cs := #[.int .i64 t162, .int .i64 t163, .int .i64 t164, .int .i64 t165, .int .i64 t166, .int .i64 t167, .int .i64 0, .int .i64 0, .int .i64 0, .int .i64 0, .int .i64 0]) ?_ 6 _ rfl; (with_reducible repeat (first | refine blk_drewN ?_ _ | refine blk_drew ?_ | refine blk_alloc ?_ _)); refine blk_put (cs := #[.int .i64 t162, .int .i64 t163, .int .i64 t164, .int .i64 t165, .int .i64 t166, .int .i64 0, .int .i64 0, .int .i64 0, .int .i64 0, .int .i64 0, .int .i64 0]) ?_ 5 _ rfl; (with_reducible repeat (first | refine blk_drewN ?_ _ | refine blk_drew ?_ | refine blk_alloc ?_ _)); refine blk_put (cs := #[.int .i64 t162, .int .i64 t163, .int .i64 t164, .int .i64 t165, .int .i64 0, .int .i64 0, .int .i64 0, .int .i64 0, .int .i64 0, .int .i64 0, .int .i64 0]) ?_ 4 _ rfl; (with_reducible repeat (first | refine blk_drewN ?_ _ | refine blk_drew ?_ | refine blk_alloc ?_ _)); refine blk_put (cs := #[.int .i64 t162, .int .i64 t163, .int .i64 t164, .int .i64 0, .int .i64 0, .int .i64 0, .int .i64 0, .int .i64 0, .int .i64 0, .int .i64 0, .int .i64 0]) ?_ 3 _ rfl; (with_reducible repeat (first | refine blk_drewN ?_ _ | refine blk_drew ?_ | refine blk_alloc ?_ _)); refine blk_put (cs := #[.int .i64 t162, .int .i64 t163, .int .i64 0, .int .i64 0, .int .i64 0, .int .i64 0, .int .i64 0, .int .i64 0, .int .i64 0, .int .i64 0, .int .i64 0]) ?_ 2 _ rfl; (with_reducible repeat (first | refine blk_drewN ?_ _ | refine blk_drew ?_ | refine blk_alloc ?_ _)); refine blk_put (cs := #[.int .i64 t162, .int .i64 0, .int .i64 0, .int .i64 0, .int .i64 0, .int .i64 0, .int .i64 0, .int .i64 0, .int .i64 0, .int .i64 0, .int .i64 0]) ?_ 1 _ rfl; (with_reducible repeat (first | refine blk_drewN ?_ _ | refine blk_drew ?_ | refine blk_alloc ?_ _)); refine blk_put (cs := #[.int .i64 0, .int .i64 0, .int .i64 0, .int .i64 0, .int .i64 0, .int .i64 0, .int .i64 0, .int .i64 0, .int .i64 0, .int .i64 0, .int .i64 0]) ?_ 0 _ rfl; (with_reducible repeat (first | refine blk_drewN ?_ _ | refine blk_drew ?_ | refine blk_alloc ?_ _)); exact BK173.out⟩, ⟨by (with_reducible repeat (first | refine blk_drewN ?_ _ | refine blk_drew ?_ | refine blk_alloc ?_ _)); refine blk_put (cs := #[.int .i64 a2_0, .int .i64 a2_1, .int .i64 a2_2, .int .i64 a2_3, .int .i64 a2_4, .int .i64 (wrap64 (Int.tmod a0 5)), .int .i64 a2_6, .int .i64 0, .int .i64 0, .int .i64 0, .int .i64 0]) ?_ 10 _ rfl; (with_reducible repeat (first | refine blk_drewN ?_ _ | refine blk_drew ?_ | refine blk_alloc ?_ _)); refine blk_put (cs := #[.int .i64 a2_0, .int .i64 a2_1, .int .i64 a2_2, .int .i64 a2_3, .int .i64 a2_4, .int .i64 (wrap64 (Int.tmod a0 5)), .int .i64 a2_6, .int .i64 0, .int .i64 0, .int .i64 0, .int .i64 0]) ?_ 9 _ rfl; (with_reducible repeat (first | refine blk_drewN ?_ _ | refine blk_drew ?_ | refine blk_alloc ?_ _)); refine blk_put (cs := #[.int .i64 a2_0, .int .i64 a2_1, .int .i64 a2_2, .int .i64 a2_3, .int .i64 a2_4, .int .i64 (wrap64 (Int.tmod a0 5)), .int .i64 a2_6, .int .i64 0, .int .i64 0, .int .i64 0, .int .i64 0]) ?_ 8 _ rfl; (with_reducible repeat (first | refine blk_drewN ?_ _ | refine blk_drew ?_ | refine blk_alloc ?_ _)); refine blk_put (cs := #[.int .i64 a2_0, .int .i64 a2_1, .int .i64 a2_2, .int .i64 a2_3, .int .i64 a2_4, .int .i64 (wrap64 (Int.tmod a0 5)), .int .i64 a2_6, .int .i64 0, .int .i64 0, .int .i64 0, .int .i64 0]) ?_ 7 _ rfl; (with_reducible repeat (first | refine blk_drewN ?_ _ | refine blk_drew ?_ | refine blk_alloc ?_ _)); refine blk_put (cs := #[.int .i64 a2_0, .int .i64 a2_1, .int .i64 a2_2, .int .i64 a2_3, .int .i64 a2_4, .int .i64 (wrap64 (Int.tmod a0 5)), .int .i64 0, .int .i64 0, .int .i64 0, .int .i64 0, .int .i64 0]) ?_ 6 _ rfl; (with_reducible repeat (first | refine blk_drewN ?_ _ | refine blk_drew ?_ | refine blk_alloc ?_ _)); refine blk_put (cs := #[.int .i64 a2_0, .int .i64 a2_1, .int .i64 a2_2, .int .i64 a2_3, .int .i64 a2_4, .int .i64 0, .int .i64 0, .int .i64 0, .int .i64 0, .int .i64 0, .int .i64 0]) ?_ 5 _ rfl; (with_reducible repeat (first | refine blk_drewN ?_ _ | refine blk_drew ?_ | refine blk_alloc ?_ _)); refine blk_put (cs := #[.int .i64 a2_0, .int .i64 a2_1, .int .i64 a2_2, .int .i64 a2_3, .int .i64 0, .int .i64 0, .int .i64 0, .int .i64 0, .int .i64 0, .int .i64 0, .int .i64 0]) ?_ 4 _ rfl; (with_reducible repeat (first | refine blk_drewN ?_ _ | refine blk_drew ?_ | refine blk_alloc ?_ _)); refine blk_put (cs := #[.int .i64 a2_0, .int .i64 a2_1, .int .i64 a2_2, .int .i64 0, .int .i64 0, .int .i64 0, .int .i64 0, .int .i64 0, .int .i64 0, .int .i64 0, .int .i64 0]) ?_ 3 _ rfl; (with_reducible repeat (first | refine blk_drewN ?_ _ | refine blk_drew ?_ | refine blk_alloc ?_ _)); refine blk_put (cs := #[.int .i64 a2_0, .int .i64 a2_1, .int .i64 0, .int .i64 0, .int .i64 0, .int .i64 0, .int .i64 0, .int .i64 0, .int .i64 0, .int .i64 0, .int .i64 0]) ?_ 2 _ rfl; (with_reducible repeat (first | refine blk_drewN ?_ _ | refine blk_drew ?_ | refine blk_alloc ?_ _)); refine blk_put (cs := #[.int .i64 a2_0, .int .i64 0, .int .i64 0, .int .i64 0, .int .i64 0, .int .i64 0, .int .i64 0, .int .i64 0, .int .i64 0, .int .i64 0, .int .i64 0]) ?_ 1 _ rfl; (with_reducible repeat (first | refine blk_drewN ?_ _ | refine blk_drew ?_ | refine blk_alloc ?_ _)); refine blk_put (cs := #[.int .i64 0, .int .i64 0, .int .i64 0, .int .i64 0, .int .i64 0, .int .i64 0, .int .i64 0, .int .i64 0, .int .i64 0, .int .i64 0, .int .i64 0]) ?_ 0 _ rfl; (with_reducible repeat (first | refine blk_drewN ?_ _ | refine blk_drew ?_ | refine blk_alloc ?_ _)); refine blk_far ?_ NB174_173.out _; (with_reducible repeat (first | refine blk_drewN ?_ _ | refine blk_drew ?_ | refine blk_alloc ?_ _)); refine blk_far ?_ NB174_173.out _; (with_reducible repeat (first | refine blk_drewN ?_ _ | refine blk_drew ?_ | refine blk_alloc ?_ _)); refine blk_far ?_ NB174_173.out _; (with_reducible repeat (first | refine blk_drewN ?_ _ | refine blk_drew ?_ | refine blk_alloc ?_ _)); refine blk_far ?_ NB174_173.out _; (with_reducible repeat (first | refine blk_drewN ?_ _ | refine blk_drew ?_ | refine blk_alloc ?_ _)); refine blk_far ?_ NB174_173.out _; (with_reducible repeat (first | refine blk_drewN ?_ _ | refine blk_drew ?_ | refine blk_alloc ?_ _)); refine blk_far ?_ NB174_173.out _; (with_reducible repeat (first | refine blk_drewN ?_ _ | refine blk_drew ?_ | refine blk_alloc ?_ _)); refine blk_far ?_ NB174_173.out _; (with_reducible repeat (first | refine blk_drewN ?_ _ | refine blk_drew ?_ | refine blk_alloc ?_ _)); refine blk_far ?_ NB174_173.out _; (with_reducible repeat (first | refine blk_drewN ?_ _ | refine blk_drew ?_ | refine blk_alloc ?_ _)); refine blk_far ?_ NB174_173.out _; (with_reducible repeat (first | refine blk_drewN ?_ _ | refine blk_drew ?_ | refine blk_alloc ?_ _)); refine blk_far ?_ NB174_173.out _; (with_reducible repeat (first | refine blk_drewN ?_ _ | refine blk_drew ?_ | refine blk_alloc ?_ _)); refine blk_far ?_ NB174_173.out _; (with_reducible repeat (first | refine blk_drewN ?_ _ | refine blk_drew ?_ | refine blk_alloc ?_ _)); exact BK174.out⟩, ⟨by repeat (first | (with_reducible first | exact HB.out | apply below_alloc | apply pw_below_drewN | apply below_drew1 | refine below_set ?_ GE160.out | refine below_set ?_ GE173.out | refine below_set ?_ GE174.out) | exact HB.out)⟩⟩
    case round =>
      clear H'
      try clear p2
      try clear p6
      try clear c8
      obtain ⟨x23_1, x174000_1, x174001_1, x174002_1, x174003_1, x174004_1, x174005_1, x174006_1, x174007_1, x174008_1, x174009_1, x174010_1, x175000_1, x175001_1, x175002_1, x175003_1, x175004_1, x175005_1, x175006_1, x175007_1, x175008_1, x175009_1, x175010_1, rfl, HA, HK1, BK160, BK173, BK174, HB⟩ := hrel
      cases gk with
      | zero => exact absurd HA.out (by simp [hawalalaw14_SagaLeg.l0])
      | succ k1 =>
        have H := HA.out
        clear HA
        simp only [hawalalaw14_SagaLeg.l0] at H
        by_cases c38 : x23_1 < (l1.length : Int)
        · rw [if_pos c38] at H
          have c38b0 : decide (x23_1 < (l1.length : Int)) = true := decide_eq_true c38
          clear c38
          by_cases c39 : 0 ≤ x23_1
          · rw [if_pos c39] at H
            have c39b0 : decide (0 ≤ x23_1) = true := decide_eq_true c39
            clear c39
            by_cases c40 : x23_1 < (l1.length : Int)
            · rw [if_pos c40] at H
              have c40b0 : decide (x23_1 < (l1.length : Int)) = true := decide_eq_true c40
              clear c40
              have HC41 := Aside0.mk H
              clear H
              have p175 : 0 ≤ (x23_1 : Int) := of_decide_eq_true (by first | (with_reducible assumption) | assumption)
              have q175 : x23_1 < (l1.length : Int) := of_decide_eq_true (by first | (with_reducible assumption) | assumption)
              obtain ⟨ad175, e175, hx175_0⟩ := Kd.at_bool HR1.out x23_1 p175 q175
              cases e175
              replace hx175_0 := (HB.out.cell (World.block_lt_of_cell? w _ hx175_0)).trans hx175_0
              replace p175 := eq_true p175
              replace q175 := eq_true q175
              go_upto_region 8 with (fail)
              go_cut [45] (fun v45 wc => ∃ (kq : Nat) (x45_40 : Bool), v45 = .bool x45_40 ∧ Aside0 (hawalalaw14_SagaLeg.j1 kq (rdOf false l1 x23_1) l1 (l1.length : Int) x23_1 x45_40 x174000_1 x174001_1 x174002_1 x174003_1 x174004_1 x174005_1 x174006_1 x174007_1 x174008_1 x174009_1 x174010_1 x175000_1 x175001_1 x175002_1 x175003_1 x175004_1 x175005_1 x175006_1 x175007_1 x175008_1 x175009_1 x175010_1 = some r) ∧ Aside0 (kq ≤ k1) ∧ Aside0 (wc.heap[gb160]? = some (.cells #[.int .i64 a2_0, .int .i64 a2_1, .int .i64 a2_2, .int .i64 a2_3, .int .i64 a2_4, .int .i64 (wrap64 (Int.tmod a0 5)), .int .i64 a2_6] 25 (0, 0))) ∧ Aside0 (wc.heap[gb173]? = some (.cells #[.int .i64 x174000_1, .int .i64 x174001_1, .int .i64 x174002_1, .int .i64 x174003_1, .int .i64 x174004_1, .int .i64 x174005_1, .int .i64 x174006_1, .int .i64 x174007_1, .int .i64 x174008_1, .int .i64 x174009_1, .int .i64 x174010_1] 30 (0, 0))) ∧ Aside0 (wc.heap[gb174]? = some (.cells #[.int .i64 x175000_1, .int .i64 x175001_1, .int .i64 x175002_1, .int .i64 x175003_1, .int .i64 x175004_1, .int .i64 x175005_1, .int .i64 x175006_1, .int .i64 x175007_1, .int .i64 x175008_1, .int .i64 x175009_1, .int .i64 x175010_1] 30 (0, 0))) ∧ Aside0 (Below w.heap.size w wc))
              case first =>
                have H := HC41.out
                clear HC41
                by_cases c42 : ((!(x174000_1 == x175000_1) || (!(x174001_1 == x175001_1) || (!(x174002_1 == x175002_1) || (!(x174003_1 == x175003_1) || (!(x174004_1 == x175004_1) || (!(x174005_1 == x175005_1) || (!(x174006_1 == x175006_1)))))))) || (!(x174007_1 == x175007_1) || (!(x174008_1 == x175008_1) || (!(x174009_1 == x175009_1) || (!(x174010_1 == x175010_1)))))) = true
                · rw [if_pos c42] at H
                  have c42b0 : ((!(x174000_1 == x175000_1) || (!(x174001_1 == x175001_1) || (!(x174002_1 == x175002_1) || (!(x174003_1 == x175003_1) || (!(x174004_1 == x175004_1) || (!(x174005_1 == x175005_1) || (!(x174006_1 == x175006_1)))))))) || (!(x174007_1 == x175007_1) || (!(x174008_1 == x175008_1) || (!(x174009_1 == x175009_1) || (!(x174010_1 == x175010_1)))))) = true := c42
                  clear c42
                  (first | rw [c42b0] | (simp only [i64_w, i32_w]; rw [c42b0]) | skip)
                  have H' := Aside0.mk H
                  clear H
                  try go_wp2
                  have n0_ := Aside0.mk (blk_drew BK160.out)
                  have n1_ := Aside0.mk (blk_drew BK173.out)
                  have n2_ := Aside0.mk (blk_drew BK174.out)
                  have n3_ := Aside0.mk (below_drew1 HB.out)
                  clear BK160
                  clear BK173
                  clear BK174
                  clear HB
                  have BK160 := n0_
                  have BK173 := n1_
                  have BK174 := n2_
                  have HB := n3_
                  clear n0_ n1_ n2_ n3_
                  refine start_ (n := 19) (S := fun w' => w'.cell? ⟨gb173, 0, none⟩ = some (.int .i64 x174000_1) ∧ w'.cell? ⟨gb173, 1, none⟩ = some (.int .i64 x174001_1) ∧ w'.cell? ⟨gb173, 2, none⟩ = some (.int .i64 x174002_1) ∧ w'.cell? ⟨gb173, 3, none⟩ = some (.int .i64 x174003_1) ∧ w'.cell? ⟨gb173, 4, none⟩ = some (.int .i64 x174004_1) ∧ w'.cell? ⟨gb173, 5, none⟩ = some (.int .i64 x174005_1) ∧ w'.cell? ⟨gb173, 6, none⟩ = some (.int .i64 x174006_1) ∧ w'.cell? ⟨gb173, 7, none⟩ = some (.int .i64 x174007_1) ∧ w'.cell? ⟨gb173, 8, none⟩ = some (.int .i64 x174008_1) ∧ w'.cell? ⟨gb173, 9, none⟩ = some (.int .i64 x174009_1) ∧ w'.cell? ⟨gb173, 10, none⟩ = some (.int .i64 x174010_1) ∧ w'.cell? ⟨gb174, 0, none⟩ = some (.int .i64 x175000_1) ∧ w'.cell? ⟨gb174, 1, none⟩ = some (.int .i64 x175001_1) ∧ w'.cell? ⟨gb174, 2, none⟩ = some (.int .i64 x175002_1) ∧ w'.cell? ⟨gb174, 3, none⟩ = some (.int .i64 x175003_1) ∧ w'.cell? ⟨gb174, 4, none⟩ = some (.int .i64 x175004_1) ∧ w'.cell? ⟨gb174, 5, none⟩ = some (.int .i64 x175005_1) ∧ w'.cell? ⟨gb174, 6, none⟩ = some (.int .i64 x175006_1) ∧ w'.cell? ⟨gb174, 7, none⟩ = some (.int .i64 x175007_1) ∧ w'.cell? ⟨gb174, 8, none⟩ = some (.int .i64 x175008_1) ∧ w'.cell? ⟨gb174, 9, none⟩ = some (.int .i64 x175009_1) ∧ w'.cell? ⟨gb174, 10, none⟩ = some (.int .i64 x175010_1)) (ds := []) #[false, false, false, false, false, false, false, false, false, false, false, false, false, false, false, false, false, false, false] (by kernel_rfl) rfl rfl ⟨(blk_cell BK173.out 0).trans rfl, (blk_cell BK173.out 1).trans rfl, (blk_cell BK173.out 2).trans rfl, (blk_cell BK173.out 3).trans rfl, (blk_cell BK173.out 4).trans rfl, (blk_cell BK173.out 5).trans rfl, (blk_cell BK173.out 6).trans rfl, (blk_cell BK173.out 7).trans rfl, (blk_cell BK173.out 8).trans rfl, (blk_cell BK173.out 9).trans rfl, (blk_cell BK173.out 10).trans rfl, (blk_cell BK174.out 0).trans rfl, (blk_cell BK174.out 1).trans rfl, (blk_cell BK174.out 2).trans rfl, (blk_cell BK174.out 3).trans rfl, (blk_cell BK174.out 4).trans rfl, (blk_cell BK174.out 5).trans rfl, (blk_cell BK174.out 6).trans rfl, (blk_cell BK174.out 7).trans rfl, (blk_cell BK174.out 8).trans rfl, (blk_cell BK174.out 9).trans rfl, (blk_cell BK174.out 10).trans rfl⟩ (fun hHeld => ?_); refine with_tabW hawalalaw14_SagaLeg.tab8 hawalalaw14_SagaLeg.bits8 (fun HT_ HW_ => ?_)
                  generalize wr.drew = w43 at BK160 BK173 BK174 HB hHeld ⊢
                  refine take_ (i := 0) (N := some 27) (v := ?_) (a' := ?_) #[true, false, false, false, false, false, false, false, false, false, false, false, false, false, false, false, false, false, false] rfl rfl (take_ofW HT_.out HW_.out (by kernel_rfl)) (fun _ _ _ h => h) (Or.inl ⟨by rfl, ?_⟩) hHeld ?_ ?_
                  rotate_left
                  · rintro w' ⟨s0, s1, s2, s3, s4, s5, s6, s7, s8, s9, s10, s11, s12, s13, s14, s15, s16, s17, s18, s19, s20, s21⟩
                    go_simp
                    with_reducible rfl
                  rotate_left
                  · simp only [Act.put, List.setIfInBounds_toArray, List.set_cons_zero, List.set_cons_succ, i64_w, i32_w]
                    rfl
                  refine take_ (i := 1) (N := some 28) (v := ?_) (a' := ?_) #[true, true, false, false, false, false, false, false, false, false, false, false, false, false, false, false, false, false, false] rfl rfl (take_ofW HT_.out HW_.out (by kernel_rfl)) (fun _ _ _ h => h) (Or.inl ⟨by rfl, ?_⟩) hHeld ?_ ?_
                  rotate_left
                  · rintro w' ⟨s0, s1, s2, s3, s4, s5, s6, s7, s8, s9, s10, s11, s12, s13, s14, s15, s16, s17, s18, s19, s20, s21⟩
                    go_simp
                    with_reducible rfl
                  rotate_left
                  · simp only [Act.put, List.setIfInBounds_toArray, List.set_cons_zero, List.set_cons_succ, i64_w, i32_w]
                    rfl
                  refine pure_ (i := 2) (N := some 29) (v := ?_) (a' := ?_) #[true, true, true, false, false, false, false, false, false, false, false, false, false, false, false, false, false, false, false] rfl rfl (any_of HT_.out (by kernel_rfl)) (fun _ _ _ h => h) (Or.inl ⟨by rfl, ?_⟩) ?_ ?_
                  rotate_left
                  · intro w'
                    go_simp
                    with_reducible rfl
                  rotate_left
                  · simp only [Act.put, List.setIfInBounds_toArray, List.set_cons_zero, List.set_cons_succ, i64_w, i32_w]
                    rfl
                  refine pure_ (i := 3) (N := some 30) (v := ?_) (a' := ?_) #[true, true, true, true, false, false, false, false, false, false, false, false, false, false, false, false, false, false, false] rfl rfl (any_of HT_.out (by kernel_rfl)) (fun _ _ _ h => h) (Or.inl ⟨by rfl, ?_⟩) ?_ ?_
                  rotate_left
                  · intro w'
                    go_simp
                    with_reducible rfl
                  rotate_left
                  · simp only [Act.put, List.setIfInBounds_toArray, List.set_cons_zero, List.set_cons_succ, i64_w, i32_w]
                    rfl
                  refine pure_ (i := 4) (N := some 31) (v := undef) (a' := ?_) #[true, true, true, true, true, false, false, false, false, false, false, false, false, false, false, false, false, false, false] rfl rfl (any_of HT_.out (by kernel_rfl)) (fun _ _ _ h => h) (Or.inr ⟨by rfl, rfl⟩) ?_ ?_
                  rotate_left
                  · simp only [Act.put, List.setIfInBounds_toArray, List.set_cons_zero, List.set_cons_succ, i64_w, i32_w]
                    rfl
                  refine pure_ (i := 5) (N := some 32) (v := undef) (a' := ?_) #[true, true, true, true, true, true, false, false, false, false, false, false, false, false, false, false, false, false, false] rfl rfl (any_of HT_.out (by kernel_rfl)) (fun _ _ _ h => h) (Or.inr ⟨by rfl, rfl⟩) ?_ ?_
                  rotate_left
                  · simp only [Act.put, List.setIfInBounds_toArray, List.set_cons_zero, List.set_cons_succ, i64_w, i32_w]
                    rfl
                  refine pure_ (i := 6) (N := some 33) (v := undef) (a' := ?_) #[true, true, true, true, true, true, true, false, false, false, false, false, false, false, false, false, false, false, false] rfl rfl (any_of HT_.out (by kernel_rfl)) (fun _ _ _ h => h) (Or.inr ⟨by rfl, rfl⟩) ?_ ?_
                  rotate_left
                  · simp only [Act.put, List.setIfInBounds_toArray, List.set_cons_zero, List.set_cons_succ, i64_w, i32_w]
                    rfl
                  refine pure_ (i := 7) (N := some 34) (v := undef) (a' := ?_) #[true, true, true, true, true, true, true, true, false, false, false, false, false, false, false, false, false, false, false] rfl rfl (any_of HT_.out (by kernel_rfl)) (fun _ _ _ h => h) (Or.inr ⟨by rfl, rfl⟩) ?_ ?_
                  rotate_left
                  · simp only [Act.put, List.setIfInBounds_toArray, List.set_cons_zero, List.set_cons_succ, i64_w, i32_w]
                    rfl
                  refine pure_ (i := 8) (N := some 35) (v := undef) (a' := ?_) #[true, true, true, true, true, true, true, true, true, false, false, false, false, false, false, false, false, false, false] rfl rfl (any_of HT_.out (by kernel_rfl)) (fun _ _ _ h => h) (Or.inr ⟨by rfl, rfl⟩) ?_ ?_
                  rotate_left
                  · simp only [Act.put, List.setIfInBounds_toArray, List.set_cons_zero, List.set_cons_succ, i64_w, i32_w]
                    rfl
                  refine pure_ (i := 9) (N := some 36) (v := undef) (a' := ?_) #[true, true, true, true, true, true, true, true, true, true, false, false, false, false, false, false, false, false, false] rfl rfl (any_of HT_.out (by kernel_rfl)) (fun _ _ _ h => h) (Or.inr ⟨by rfl, rfl⟩) ?_ ?_
                  rotate_left
                  · simp only [Act.put, List.setIfInBounds_toArray, List.set_cons_zero, List.set_cons_succ, i64_w, i32_w]
                    rfl
                  refine pure_ (i := 10) (N := some 37) (v := undef) (a' := ?_) #[true, true, true, true, true, true, true, true, true, true, true, false, false, false, false, false, false, false, false] rfl rfl (any_of HT_.out (by kernel_rfl)) (fun _ _ _ h => h) (Or.inr ⟨by rfl, rfl⟩) ?_ ?_
                  rotate_left
                  · simp only [Act.put, List.setIfInBounds_toArray, List.set_cons_zero, List.set_cons_succ, i64_w, i32_w]
                    rfl
                  refine pure_ (i := 11) (N := some 38) (v := undef) (a' := ?_) #[true, true, true, true, true, true, true, true, true, true, true, true, false, false, false, false, false, false, false] rfl rfl (any_of HT_.out (by kernel_rfl)) (fun _ _ _ h => h) (Or.inr ⟨by rfl, rfl⟩) ?_ ?_
                  rotate_left
                  · simp only [Act.put, List.setIfInBounds_toArray, List.set_cons_zero, List.set_cons_succ, i64_w, i32_w]
                    rfl
                  refine pure_ (i := 12) (N := some 39) (v := undef) (a' := ?_) #[true, true, true, true, true, true, true, true, true, true, true, true, true, false, false, false, false, false, false] rfl rfl (any_of HT_.out (by kernel_rfl)) (fun _ _ _ h => h) (Or.inr ⟨by rfl, rfl⟩) ?_ ?_
                  rotate_left
                  · simp only [Act.put, List.setIfInBounds_toArray, List.set_cons_zero, List.set_cons_succ, i64_w, i32_w]
                    rfl
                  refine pure_ (i := 13) (N := some 40) (v := undef) (a' := ?_) #[true, true, true, true, true, true, true, true, true, true, true, true, true, true, false, false, false, false, false] rfl rfl (any_of HT_.out (by kernel_rfl)) (fun _ _ _ h => h) (Or.inr ⟨by rfl, rfl⟩) ?_ ?_
                  rotate_left
                  · simp only [Act.put, List.setIfInBounds_toArray, List.set_cons_zero, List.set_cons_succ, i64_w, i32_w]
                    rfl
                  refine pure_ (i := 14) (N := some 41) (v := undef) (a' := ?_) #[true, true, true, true, true, true, true, true, true, true, true, true, true, true, true, false, false, false, false] rfl rfl (any_of HT_.out (by kernel_rfl)) (fun _ _ _ h => h) (Or.inr ⟨by rfl, rfl⟩) ?_ ?_
                  rotate_left
                  · simp only [Act.put, List.setIfInBounds_toArray, List.set_cons_zero, List.set_cons_succ, i64_w, i32_w]
                    rfl
                  refine pure_ (i := 15) (N := some 42) (v := undef) (a' := ?_) #[true, true, true, true, true, true, true, true, true, true, true, true, true, true, true, true, false, false, false] rfl rfl (any_of HT_.out (by kernel_rfl)) (fun _ _ _ h => h) (Or.inr ⟨by rfl, rfl⟩) ?_ ?_
                  rotate_left
                  · simp only [Act.put, List.setIfInBounds_toArray, List.set_cons_zero, List.set_cons_succ, i64_w, i32_w]
                    rfl
                  refine pure_ (i := 16) (N := some 43) (v := undef) (a' := ?_) #[true, true, true, true, true, true, true, true, true, true, true, true, true, true, true, true, true, false, false] rfl rfl (any_of HT_.out (by kernel_rfl)) (fun _ _ _ h => h) (Or.inr ⟨by rfl, rfl⟩) ?_ ?_
                  rotate_left
                  · simp only [Act.put, List.setIfInBounds_toArray, List.set_cons_zero, List.set_cons_succ, i64_w, i32_w]
                    rfl
                  refine pure_ (i := 17) (N := some 44) (v := undef) (a' := ?_) #[true, true, true, true, true, true, true, true, true, true, true, true, true, true, true, true, true, true, false] rfl rfl (any_of HT_.out (by kernel_rfl)) (fun _ _ _ h => h) (Or.inr ⟨by rfl, rfl⟩) ?_ ?_
                  rotate_left
                  · simp only [Act.put, List.setIfInBounds_toArray, List.set_cons_zero, List.set_cons_succ, i64_w, i32_w]
                    rfl
                  refine pure_ (i := 18) (N := some 45) (v := ?_) (a' := ?_) #[true, true, true, true, true, true, true, true, true, true, true, true, true, true, true, true, true, true, true] rfl rfl (any_of HT_.out (by kernel_rfl)) (fun _ _ _ h => h) (Or.inl ⟨by rfl, ?_⟩) ?_ ?_
                  rotate_left
                  · intro w'
                    go_simp
                    with_reducible rfl
                  rotate_left
                  · simp only [Act.put, List.setIfInBounds_toArray, List.set_cons_zero, List.set_cons_succ, i64_w, i32_w]
                    rfl
                  refine done_ (done_of HT_.out (by kernel_rfl)) ?_
                  try go_wp2
                  go_meet
                  case rel => exact ⟨_, (true), (by first | rfl | (simp; done) | (simp [*]; done)), H', ⟨by have := HK1.out; first | omega | exact Nat.le_refl _⟩, ⟨by (with_reducible repeat (first | refine blk_drewN ?_ _ | refine blk_drew ?_ | refine blk_alloc ?_ _)); exact BK160.out⟩, ⟨by (with_reducible repeat (first | refine blk_drewN ?_ _ | refine blk_drew ?_ | refine blk_alloc ?_ _)); exact BK173.out⟩, ⟨by (with_reducible repeat (first | refine blk_drewN ?_ _ | refine blk_drew ?_ | refine blk_alloc ?_ _)); exact BK174.out⟩, ⟨by repeat (first | (with_reducible first | exact HB.out | apply below_alloc | apply pw_below_drewN | apply below_drew1 | refine below_set ?_ GE160.out | refine below_set ?_ GE173.out | refine below_set ?_ GE174.out) | exact HB.out)⟩⟩
                · rw [if_neg c42] at H
                  have c42b0 : ((!(x174000_1 == x175000_1) || (!(x174001_1 == x175001_1) || (!(x174002_1 == x175002_1) || (!(x174003_1 == x175003_1) || (!(x174004_1 == x175004_1) || (!(x174005_1 == x175005_1) || (!(x174006_1 == x175006_1)))))))) || (!(x174007_1 == x175007_1) || (!(x174008_1 == x175008_1) || (!(x174009_1 == x175009_1) || (!(x174010_1 == x175010_1)))))) = false := by simpa using c42
                  clear c42
                  (first | rw [c42b0] | (simp only [i64_w, i32_w]; rw [c42b0]) | skip)
                  replace H := Option.bind_eq_some_iff.mp H
                  obtain ⟨t176, A440, H⟩ := H
                  replace H : (if x175007_1 = 0 then (hawalalaw14_SagaLeg.j1 k1 (rdOf false l1 x23_1) l1 (l1.length : Int) x23_1 (t176 != (decide (x175008_1 ≥ x175005_1))) x174000_1 x174001_1 x174002_1 x174003_1 x174004_1 x174005_1 x174006_1 x174007_1 x174008_1 x174009_1 x174010_1 x175000_1 x175001_1 x175002_1 x175003_1 x175004_1 x175005_1 x175006_1 x175007_1 x175008_1 x175009_1 x175010_1) else (hawalalaw14_SagaLeg.j1 k1 (rdOf false l1 x23_1) l1 (l1.length : Int) x23_1 (t176 != false) x174000_1 x174001_1 x174002_1 x174003_1 x174004_1 x174005_1 x174006_1 x174007_1 x174008_1 x174009_1 x174010_1 x175000_1 x175001_1 x175002_1 x175003_1 x175004_1 x175005_1 x175006_1 x175007_1 x175008_1 x175009_1 x175010_1)) = some r := H
                  have A44 := Aside0.mk A440
                  clear A440
                  by_cases c45 : x175007_1 = 0
                  · rw [if_pos c45] at H
                    have c45b0 : (x175007_1 == 0) = true := beq_iff_eq.mpr c45
                    have c45b1 : (x175007_1 != 0) = false := bne_eq_false_iff_eq.mpr c45
                    clear c45
                    have H' := Aside0.mk H
                    clear H
                    try go_wp2
                    have n0_ := Aside0.mk (blk_drew BK160.out)
                    have n1_ := Aside0.mk (blk_drew BK173.out)
                    have n2_ := Aside0.mk (blk_drew BK174.out)
                    have n3_ := Aside0.mk (below_drew1 HB.out)
                    clear BK160
                    clear BK173
                    clear BK174
                    clear HB
                    have BK160 := n0_
                    have BK173 := n1_
                    have BK174 := n2_
                    have HB := n3_
                    clear n0_ n1_ n2_ n3_
                    refine start_ (n := 19) (S := fun w' => w'.cell? ⟨gb173, 0, none⟩ = some (.int .i64 x174000_1) ∧ w'.cell? ⟨gb173, 1, none⟩ = some (.int .i64 x174001_1) ∧ w'.cell? ⟨gb173, 2, none⟩ = some (.int .i64 x174002_1) ∧ w'.cell? ⟨gb173, 3, none⟩ = some (.int .i64 x174003_1) ∧ w'.cell? ⟨gb173, 4, none⟩ = some (.int .i64 x174004_1) ∧ w'.cell? ⟨gb173, 5, none⟩ = some (.int .i64 x174005_1) ∧ w'.cell? ⟨gb173, 6, none⟩ = some (.int .i64 x174006_1) ∧ w'.cell? ⟨gb173, 7, none⟩ = some (.int .i64 x174007_1) ∧ w'.cell? ⟨gb173, 8, none⟩ = some (.int .i64 x174008_1) ∧ w'.cell? ⟨gb173, 9, none⟩ = some (.int .i64 x174009_1) ∧ w'.cell? ⟨gb173, 10, none⟩ = some (.int .i64 x174010_1) ∧ w'.cell? ⟨gb174, 0, none⟩ = some (.int .i64 x175000_1) ∧ w'.cell? ⟨gb174, 1, none⟩ = some (.int .i64 x175001_1) ∧ w'.cell? ⟨gb174, 2, none⟩ = some (.int .i64 x175002_1) ∧ w'.cell? ⟨gb174, 3, none⟩ = some (.int .i64 x175003_1) ∧ w'.cell? ⟨gb174, 4, none⟩ = some (.int .i64 x175004_1) ∧ w'.cell? ⟨gb174, 5, none⟩ = some (.int .i64 x175005_1) ∧ w'.cell? ⟨gb174, 6, none⟩ = some (.int .i64 x175006_1) ∧ w'.cell? ⟨gb174, 7, none⟩ = some (.int .i64 x175007_1) ∧ w'.cell? ⟨gb174, 8, none⟩ = some (.int .i64 x175008_1) ∧ w'.cell? ⟨gb174, 9, none⟩ = some (.int .i64 x175009_1) ∧ w'.cell? ⟨gb174, 10, none⟩ = some (.int .i64 x175010_1)) (ds := []) #[false, false, false, false, false, false, false, false, false, false, false, false, false, false, false, false, false, false, false] (by kernel_rfl) rfl rfl ⟨(blk_cell BK173.out 0).trans rfl, (blk_cell BK173.out 1).trans rfl, (blk_cell BK173.out 2).trans rfl, (blk_cell BK173.out 3).trans rfl, (blk_cell BK173.out 4).trans rfl, (blk_cell BK173.out 5).trans rfl, (blk_cell BK173.out 6).trans rfl, (blk_cell BK173.out 7).trans rfl, (blk_cell BK173.out 8).trans rfl, (blk_cell BK173.out 9).trans rfl, (blk_cell BK173.out 10).trans rfl, (blk_cell BK174.out 0).trans rfl, (blk_cell BK174.out 1).trans rfl, (blk_cell BK174.out 2).trans rfl, (blk_cell BK174.out 3).trans rfl, (blk_cell BK174.out 4).trans rfl, (blk_cell BK174.out 5).trans rfl, (blk_cell BK174.out 6).trans rfl, (blk_cell BK174.out 7).trans rfl, (blk_cell BK174.out 8).trans rfl, (blk_cell BK174.out 9).trans rfl, (blk_cell BK174.out 10).trans rfl⟩ (fun hHeld => ?_); refine with_tabW hawalalaw14_SagaLeg.tab8 hawalalaw14_SagaLeg.bits8 (fun HT_ HW_ => ?_)
                    generalize wr.drew = w46 at BK160 BK173 BK174 HB hHeld ⊢
                    refine take_ (i := 0) (N := some 27) (v := ?_) (a' := ?_) #[true, false, false, false, false, false, false, false, false, false, false, false, false, false, false, false, false, false, false] rfl rfl (take_ofW HT_.out HW_.out (by kernel_rfl)) (fun _ _ _ h => h) (Or.inl ⟨by rfl, ?_⟩) hHeld ?_ ?_
                    rotate_left
                    · rintro w' ⟨s0, s1, s2, s3, s4, s5, s6, s7, s8, s9, s10, s11, s12, s13, s14, s15, s16, s17, s18, s19, s20, s21⟩
                      go_simp
                      with_reducible rfl
                    rotate_left
                    · simp only [Act.put, List.setIfInBounds_toArray, List.set_cons_zero, List.set_cons_succ, i64_w, i32_w]
                      rfl
                    refine take_ (i := 1) (N := some 28) (v := ?_) (a' := ?_) #[true, true, false, false, false, false, false, false, false, false, false, false, false, false, false, false, false, false, false] rfl rfl (take_ofW HT_.out HW_.out (by kernel_rfl)) (fun _ _ _ h => h) (Or.inl ⟨by rfl, ?_⟩) hHeld ?_ ?_
                    rotate_left
                    · rintro w' ⟨s0, s1, s2, s3, s4, s5, s6, s7, s8, s9, s10, s11, s12, s13, s14, s15, s16, s17, s18, s19, s20, s21⟩
                      go_simp
                      with_reducible rfl
                    rotate_left
                    · simp only [Act.put, List.setIfInBounds_toArray, List.set_cons_zero, List.set_cons_succ, i64_w, i32_w]
                      rfl
                    refine pure_ (i := 2) (N := some 29) (v := ?_) (a' := ?_) #[true, true, true, false, false, false, false, false, false, false, false, false, false, false, false, false, false, false, false] rfl rfl (any_of HT_.out (by kernel_rfl)) (fun _ _ _ h => h) (Or.inl ⟨by rfl, ?_⟩) ?_ ?_
                    rotate_left
                    · intro w'
                      go_simp
                      with_reducible rfl
                    rotate_left
                    · simp only [Act.put, List.setIfInBounds_toArray, List.set_cons_zero, List.set_cons_succ, i64_w, i32_w]
                      rfl
                    refine pure_ (i := 3) (N := some 30) (v := ?_) (a' := ?_) #[true, true, true, true, false, false, false, false, false, false, false, false, false, false, false, false, false, false, false] rfl rfl (any_of HT_.out (by kernel_rfl)) (fun _ _ _ h => h) (Or.inl ⟨by rfl, ?_⟩) ?_ ?_
                    rotate_left
                    · intro w'
                      go_simp
                      with_reducible rfl
                    rotate_left
                    · simp only [Act.put, List.setIfInBounds_toArray, List.set_cons_zero, List.set_cons_succ, i64_w, i32_w]
                      rfl
                    refine pure_ (i := 6) (N := some 33) (v := ?_) (a' := ?_) #[true, true, true, true, false, false, true, false, false, false, false, false, false, false, false, false, false, false, false] rfl rfl (any_of HT_.out (by kernel_rfl)) (fun _ _ _ h => h) (Or.inl ⟨by rfl, ?_⟩) ?_ ?_
                    rotate_left
                    · intro w'
                      go_simp
                      with_reducible rfl
                    rotate_left
                    · simp only [Act.put, List.setIfInBounds_toArray, List.set_cons_zero, List.set_cons_succ, i64_w, i32_w]
                      rfl
                    refine take_ (i := 4) (N := some 31) (v := ?_) (a' := ?_) #[true, true, true, true, true, false, true, false, false, false, false, false, false, false, false, false, false, false, false] rfl rfl (take_ofW HT_.out HW_.out (by kernel_rfl)) (fun _ _ _ h => h) (Or.inl ⟨by rfl, ?_⟩) hHeld ?_ ?_
                    rotate_left
                    · rintro w' ⟨s0, s1, s2, s3, s4, s5, s6, s7, s8, s9, s10, s11, s12, s13, s14, s15, s16, s17, s18, s19, s20, s21⟩
                      go_simp
                      with_reducible rfl
                    rotate_left
                    · simp only [Act.put, List.setIfInBounds_toArray, List.set_cons_zero, List.set_cons_succ, i64_w, i32_w]
                      rfl
                    refine take_ (i := 7) (N := some 34) (v := ?_) (a' := ?_) #[true, true, true, true, true, false, true, true, false, false, false, false, false, false, false, false, false, false, false] rfl rfl (take_ofW HT_.out HW_.out (by kernel_rfl)) (fun _ _ _ h => h) (Or.inl ⟨by rfl, ?_⟩) hHeld ?_ ?_
                    rotate_left
                    · rintro w' ⟨s0, s1, s2, s3, s4, s5, s6, s7, s8, s9, s10, s11, s12, s13, s14, s15, s16, s17, s18, s19, s20, s21⟩
                      go_simp
                      with_reducible rfl
                    rotate_left
                    · simp only [Act.put, List.setIfInBounds_toArray, List.set_cons_zero, List.set_cons_succ, i64_w, i32_w]
                      rfl
                    refine pure_ (i := 8) (N := some 35) (v := ?_) (a' := ?_) #[true, true, true, true, true, false, true, true, true, false, false, false, false, false, false, false, false, false, false] rfl rfl (any_of HT_.out (by kernel_rfl)) (fun _ _ _ h => h) (Or.inl ⟨by rfl, ?_⟩) ?_ ?_
                    rotate_left
                    · intro w'
                      go_simp
                      with_reducible rfl
                    rotate_left
                    · simp only [Act.put, List.setIfInBounds_toArray, List.set_cons_zero, List.set_cons_succ, i64_w, i32_w]
                      rfl
                    refine one_ (i := 5) (N := some 32) #[true, true, true, true, true, true, true, true, true, false, false, false, false, false, false, false, false, false, false] rfl rfl (one_of HT_.out (by kernel_rfl)) (by decide) (fun K hK => ?_)
                    refine goes_ Try.func9 (by kernel_rfl) rfl #[.agg #[.int .i64 x174000_1, .int .i64 x174001_1, .int .i64 x174002_1, .int .i64 x174003_1, .int .i64 x174004_1, .int .i64 x174005_1, .int .i64 x174006_1, .int .i64 x174007_1, .int .i64 x174008_1, .int .i64 x174009_1, .int .i64 x174010_1]] (by rfl) rfl rfl (by (try simp only [List.map_toArray, List.map_cons, List.map_nil]); first | done | rfl | (simp only [List.length_drop, List.length_take]; rfl)) ?_
                    with_reducible refine (saga_Ready.calls x174000_1 x174001_1 x174002_1 x174003_1 x174004_1 x174005_1 x174006_1 x174007_1 x174008_1 x174009_1 x174010_1 t176 _ A44.out).mono ?_
                    rintro e w47 ⟨rfl, hb⟩
                    refine ⟨_, rfl, ?_⟩
                    have n0_ := Aside0.mk (blk_below (g := gb160) (o := .cells #[.int .i64 a2_0, .int .i64 a2_1, .int .i64 a2_2, .int .i64 a2_3, .int .i64 a2_4, .int .i64 (wrap64 (Int.tmod a0 5)), .int .i64 a2_6] 25 (0, 0)) (by (with_reducible repeat (first | refine blk_drewN ?_ _ | refine blk_drew ?_ | refine blk_alloc ?_ _)); exact BK160.out) hb)
                    have n1_ := Aside0.mk (blk_below (g := gb173) (o := .cells #[.int .i64 x174000_1, .int .i64 x174001_1, .int .i64 x174002_1, .int .i64 x174003_1, .int .i64 x174004_1, .int .i64 x174005_1, .int .i64 x174006_1, .int .i64 x174007_1, .int .i64 x174008_1, .int .i64 x174009_1, .int .i64 x174010_1] 30 (0, 0)) (by (with_reducible repeat (first | refine blk_drewN ?_ _ | refine blk_drew ?_ | refine blk_alloc ?_ _)); exact BK173.out) hb)
                    have n2_ := Aside0.mk (blk_below (g := gb174) (o := .cells #[.int .i64 x175000_1, .int .i64 x175001_1, .int .i64 x175002_1, .int .i64 x175003_1, .int .i64 x175004_1, .int .i64 x175005_1, .int .i64 x175006_1, .int .i64 x175007_1, .int .i64 x175008_1, .int .i64 x175009_1, .int .i64 x175010_1] 30 (0, 0)) (by (with_reducible repeat (first | refine blk_drewN ?_ _ | refine blk_drew ?_ | refine blk_alloc ?_ _)); exact BK174.out) hb)
                    have n3_ := Aside0.mk (below_step (by repeat (first | (with_reducible first | exact HB.out | apply below_alloc | apply pw_below_drewN | apply below_drew1 | refine below_set ?_ GE160.out | refine below_set ?_ GE173.out | refine below_set ?_ GE174.out) | exact HB.out)) hb)
                    clear BK160
                    clear BK173
                    clear BK174
                    clear HB
                    have BK160 := n0_
                    have BK173 := n1_
                    have BK174 := n2_
                    have HB := n3_
                    clear n0_ n1_ n2_ n3_
                    (try clear hb)
                    (try clear hb2)
                    (try clear hk)
                    (try clear hi)
                    refine hK.out _ _ ⟨(blk_cell BK173.out 0).trans rfl, (blk_cell BK173.out 1).trans rfl, (blk_cell BK173.out 2).trans rfl, (blk_cell BK173.out 3).trans rfl, (blk_cell BK173.out 4).trans rfl, (blk_cell BK173.out 5).trans rfl, (blk_cell BK173.out 6).trans rfl, (blk_cell BK173.out 7).trans rfl, (blk_cell BK173.out 8).trans rfl, (blk_cell BK173.out 9).trans rfl, (blk_cell BK173.out 10).trans rfl, (blk_cell BK174.out 0).trans rfl, (blk_cell BK174.out 1).trans rfl, (blk_cell BK174.out 2).trans rfl, (blk_cell BK174.out 3).trans rfl, (blk_cell BK174.out 4).trans rfl, (blk_cell BK174.out 5).trans rfl, (blk_cell BK174.out 6).trans rfl, (blk_cell BK174.out 7).trans rfl, (blk_cell BK174.out 8).trans rfl, (blk_cell BK174.out 9).trans rfl, (blk_cell BK174.out 10).trans rfl⟩ (fun hHeld => ?_)
                    clear hK K
                    refine norm_ (a' := ?_) ?_ ?_
                    rotate_left
                    · show Act.put _ (some 32) _ = _
                      simp only [Act.put, List.setIfInBounds_toArray, List.set_cons_zero, List.set_cons_succ, i64_w, i32_w]
                      rfl
                    refine pure_ (i := 9) (N := some 36) (v := ?_) (a' := ?_) #[true, true, true, true, true, true, true, true, true, true, false, false, false, false, false, false, false, false, false] rfl rfl (any_of HT_.out (by kernel_rfl)) (fun _ _ _ h => h) (Or.inl ⟨by rfl, ?_⟩) ?_ ?_
                    rotate_left
                    · intro w'
                      go_simp
                      with_reducible rfl
                    rotate_left
                    · simp only [Act.put, List.setIfInBounds_toArray, List.set_cons_zero, List.set_cons_succ, i64_w, i32_w]
                      rfl
                    refine pure_ (i := 10) (N := some 37) (v := ?_) (a' := ?_) #[true, true, true, true, true, true, true, true, true, true, true, false, false, false, false, false, false, false, false] rfl rfl (any_of HT_.out (by kernel_rfl)) (fun _ _ _ h => h) (Or.inl ⟨by rfl, ?_⟩) ?_ ?_
                    rotate_left
                    · intro w'
                      go_simp
                      with_reducible rfl
                    rotate_left
                    · simp only [Act.put, List.setIfInBounds_toArray, List.set_cons_zero, List.set_cons_succ, i64_w, i32_w]
                      rfl
                    refine pure_ (i := 12) (N := some 39) (v := ?_) (a' := ?_) #[true, true, true, true, true, true, true, true, true, true, true, false, true, false, false, false, false, false, false] rfl rfl (any_of HT_.out (by kernel_rfl)) (fun _ _ _ h => h) (Or.inl ⟨by rfl, ?_⟩) ?_ ?_
                    rotate_left
                    · intro w'
                      go_simp
                      with_reducible rfl
                    rotate_left
                    · simp only [Act.put, List.setIfInBounds_toArray, List.set_cons_zero, List.set_cons_succ, i64_w, i32_w]
                      rfl
                    refine pure_ (i := 13) (N := some 40) (v := ?_) (a' := ?_) #[true, true, true, true, true, true, true, true, true, true, true, false, true, true, false, false, false, false, false] rfl rfl (any_of HT_.out (by kernel_rfl)) (fun _ _ _ h => h) (Or.inl ⟨by rfl, ?_⟩) ?_ ?_
                    rotate_left
                    · intro w'
                      go_simp
                      with_reducible rfl
                    rotate_left
                    · simp only [Act.put, List.setIfInBounds_toArray, List.set_cons_zero, List.set_cons_succ, i64_w, i32_w]
                      rfl
                    refine take_ (i := 11) (N := some 38) (v := ?_) (a' := ?_) #[true, true, true, true, true, true, true, true, true, true, true, true, true, true, false, false, false, false, false] rfl rfl (take_ofW HT_.out HW_.out (by kernel_rfl)) (fun _ _ _ h => h) (Or.inl ⟨by rfl, ?_⟩) hHeld ?_ ?_
                    rotate_left
                    · rintro w' ⟨s0, s1, s2, s3, s4, s5, s6, s7, s8, s9, s10, s11, s12, s13, s14, s15, s16, s17, s18, s19, s20, s21⟩
                      go_simp
                      with_reducible rfl
                    rotate_left
                    · simp only [Act.put, List.setIfInBounds_toArray, List.set_cons_zero, List.set_cons_succ, i64_w, i32_w]
                      rfl
                    refine take_ (i := 14) (N := some 41) (v := ?_) (a' := ?_) #[true, true, true, true, true, true, true, true, true, true, true, true, true, true, true, false, false, false, false] rfl rfl (take_ofW HT_.out HW_.out (by kernel_rfl)) (fun _ _ _ h => h) (Or.inl ⟨by rfl, ?_⟩) hHeld ?_ ?_
                    rotate_left
                    · rintro w' ⟨s0, s1, s2, s3, s4, s5, s6, s7, s8, s9, s10, s11, s12, s13, s14, s15, s16, s17, s18, s19, s20, s21⟩
                      go_simp
                      with_reducible rfl
                    rotate_left
                    · simp only [Act.put, List.setIfInBounds_toArray, List.set_cons_zero, List.set_cons_succ, i64_w, i32_w]
                      rfl
                    refine pure_ (i := 15) (N := some 42) (v := ?_) (a' := ?_) #[true, true, true, true, true, true, true, true, true, true, true, true, true, true, true, true, false, false, false] rfl rfl (any_of HT_.out (by kernel_rfl)) (fun _ _ _ h => h) (Or.inl ⟨by rfl, ?_⟩) ?_ ?_
                    rotate_left
                    · intro w'
                      go_simp
                      with_reducible rfl
                    rotate_left
                    · simp only [Act.put, List.setIfInBounds_toArray, List.set_cons_zero, List.set_cons_succ, i64_w, i32_w]
                      rfl
                    refine pure_ (i := 16) (N := some 43) (v := ?_) (a' := ?_) #[true, true, true, true, true, true, true, true, true, true, true, true, true, true, true, true, true, false, false] rfl rfl (any_of HT_.out (by kernel_rfl)) (fun _ _ _ h => h) (Or.inl ⟨by rfl, ?_⟩) ?_ ?_
                    rotate_left
                    · intro w'
                      go_simp
                      with_reducible rfl
                    rotate_left
                    · simp only [Act.put, List.setIfInBounds_toArray, List.set_cons_zero, List.set_cons_succ, i64_w, i32_w]
                      rfl
                    refine pure_ (i := 17) (N := some 44) (v := ?_) (a' := ?_) #[true, true, true, true, true, true, true, true, true, true, true, true, true, true, true, true, true, true, false] rfl rfl (any_of HT_.out (by kernel_rfl)) (fun _ _ _ h => h) (Or.inl ⟨by rfl, ?_⟩) ?_ ?_
                    rotate_left
                    · intro w'
                      go_simp
                      with_reducible rfl
                    rotate_left
                    · simp only [Act.put, List.setIfInBounds_toArray, List.set_cons_zero, List.set_cons_succ, i64_w, i32_w]
                      rfl
                    refine pure_ (i := 18) (N := some 45) (v := ?_) (a' := ?_) #[true, true, true, true, true, true, true, true, true, true, true, true, true, true, true, true, true, true, true] rfl rfl (any_of HT_.out (by kernel_rfl)) (fun _ _ _ h => h) (Or.inl ⟨by rfl, ?_⟩) ?_ ?_
                    rotate_left
                    · intro w'
                      go_simp
                      with_reducible rfl
                    rotate_left
                    · simp only [Act.put, List.setIfInBounds_toArray, List.set_cons_zero, List.set_cons_succ, i64_w, i32_w]
                      rfl
                    refine done_ (done_of HT_.out (by kernel_rfl)) ?_
                    try go_wp2
                    go_meet
                    case rel => exact ⟨_, ((t176 != (decide (x175008_1 ≥ x175005_1)))), (by first | rfl | (simp; done) | (simp [*]; done)), H', ⟨by have := HK1.out; first | omega | exact Nat.le_refl _⟩, ⟨by (with_reducible repeat (first | refine blk_drewN ?_ _ | refine blk_drew ?_ | refine blk_alloc ?_ _)); exact BK160.out⟩, ⟨by (with_reducible repeat (first | refine blk_drewN ?_ _ | refine blk_drew ?_ | refine blk_alloc ?_ _)); exact BK173.out⟩, ⟨by (with_reducible repeat (first | refine blk_drewN ?_ _ | refine blk_drew ?_ | refine blk_alloc ?_ _)); exact BK174.out⟩, ⟨by repeat (first | (with_reducible first | exact HB.out | apply below_alloc | apply pw_below_drewN | apply below_drew1 | refine below_set ?_ GE160.out | refine below_set ?_ GE173.out | refine below_set ?_ GE174.out) | exact HB.out)⟩⟩
                  · rw [if_neg c45] at H
                    have c45b0 : (x175007_1 == 0) = false := beq_eq_false_iff_ne.mpr c45
                    have c45b1 : (x175007_1 != 0) = true := bne_iff_ne.mpr c45
                    have H' := Aside0.mk H
                    clear H
                    try go_wp2
                    have n0_ := Aside0.mk (blk_drew BK160.out)
                    have n1_ := Aside0.mk (blk_drew BK173.out)
                    have n2_ := Aside0.mk (blk_drew BK174.out)
                    have n3_ := Aside0.mk (below_drew1 HB.out)
                    clear BK160
                    clear BK173
                    clear BK174
                    clear HB
                    have BK160 := n0_
                    have BK173 := n1_
                    have BK174 := n2_
                    have HB := n3_
                    clear n0_ n1_ n2_ n3_
                    refine start_ (n := 19) (S := fun w' => w'.cell? ⟨gb173, 0, none⟩ = some (.int .i64 x174000_1) ∧ w'.cell? ⟨gb173, 1, none⟩ = some (.int .i64 x174001_1) ∧ w'.cell? ⟨gb173, 2, none⟩ = some (.int .i64 x174002_1) ∧ w'.cell? ⟨gb173, 3, none⟩ = some (.int .i64 x174003_1) ∧ w'.cell? ⟨gb173, 4, none⟩ = some (.int .i64 x174004_1) ∧ w'.cell? ⟨gb173, 5, none⟩ = some (.int .i64 x174005_1) ∧ w'.cell? ⟨gb173, 6, none⟩ = some (.int .i64 x174006_1) ∧ w'.cell? ⟨gb173, 7, none⟩ = some (.int .i64 x174007_1) ∧ w'.cell? ⟨gb173, 8, none⟩ = some (.int .i64 x174008_1) ∧ w'.cell? ⟨gb173, 9, none⟩ = some (.int .i64 x174009_1) ∧ w'.cell? ⟨gb173, 10, none⟩ = some (.int .i64 x174010_1) ∧ w'.cell? ⟨gb174, 0, none⟩ = some (.int .i64 x175000_1) ∧ w'.cell? ⟨gb174, 1, none⟩ = some (.int .i64 x175001_1) ∧ w'.cell? ⟨gb174, 2, none⟩ = some (.int .i64 x175002_1) ∧ w'.cell? ⟨gb174, 3, none⟩ = some (.int .i64 x175003_1) ∧ w'.cell? ⟨gb174, 4, none⟩ = some (.int .i64 x175004_1) ∧ w'.cell? ⟨gb174, 5, none⟩ = some (.int .i64 x175005_1) ∧ w'.cell? ⟨gb174, 6, none⟩ = some (.int .i64 x175006_1) ∧ w'.cell? ⟨gb174, 7, none⟩ = some (.int .i64 x175007_1) ∧ w'.cell? ⟨gb174, 8, none⟩ = some (.int .i64 x175008_1) ∧ w'.cell? ⟨gb174, 9, none⟩ = some (.int .i64 x175009_1) ∧ w'.cell? ⟨gb174, 10, none⟩ = some (.int .i64 x175010_1)) (ds := []) #[false, false, false, false, false, false, false, false, false, false, false, false, false, false, false, false, false, false, false] (by kernel_rfl) rfl rfl ⟨(blk_cell BK173.out 0).trans rfl, (blk_cell BK173.out 1).trans rfl, (blk_cell BK173.out 2).trans rfl, (blk_cell BK173.out 3).trans rfl, (blk_cell BK173.out 4).trans rfl, (blk_cell BK173.out 5).trans rfl, (blk_cell BK173.out 6).trans rfl, (blk_cell BK173.out 7).trans rfl, (blk_cell BK173.out 8).trans rfl, (blk_cell BK173.out 9).trans rfl, (blk_cell BK173.out 10).trans rfl, (blk_cell BK174.out 0).trans rfl, (blk_cell BK174.out 1).trans rfl, (blk_cell BK174.out 2).trans rfl, (blk_cell BK174.out 3).trans rfl, (blk_cell BK174.out 4).trans rfl, (blk_cell BK174.out 5).trans rfl, (blk_cell BK174.out 6).trans rfl, (blk_cell BK174.out 7).trans rfl, (blk_cell BK174.out 8).trans rfl, (blk_cell BK174.out 9).trans rfl, (blk_cell BK174.out 10).trans rfl⟩ (fun hHeld => ?_); refine with_tabW hawalalaw14_SagaLeg.tab8 hawalalaw14_SagaLeg.bits8 (fun HT_ HW_ => ?_)
                    generalize wr.drew = w48 at BK160 BK173 BK174 HB hHeld ⊢
                    refine take_ (i := 0) (N := some 27) (v := ?_) (a' := ?_) #[true, false, false, false, false, false, false, false, false, false, false, false, false, false, false, false, false, false, false] rfl rfl (take_ofW HT_.out HW_.out (by kernel_rfl)) (fun _ _ _ h => h) (Or.inl ⟨by rfl, ?_⟩) hHeld ?_ ?_
                    rotate_left
                    · rintro w' ⟨s0, s1, s2, s3, s4, s5, s6, s7, s8, s9, s10, s11, s12, s13, s14, s15, s16, s17, s18, s19, s20, s21⟩
                      go_simp
                      with_reducible rfl
                    rotate_left
                    · simp only [Act.put, List.setIfInBounds_toArray, List.set_cons_zero, List.set_cons_succ, i64_w, i32_w]
                      rfl
                    refine take_ (i := 1) (N := some 28) (v := ?_) (a' := ?_) #[true, true, false, false, false, false, false, false, false, false, false, false, false, false, false, false, false, false, false] rfl rfl (take_ofW HT_.out HW_.out (by kernel_rfl)) (fun _ _ _ h => h) (Or.inl ⟨by rfl, ?_⟩) hHeld ?_ ?_
                    rotate_left
                    · rintro w' ⟨s0, s1, s2, s3, s4, s5, s6, s7, s8, s9, s10, s11, s12, s13, s14, s15, s16, s17, s18, s19, s20, s21⟩
                      go_simp
                      with_reducible rfl
                    rotate_left
                    · simp only [Act.put, List.setIfInBounds_toArray, List.set_cons_zero, List.set_cons_succ, i64_w, i32_w]
                      rfl
                    refine pure_ (i := 2) (N := some 29) (v := ?_) (a' := ?_) #[true, true, true, false, false, false, false, false, false, false, false, false, false, false, false, false, false, false, false] rfl rfl (any_of HT_.out (by kernel_rfl)) (fun _ _ _ h => h) (Or.inl ⟨by rfl, ?_⟩) ?_ ?_
                    rotate_left
                    · intro w'
                      go_simp
                      with_reducible rfl
                    rotate_left
                    · simp only [Act.put, List.setIfInBounds_toArray, List.set_cons_zero, List.set_cons_succ, i64_w, i32_w]
                      rfl
                    refine pure_ (i := 3) (N := some 30) (v := ?_) (a' := ?_) #[true, true, true, true, false, false, false, false, false, false, false, false, false, false, false, false, false, false, false] rfl rfl (any_of HT_.out (by kernel_rfl)) (fun _ _ _ h => h) (Or.inl ⟨by rfl, ?_⟩) ?_ ?_
                    rotate_left
                    · intro w'
                      go_simp
                      with_reducible rfl
                    rotate_left
                    · simp only [Act.put, List.setIfInBounds_toArray, List.set_cons_zero, List.set_cons_succ, i64_w, i32_w]
                      rfl
                    refine pure_ (i := 6) (N := some 33) (v := ?_) (a' := ?_) #[true, true, true, true, false, false, true, false, false, false, false, false, false, false, false, false, false, false, false] rfl rfl (any_of HT_.out (by kernel_rfl)) (fun _ _ _ h => h) (Or.inl ⟨by rfl, ?_⟩) ?_ ?_
                    rotate_left
                    · intro w'
                      go_simp
                      with_reducible rfl
                    rotate_left
                    · simp only [Act.put, List.setIfInBounds_toArray, List.set_cons_zero, List.set_cons_succ, i64_w, i32_w]
                      rfl
                    refine take_ (i := 4) (N := some 31) (v := ?_) (a' := ?_) #[true, true, true, true, true, false, true, false, false, false, false, false, false, false, false, false, false, false, false] rfl rfl (take_ofW HT_.out HW_.out (by kernel_rfl)) (fun _ _ _ h => h) (Or.inl ⟨by rfl, ?_⟩) hHeld ?_ ?_
                    rotate_left
                    · rintro w' ⟨s0, s1, s2, s3, s4, s5, s6, s7, s8, s9, s10, s11, s12, s13, s14, s15, s16, s17, s18, s19, s20, s21⟩
                      go_simp
                      with_reducible rfl
                    rotate_left
                    · simp only [Act.put, List.setIfInBounds_toArray, List.set_cons_zero, List.set_cons_succ, i64_w, i32_w]
                      rfl
                    refine take_ (i := 7) (N := some 34) (v := ?_) (a' := ?_) #[true, true, true, true, true, false, true, true, false, false, false, false, false, false, false, false, false, false, false] rfl rfl (take_ofW HT_.out HW_.out (by kernel_rfl)) (fun _ _ _ h => h) (Or.inl ⟨by rfl, ?_⟩) hHeld ?_ ?_
                    rotate_left
                    · rintro w' ⟨s0, s1, s2, s3, s4, s5, s6, s7, s8, s9, s10, s11, s12, s13, s14, s15, s16, s17, s18, s19, s20, s21⟩
                      go_simp
                      with_reducible rfl
                    rotate_left
                    · simp only [Act.put, List.setIfInBounds_toArray, List.set_cons_zero, List.set_cons_succ, i64_w, i32_w]
                      rfl
                    refine pure_ (i := 8) (N := some 35) (v := ?_) (a' := ?_) #[true, true, true, true, true, false, true, true, true, false, false, false, false, false, false, false, false, false, false] rfl rfl (any_of HT_.out (by kernel_rfl)) (fun _ _ _ h => h) (Or.inl ⟨by rfl, ?_⟩) ?_ ?_
                    rotate_left
                    · intro w'
                      go_simp
                      with_reducible rfl
                    rotate_left
                    · simp only [Act.put, List.setIfInBounds_toArray, List.set_cons_zero, List.set_cons_succ, i64_w, i32_w]
                      rfl
                    refine one_ (i := 5) (N := some 32) #[true, true, true, true, true, true, true, true, true, false, false, false, false, false, false, false, false, false, false] rfl rfl (one_of HT_.out (by kernel_rfl)) (by decide) (fun K hK => ?_)
                    refine goes_ Try.func9 (by kernel_rfl) rfl #[.agg #[.int .i64 x174000_1, .int .i64 x174001_1, .int .i64 x174002_1, .int .i64 x174003_1, .int .i64 x174004_1, .int .i64 x174005_1, .int .i64 x174006_1, .int .i64 x174007_1, .int .i64 x174008_1, .int .i64 x174009_1, .int .i64 x174010_1]] (by rfl) rfl rfl (by (try simp only [List.map_toArray, List.map_cons, List.map_nil]); first | done | rfl | (simp only [List.length_drop, List.length_take]; rfl)) ?_
                    with_reducible refine (saga_Ready.calls x174000_1 x174001_1 x174002_1 x174003_1 x174004_1 x174005_1 x174006_1 x174007_1 x174008_1 x174009_1 x174010_1 t176 _ A44.out).mono ?_
                    rintro e w49 ⟨rfl, hb⟩
                    refine ⟨_, rfl, ?_⟩
                    have n0_ := Aside0.mk (blk_below (g := gb160) (o := .cells #[.int .i64 a2_0, .int .i64 a2_1, .int .i64 a2_2, .int .i64 a2_3, .int .i64 a2_4, .int .i64 (wrap64 (Int.tmod a0 5)), .int .i64 a2_6] 25 (0, 0)) (by (with_reducible repeat (first | refine blk_drewN ?_ _ | refine blk_drew ?_ | refine blk_alloc ?_ _)); exact BK160.out) hb)
                    have n1_ := Aside0.mk (blk_below (g := gb173) (o := .cells #[.int .i64 x174000_1, .int .i64 x174001_1, .int .i64 x174002_1, .int .i64 x174003_1, .int .i64 x174004_1, .int .i64 x174005_1, .int .i64 x174006_1, .int .i64 x174007_1, .int .i64 x174008_1, .int .i64 x174009_1, .int .i64 x174010_1] 30 (0, 0)) (by (with_reducible repeat (first | refine blk_drewN ?_ _ | refine blk_drew ?_ | refine blk_alloc ?_ _)); exact BK173.out) hb)
                    have n2_ := Aside0.mk (blk_below (g := gb174) (o := .cells #[.int .i64 x175000_1, .int .i64 x175001_1, .int .i64 x175002_1, .int .i64 x175003_1, .int .i64 x175004_1, .int .i64 x175005_1, .int .i64 x175006_1, .int .i64 x175007_1, .int .i64 x175008_1, .int .i64 x175009_1, .int .i64 x175010_1] 30 (0, 0)) (by (with_reducible repeat (first | refine blk_drewN ?_ _ | refine blk_drew ?_ | refine blk_alloc ?_ _)); exact BK174.out) hb)
                    have n3_ := Aside0.mk (below_step (by repeat (first | (with_reducible first | exact HB.out | apply below_alloc | apply pw_below_drewN | apply below_drew1 | refine below_set ?_ GE160.out | refine below_set ?_ GE173.out | refine below_set ?_ GE174.out) | exact HB.out)) hb)
                    clear BK160
                    clear BK173
                    clear BK174
                    clear HB
                    have BK160 := n0_
                    have BK173 := n1_
                    have BK174 := n2_
                    have HB := n3_
                    clear n0_ n1_ n2_ n3_
                    (try clear hb)
                    (try clear hb2)
                    (try clear hk)
                    (try clear hi)
                    refine hK.out _ _ ⟨(blk_cell BK173.out 0).trans rfl, (blk_cell BK173.out 1).trans rfl, (blk_cell BK173.out 2).trans rfl, (blk_cell BK173.out 3).trans rfl, (blk_cell BK173.out 4).trans rfl, (blk_cell BK173.out 5).trans rfl, (blk_cell BK173.out 6).trans rfl, (blk_cell BK173.out 7).trans rfl, (blk_cell BK173.out 8).trans rfl, (blk_cell BK173.out 9).trans rfl, (blk_cell BK173.out 10).trans rfl, (blk_cell BK174.out 0).trans rfl, (blk_cell BK174.out 1).trans rfl, (blk_cell BK174.out 2).trans rfl, (blk_cell BK174.out 3).trans rfl, (blk_cell BK174.out 4).trans rfl, (blk_cell BK174.out 5).trans rfl, (blk_cell BK174.out 6).trans rfl, (blk_cell BK174.out 7).trans rfl, (blk_cell BK174.out 8).trans rfl, (blk_cell BK174.out 9).trans rfl, (blk_cell BK174.out 10).trans rfl⟩ (fun hHeld => ?_)
                    clear hK K
                    refine norm_ (a' := ?_) ?_ ?_
                    rotate_left
                    · show Act.put _ (some 32) _ = _
                      simp only [Act.put, List.setIfInBounds_toArray, List.set_cons_zero, List.set_cons_succ, i64_w, i32_w]
                      rfl
                    refine pure_ (i := 9) (N := some 36) (v := ?_) (a' := ?_) #[true, true, true, true, true, true, true, true, true, true, false, false, false, false, false, false, false, false, false] rfl rfl (any_of HT_.out (by kernel_rfl)) (fun _ _ _ h => h) (Or.inl ⟨by rfl, ?_⟩) ?_ ?_
                    rotate_left
                    · intro w'
                      go_simp
                      with_reducible rfl
                    rotate_left
                    · simp only [Act.put, List.setIfInBounds_toArray, List.set_cons_zero, List.set_cons_succ, i64_w, i32_w]
                      rfl
                    refine pure_ (i := 10) (N := some 37) (v := undef) (a' := ?_) #[true, true, true, true, true, true, true, true, true, true, true, false, false, false, false, false, false, false, false] rfl rfl (any_of HT_.out (by kernel_rfl)) (fun _ _ _ h => h) (Or.inr ⟨by rfl, rfl⟩) ?_ ?_
                    rotate_left
                    · simp only [Act.put, List.setIfInBounds_toArray, List.set_cons_zero, List.set_cons_succ, i64_w, i32_w]
                      rfl
                    refine pure_ (i := 11) (N := some 38) (v := undef) (a' := ?_) #[true, true, true, true, true, true, true, true, true, true, true, true, false, false, false, false, false, false, false] rfl rfl (any_of HT_.out (by kernel_rfl)) (fun _ _ _ h => h) (Or.inr ⟨by rfl, rfl⟩) ?_ ?_
                    rotate_left
                    · simp only [Act.put, List.setIfInBounds_toArray, List.set_cons_zero, List.set_cons_succ, i64_w, i32_w]
                      rfl
                    refine pure_ (i := 12) (N := some 39) (v := undef) (a' := ?_) #[true, true, true, true, true, true, true, true, true, true, true, true, true, false, false, false, false, false, false] rfl rfl (any_of HT_.out (by kernel_rfl)) (fun _ _ _ h => h) (Or.inr ⟨by rfl, rfl⟩) ?_ ?_
                    rotate_left
                    · simp only [Act.put, List.setIfInBounds_toArray, List.set_cons_zero, List.set_cons_succ, i64_w, i32_w]
                      rfl
                    refine pure_ (i := 13) (N := some 40) (v := undef) (a' := ?_) #[true, true, true, true, true, true, true, true, true, true, true, true, true, true, false, false, false, false, false] rfl rfl (any_of HT_.out (by kernel_rfl)) (fun _ _ _ h => h) (Or.inr ⟨by rfl, rfl⟩) ?_ ?_
                    rotate_left
                    · simp only [Act.put, List.setIfInBounds_toArray, List.set_cons_zero, List.set_cons_succ, i64_w, i32_w]
                      rfl
                    refine pure_ (i := 14) (N := some 41) (v := undef) (a' := ?_) #[true, true, true, true, true, true, true, true, true, true, true, true, true, true, true, false, false, false, false] rfl rfl (any_of HT_.out (by kernel_rfl)) (fun _ _ _ h => h) (Or.inr ⟨by rfl, rfl⟩) ?_ ?_
                    rotate_left
                    · simp only [Act.put, List.setIfInBounds_toArray, List.set_cons_zero, List.set_cons_succ, i64_w, i32_w]
                      rfl
                    refine pure_ (i := 15) (N := some 42) (v := undef) (a' := ?_) #[true, true, true, true, true, true, true, true, true, true, true, true, true, true, true, true, false, false, false] rfl rfl (any_of HT_.out (by kernel_rfl)) (fun _ _ _ h => h) (Or.inr ⟨by rfl, rfl⟩) ?_ ?_
                    rotate_left
                    · simp only [Act.put, List.setIfInBounds_toArray, List.set_cons_zero, List.set_cons_succ, i64_w, i32_w]
                      rfl
                    refine pure_ (i := 16) (N := some 43) (v := ?_) (a' := ?_) #[true, true, true, true, true, true, true, true, true, true, true, true, true, true, true, true, true, false, false] rfl rfl (any_of HT_.out (by kernel_rfl)) (fun _ _ _ h => h) (Or.inl ⟨by rfl, ?_⟩) ?_ ?_
                    rotate_left
                    · intro w'
                      go_simp
                      with_reducible rfl
                    rotate_left
                    · simp only [Act.put, List.setIfInBounds_toArray, List.set_cons_zero, List.set_cons_succ, i64_w, i32_w]
                      rfl
                    refine pure_ (i := 17) (N := some 44) (v := ?_) (a' := ?_) #[true, true, true, true, true, true, true, true, true, true, true, true, true, true, true, true, true, true, false] rfl rfl (any_of HT_.out (by kernel_rfl)) (fun _ _ _ h => h) (Or.inl ⟨by rfl, ?_⟩) ?_ ?_
                    rotate_left
                    · intro w'
                      go_simp
                      with_reducible rfl
                    rotate_left
                    · simp only [Act.put, List.setIfInBounds_toArray, List.set_cons_zero, List.set_cons_succ, i64_w, i32_w]
                      rfl
                    refine pure_ (i := 18) (N := some 45) (v := ?_) (a' := ?_) #[true, true, true, true, true, true, true, true, true, true, true, true, true, true, true, true, true, true, true] rfl rfl (any_of HT_.out (by kernel_rfl)) (fun _ _ _ h => h) (Or.inl ⟨by rfl, ?_⟩) ?_ ?_
                    rotate_left
                    · intro w'
                      go_simp
                      with_reducible rfl
                    rotate_left
                    · simp only [Act.put, List.setIfInBounds_toArray, List.set_cons_zero, List.set_cons_succ, i64_w, i32_w]
                      rfl
                    refine done_ (done_of HT_.out (by kernel_rfl)) ?_
                    try go_wp2
                    go_meet
                    case rel => exact ⟨_, ((t176 != false)), (by first | rfl | (simp; done) | (simp [*]; done)), H', ⟨by have := HK1.out; first | omega | exact Nat.le_refl _⟩, ⟨by (with_reducible repeat (first | refine blk_drewN ?_ _ | refine blk_drew ?_ | refine blk_alloc ?_ _)); exact BK160.out⟩, ⟨by (with_reducible repeat (first | refine blk_drewN ?_ _ | refine blk_drew ?_ | refine blk_alloc ?_ _)); exact BK173.out⟩, ⟨by (with_reducible repeat (first | refine blk_drewN ?_ _ | refine blk_drew ?_ | refine blk_alloc ?_ _)); exact BK174.out⟩, ⟨by repeat (first | (with_reducible first | exact HB.out | apply below_alloc | apply pw_below_drewN | apply below_drew1 | refine below_set ?_ GE160.out | refine below_set ?_ GE173.out | refine below_set ?_ GE174.out) | exact HB.out)⟩⟩
              case rest =>
                clear HC41
                try clear p1
                try clear q1
                try clear hx1
                try clear p2
                try clear c3
                try clear c4
                try clear p6
                try clear c8
                try clear c9
                try clear p17
                try clear q17
                try clear hx17
                try clear c38
                try clear c38b0
                try clear c39
                try clear c39b0
                try clear c40
                try clear c40b0
                try clear c42
                try clear c42b0
                try clear c45
                try clear c45b0
                try clear c45b1
                try clear hx175_0
                try clear p175
                try clear p2
                try clear p6
                try clear q175
                obtain ⟨kq, x45_40, rfl, HA, HJ40, BK160, BK173, BK174, HB⟩ := hcut
                cases kq with
                | zero => exact absurd HA.out (by simp [hawalalaw14_SagaLeg.j1])
                | succ kj40 =>
                  have H := HA.out
                  clear HA
                  simp only [hawalalaw14_SagaLeg.j1] at H
                  by_cases c50 : x45_40 = true
                  · subst c50
                    have H1 : (some false) = some r := by rw [if_pos rfl] at H; exact H
                    clear H
                    have H := H1
                    clear H1
                    obtain rfl := Option.some.inj H
                    go_wp2
                    go_ret
                    exact ⟨by first | rfl | (simp [errW_none, errW_some] <;> rfl) | (simp [*, errW_none, errW_some] <;> rfl), by repeat (first | (with_reducible first | exact HB.out | apply below_alloc | apply pw_below_drewN | apply below_drew1 | refine below_set ?_ GE160.out | refine below_set ?_ GE173.out | refine below_set ?_ GE174.out) | exact HB.out)⟩
                  · replace c50 := Bool.eq_false_iff.mpr c50
                    subst c50
                    have H1 : ((saga_Leg.f kj40 x174000_1 x174001_1 x174002_1 x174003_1 x174004_1 x174005_1 x174006_1 x174007_1 x174008_1 x174009_1 x174010_1 (rdOf false l1 x23_1)).bind fun bt177 => ((hawalalaw14_leg.f kj40 x175000_1 x175001_1 x175002_1 x175003_1 x175004_1 x175005_1 x175006_1 x175007_1 x175008_1 x175009_1 x175010_1 (rdOf false l1 x23_1)).bind fun bt188 => (hawalalaw14_SagaLeg.l0 kj40 l1 (l1.length : Int) (wrap64 (x23_1 + 1)) bt177.1 bt177.2.1 bt177.2.2.1 bt177.2.2.2.1 bt177.2.2.2.2.1 bt177.2.2.2.2.2.1 bt177.2.2.2.2.2.2.1 bt177.2.2.2.2.2.2.2.1 bt177.2.2.2.2.2.2.2.2.1 bt177.2.2.2.2.2.2.2.2.2.1 bt177.2.2.2.2.2.2.2.2.2.2 bt188.1 bt188.2.1 bt188.2.2.1 bt188.2.2.2.1 bt188.2.2.2.2.1 bt188.2.2.2.2.2.1 bt188.2.2.2.2.2.2.1 bt188.2.2.2.2.2.2.2.1 bt188.2.2.2.2.2.2.2.2.1 bt188.2.2.2.2.2.2.2.2.2.1 bt188.2.2.2.2.2.2.2.2.2.2))) = some r := by rw [if_neg (show ¬ (false = true) by decide)] at H; exact H
                    clear H
                    have H := H1
                    clear H1
                    replace H := Option.bind_eq_some_iff.mp H
                    obtain ⟨⟨t177, t178, t179, t180, t181, t182, t183, t184, t185, t186, t187⟩, A510, H⟩ := H
                    replace H : ((hawalalaw14_leg.f kj40 x175000_1 x175001_1 x175002_1 x175003_1 x175004_1 x175005_1 x175006_1 x175007_1 x175008_1 x175009_1 x175010_1 (rdOf false l1 x23_1)).bind fun bt188 => (hawalalaw14_SagaLeg.l0 kj40 l1 (l1.length : Int) (wrap64 (x23_1 + 1)) t177 t178 t179 t180 t181 t182 t183 t184 t185 t186 t187 bt188.1 bt188.2.1 bt188.2.2.1 bt188.2.2.2.1 bt188.2.2.2.2.1 bt188.2.2.2.2.2.1 bt188.2.2.2.2.2.2.1 bt188.2.2.2.2.2.2.2.1 bt188.2.2.2.2.2.2.2.2.1 bt188.2.2.2.2.2.2.2.2.2.1 bt188.2.2.2.2.2.2.2.2.2.2)) = some r := H
                    have A51 := Aside0.mk A510
                    clear A510
                    replace H := Option.bind_eq_some_iff.mp H
                    obtain ⟨⟨t188, t189, t190, t191, t192, t193, t194, t195, t196, t197, t198⟩, A520, H⟩ := H
                    replace H : (hawalalaw14_SagaLeg.l0 kj40 l1 (l1.length : Int) (wrap64 (x23_1 + 1)) t177 t178 t179 t180 t181 t182 t183 t184 t185 t186 t187 t188 t189 t190 t191 t192 t193 t194 t195 t196 t197 t198) = some r := H
                    have A52 := Aside0.mk A520
                    clear A520
                    have H' := Aside0.mk H
                    clear H
                    try go_wp2
                    have n0_ := Aside0.mk (blk_drew BK160.out)
                    have n1_ := Aside0.mk (blk_drew BK173.out)
                    have n2_ := Aside0.mk (blk_drew BK174.out)
                    have n3_ := Aside0.mk (below_drew1 HB.out)
                    clear BK160
                    clear BK173
                    clear BK174
                    clear HB
                    have BK160 := n0_
                    have BK173 := n1_
                    have BK174 := n2_
                    have HB := n3_
                    clear n0_ n1_ n2_ n3_
                    refine start_ (n := 8) (S := fun w' => w'.cell? ⟨gb173, 0, none⟩ = some (.int .i64 x174000_1) ∧ w'.cell? ⟨gb173, 1, none⟩ = some (.int .i64 x174001_1) ∧ w'.cell? ⟨gb173, 2, none⟩ = some (.int .i64 x174002_1) ∧ w'.cell? ⟨gb173, 3, none⟩ = some (.int .i64 x174003_1) ∧ w'.cell? ⟨gb173, 4, none⟩ = some (.int .i64 x174004_1) ∧ w'.cell? ⟨gb173, 5, none⟩ = some (.int .i64 x174005_1) ∧ w'.cell? ⟨gb173, 6, none⟩ = some (.int .i64 x174006_1) ∧ w'.cell? ⟨gb173, 7, none⟩ = some (.int .i64 x174007_1) ∧ w'.cell? ⟨gb173, 8, none⟩ = some (.int .i64 x174008_1) ∧ w'.cell? ⟨gb173, 9, none⟩ = some (.int .i64 x174009_1) ∧ w'.cell? ⟨gb173, 10, none⟩ = some (.int .i64 x174010_1) ∧ w'.cell? ⟨gb174, 0, none⟩ = some (.int .i64 x175000_1) ∧ w'.cell? ⟨gb174, 1, none⟩ = some (.int .i64 x175001_1) ∧ w'.cell? ⟨gb174, 2, none⟩ = some (.int .i64 x175002_1) ∧ w'.cell? ⟨gb174, 3, none⟩ = some (.int .i64 x175003_1) ∧ w'.cell? ⟨gb174, 4, none⟩ = some (.int .i64 x175004_1) ∧ w'.cell? ⟨gb174, 5, none⟩ = some (.int .i64 x175005_1) ∧ w'.cell? ⟨gb174, 6, none⟩ = some (.int .i64 x175006_1) ∧ w'.cell? ⟨gb174, 7, none⟩ = some (.int .i64 x175007_1) ∧ w'.cell? ⟨gb174, 8, none⟩ = some (.int .i64 x175008_1) ∧ w'.cell? ⟨gb174, 9, none⟩ = some (.int .i64 x175009_1) ∧ w'.cell? ⟨gb174, 10, none⟩ = some (.int .i64 x175010_1)) (ds := [6, 7]) #[false, false, false, false, false, false, false, false] (by kernel_rfl) rfl rfl ⟨(blk_cell BK173.out 0).trans rfl, (blk_cell BK173.out 1).trans rfl, (blk_cell BK173.out 2).trans rfl, (blk_cell BK173.out 3).trans rfl, (blk_cell BK173.out 4).trans rfl, (blk_cell BK173.out 5).trans rfl, (blk_cell BK173.out 6).trans rfl, (blk_cell BK173.out 7).trans rfl, (blk_cell BK173.out 8).trans rfl, (blk_cell BK173.out 9).trans rfl, (blk_cell BK173.out 10).trans rfl, (blk_cell BK174.out 0).trans rfl, (blk_cell BK174.out 1).trans rfl, (blk_cell BK174.out 2).trans rfl, (blk_cell BK174.out 3).trans rfl, (blk_cell BK174.out 4).trans rfl, (blk_cell BK174.out 5).trans rfl, (blk_cell BK174.out 6).trans rfl, (blk_cell BK174.out 7).trans rfl, (blk_cell BK174.out 8).trans rfl, (blk_cell BK174.out 9).trans rfl, (blk_cell BK174.out 10).trans rfl⟩ (fun hHeld => ?_); refine with_tabW hawalalaw14_SagaLeg.tab10 hawalalaw14_SagaLeg.bits10 (fun HT_ HW_ => ?_)
                    generalize wc.drew = w53 at BK160 BK173 BK174 HB hHeld ⊢
                    refine pure_ (i := 1) (N := some 47) (v := ?_) (a' := ?_) #[false, true, false, false, false, false, false, false] rfl rfl (any_of HT_.out (by kernel_rfl)) (fun _ _ _ h => h) (Or.inl ⟨by rfl, ?_⟩) ?_ ?_
                    rotate_left
                    · intro w'
                      go_simp
                      with_reducible rfl
                    rotate_left
                    · simp only [Act.put, List.setIfInBounds_toArray, List.set_cons_zero, List.set_cons_succ, i64_w, i32_w]
                      rfl
                    refine pure_ (i := 4) (N := some 50) (v := ?_) (a' := ?_) #[false, true, false, false, true, false, false, false] rfl rfl (any_of HT_.out (by kernel_rfl)) (fun _ _ _ h => h) (Or.inl ⟨by rfl, ?_⟩) ?_ ?_
                    rotate_left
                    · intro w'
                      go_simp
                      with_reducible rfl
                    rotate_left
                    · simp only [Act.put, List.setIfInBounds_toArray, List.set_cons_zero, List.set_cons_succ, i64_w, i32_w]
                      rfl
                    refine take_ (i := 0) (N := some 46) (v := ?_) (a' := ?_) #[true, true, false, false, true, false, false, false] rfl rfl (take_ofW HT_.out HW_.out (by kernel_rfl)) (fun _ _ _ h => h) (Or.inl ⟨by rfl, ?_⟩) hHeld ?_ ?_
                    rotate_left
                    · rintro w' ⟨s0, s1, s2, s3, s4, s5, s6, s7, s8, s9, s10, s11, s12, s13, s14, s15, s16, s17, s18, s19, s20, s21⟩
                      go_simp
                      with_reducible rfl
                    rotate_left
                    · simp only [Act.put, List.setIfInBounds_toArray, List.set_cons_zero, List.set_cons_succ, i64_w, i32_w]
                      rfl
                    refine take_ (i := 3) (N := some 49) (v := ?_) (a' := ?_) #[true, true, false, true, true, false, false, false] rfl rfl (take_ofW HT_.out HW_.out (by kernel_rfl)) (fun _ _ _ h => h) (Or.inl ⟨by rfl, ?_⟩) hHeld ?_ ?_
                    rotate_left
                    · rintro w' ⟨s0, s1, s2, s3, s4, s5, s6, s7, s8, s9, s10, s11, s12, s13, s14, s15, s16, s17, s18, s19, s20, s21⟩
                      go_simp
                      with_reducible rfl
                    rotate_left
                    · simp only [Act.put, List.setIfInBounds_toArray, List.set_cons_zero, List.set_cons_succ, i64_w, i32_w]
                      rfl
                    refine one_ (i := 2) (N := some 48) #[true, true, true, true, true, false, false, false] rfl rfl (one_of HT_.out (by kernel_rfl)) (by decide) (fun K hK => ?_)
                    refine goes_ Try.func10 (by kernel_rfl) rfl #[.agg #[.int .i64 x174000_1, .int .i64 x174001_1, .int .i64 x174002_1, .int .i64 x174003_1, .int .i64 x174004_1, .int .i64 x174005_1, .int .i64 x174006_1, .int .i64 x174007_1, .int .i64 x174008_1, .int .i64 x174009_1, .int .i64 x174010_1], .bool (rdOf false l1 x23_1)] (by rfl) rfl rfl (by (try simp only [List.map_toArray, List.map_cons, List.map_nil]); first | done | rfl | (simp only [List.length_drop, List.length_take]; rfl)) ?_
                    with_reducible refine (saga_Leg.calls kj40 x174000_1 x174001_1 x174002_1 x174003_1 x174004_1 x174005_1 x174006_1 x174007_1 x174008_1 x174009_1 x174010_1 (rdOf false l1 x23_1) t177 t178 t179 t180 t181 t182 t183 t184 t185 t186 t187 _ A51.out).mono ?_
                    rintro e w54 ⟨rfl, hb⟩
                    refine ⟨_, rfl, ?_⟩
                    have n0_ := Aside0.mk (blk_below (g := gb160) (o := .cells #[.int .i64 a2_0, .int .i64 a2_1, .int .i64 a2_2, .int .i64 a2_3, .int .i64 a2_4, .int .i64 (wrap64 (Int.tmod a0 5)), .int .i64 a2_6] 25 (0, 0)) (by (with_reducible repeat (first | refine blk_drewN ?_ _ | refine blk_drew ?_ | refine blk_alloc ?_ _)); exact BK160.out) hb)
                    have n1_ := Aside0.mk (blk_below (g := gb173) (o := .cells #[.int .i64 x174000_1, .int .i64 x174001_1, .int .i64 x174002_1, .int .i64 x174003_1, .int .i64 x174004_1, .int .i64 x174005_1, .int .i64 x174006_1, .int .i64 x174007_1, .int .i64 x174008_1, .int .i64 x174009_1, .int .i64 x174010_1] 30 (0, 0)) (by (with_reducible repeat (first | refine blk_drewN ?_ _ | refine blk_drew ?_ | refine blk_alloc ?_ _)); exact BK173.out) hb)
                    have n2_ := Aside0.mk (blk_below (g := gb174) (o := .cells #[.int .i64 x175000_1, .int .i64 x175001_1, .int .i64 x175002_1, .int .i64 x175003_1, .int .i64 x175004_1, .int .i64 x175005_1, .int .i64 x175006_1, .int .i64 x175007_1, .int .i64 x175008_1, .int .i64 x175009_1, .int .i64 x175010_1] 30 (0, 0)) (by (with_reducible repeat (first | refine blk_drewN ?_ _ | refine blk_drew ?_ | refine blk_alloc ?_ _)); exact BK174.out) hb)
                    have n3_ := Aside0.mk (below_step (by repeat (first | (with_reducible first | exact HB.out | apply below_alloc | apply pw_below_drewN | apply below_drew1 | refine below_set ?_ GE160.out | refine below_set ?_ GE173.out | refine below_set ?_ GE174.out) | exact HB.out)) hb)
                    clear BK160
                    clear BK173
                    clear BK174
                    clear HB
                    have BK160 := n0_
                    have BK173 := n1_
                    have BK174 := n2_
                    have HB := n3_
                    clear n0_ n1_ n2_ n3_
                    (try clear hb)
                    (try clear hb2)
                    (try clear hk)
                    (try clear hi)
                    refine hK.out _ _ ⟨(blk_cell BK173.out 0).trans rfl, (blk_cell BK173.out 1).trans rfl, (blk_cell BK173.out 2).trans rfl, (blk_cell BK173.out 3).trans rfl, (blk_cell BK173.out 4).trans rfl, (blk_cell BK173.out 5).trans rfl, (blk_cell BK173.out 6).trans rfl, (blk_cell BK173.out 7).trans rfl, (blk_cell BK173.out 8).trans rfl, (blk_cell BK173.out 9).trans rfl, (blk_cell BK173.out 10).trans rfl, (blk_cell BK174.out 0).trans rfl, (blk_cell BK174.out 1).trans rfl, (blk_cell BK174.out 2).trans rfl, (blk_cell BK174.out 3).trans rfl, (blk_cell BK174.out 4).trans rfl, (blk_cell BK174.out 5).trans rfl, (blk_cell BK174.out 6).trans rfl, (blk_cell BK174.out 7).trans rfl, (blk_cell BK174.out 8).trans rfl, (blk_cell BK174.out 9).trans rfl, (blk_cell BK174.out 10).trans rfl⟩ (fun hHeld => ?_)
                    clear hK K
                    refine norm_ (a' := ?_) ?_ ?_
                    rotate_left
                    · show Act.put _ (some 48) _ = _
                      simp only [Act.put, List.setIfInBounds_toArray, List.set_cons_zero, List.set_cons_succ, i64_w, i32_w]
                      rfl
                    refine one_ (i := 5) (N := some 51) #[true, true, true, true, true, true, false, false] rfl rfl (one_of HT_.out (by kernel_rfl)) (by decide) (fun K hK => ?_)
                    refine goes_ Try.func11 (by kernel_rfl) rfl #[.agg #[.int .i64 x175000_1, .int .i64 x175001_1, .int .i64 x175002_1, .int .i64 x175003_1, .int .i64 x175004_1, .int .i64 x175005_1, .int .i64 x175006_1, .int .i64 x175007_1, .int .i64 x175008_1, .int .i64 x175009_1, .int .i64 x175010_1], .bool (rdOf false l1 x23_1)] (by rfl) rfl rfl (by (try simp only [List.map_toArray, List.map_cons, List.map_nil]); first | done | rfl | (simp only [List.length_drop, List.length_take]; rfl)) ?_
                    with_reducible refine (hawalalaw14_leg.calls kj40 x175000_1 x175001_1 x175002_1 x175003_1 x175004_1 x175005_1 x175006_1 x175007_1 x175008_1 x175009_1 x175010_1 (rdOf false l1 x23_1) t188 t189 t190 t191 t192 t193 t194 t195 t196 t197 t198 _ A52.out).mono ?_
                    rintro e w55 ⟨rfl, hb⟩
                    refine ⟨_, rfl, ?_⟩
                    have n0_ := Aside0.mk (blk_below (g := gb160) (o := .cells #[.int .i64 a2_0, .int .i64 a2_1, .int .i64 a2_2, .int .i64 a2_3, .int .i64 a2_4, .int .i64 (wrap64 (Int.tmod a0 5)), .int .i64 a2_6] 25 (0, 0)) (by (with_reducible repeat (first | refine blk_drewN ?_ _ | refine blk_drew ?_ | refine blk_alloc ?_ _)); exact BK160.out) hb)
                    have n1_ := Aside0.mk (blk_below (g := gb173) (o := .cells #[.int .i64 x174000_1, .int .i64 x174001_1, .int .i64 x174002_1, .int .i64 x174003_1, .int .i64 x174004_1, .int .i64 x174005_1, .int .i64 x174006_1, .int .i64 x174007_1, .int .i64 x174008_1, .int .i64 x174009_1, .int .i64 x174010_1] 30 (0, 0)) (by (with_reducible repeat (first | refine blk_drewN ?_ _ | refine blk_drew ?_ | refine blk_alloc ?_ _)); exact BK173.out) hb)
                    have n2_ := Aside0.mk (blk_below (g := gb174) (o := .cells #[.int .i64 x175000_1, .int .i64 x175001_1, .int .i64 x175002_1, .int .i64 x175003_1, .int .i64 x175004_1, .int .i64 x175005_1, .int .i64 x175006_1, .int .i64 x175007_1, .int .i64 x175008_1, .int .i64 x175009_1, .int .i64 x175010_1] 30 (0, 0)) (by (with_reducible repeat (first | refine blk_drewN ?_ _ | refine blk_drew ?_ | refine blk_alloc ?_ _)); exact BK174.out) hb)
                    have n3_ := Aside0.mk (below_step (by repeat (first | (with_reducible first | exact HB.out | apply below_alloc | apply pw_below_drewN | apply below_drew1 | refine below_set ?_ GE160.out | refine below_set ?_ GE173.out | refine below_set ?_ GE174.out) | exact HB.out)) hb)
                    clear BK160
                    clear BK173
                    clear BK174
                    clear HB
                    have BK160 := n0_
                    have BK173 := n1_
                    have BK174 := n2_
                    have HB := n3_
                    clear n0_ n1_ n2_ n3_
                    (try clear hb)
                    (try clear hb2)
                    (try clear hk)
                    (try clear hi)
                    refine hK.out _ _ ⟨(blk_cell BK173.out 0).trans rfl, (blk_cell BK173.out 1).trans rfl, (blk_cell BK173.out 2).trans rfl, (blk_cell BK173.out 3).trans rfl, (blk_cell BK173.out 4).trans rfl, (blk_cell BK173.out 5).trans rfl, (blk_cell BK173.out 6).trans rfl, (blk_cell BK173.out 7).trans rfl, (blk_cell BK173.out 8).trans rfl, (blk_cell BK173.out 9).trans rfl, (blk_cell BK173.out 10).trans rfl, (blk_cell BK174.out 0).trans rfl, (blk_cell BK174.out 1).trans rfl, (blk_cell BK174.out 2).trans rfl, (blk_cell BK174.out 3).trans rfl, (blk_cell BK174.out 4).trans rfl, (blk_cell BK174.out 5).trans rfl, (blk_cell BK174.out 6).trans rfl, (blk_cell BK174.out 7).trans rfl, (blk_cell BK174.out 8).trans rfl, (blk_cell BK174.out 9).trans rfl, (blk_cell BK174.out 10).trans rfl⟩ (fun hHeld => ?_)
                    clear hK K
                    refine norm_ (a' := ?_) ?_ ?_
                    rotate_left
                    · show Act.put _ (some 51) _ = _
                      simp only [Act.put, List.setIfInBounds_toArray, List.set_cons_zero, List.set_cons_succ, i64_w, i32_w]
                      rfl
                    refine last_ (i := 6) (N := none) #[true, true, true, true, true, true, true, false] rfl rfl (one_of HT_.out (by kernel_rfl)) (by decide) (fun K hK => ?_)
                    have hs56 : w55.cell? ⟨gb173, 0, none⟩ = some (.int .i64 x174000_1) := (blk_cell BK173.out 0).trans rfl
                    have hfs56 := blk_frozen BK173.out 0
                    have hns56_0 := NB160_173.out
                    have hns56_2 := NB174_173.out
                    have hms56_0 := NB173_160.out
                    have hms56_2 := NB173_174.out
                    have hs57 : w55.cell? ⟨gb173, 1, none⟩ = some (.int .i64 x174001_1) := (blk_cell BK173.out 1).trans rfl
                    have hfs57 := blk_frozen BK173.out 1
                    have hns57_0 := NB160_173.out
                    have hns57_2 := NB174_173.out
                    have hms57_0 := NB173_160.out
                    have hms57_2 := NB173_174.out
                    have hs58 : w55.cell? ⟨gb173, 2, none⟩ = some (.int .i64 x174002_1) := (blk_cell BK173.out 2).trans rfl
                    have hfs58 := blk_frozen BK173.out 2
                    have hns58_0 := NB160_173.out
                    have hns58_2 := NB174_173.out
                    have hms58_0 := NB173_160.out
                    have hms58_2 := NB173_174.out
                    have hs59 : w55.cell? ⟨gb173, 3, none⟩ = some (.int .i64 x174003_1) := (blk_cell BK173.out 3).trans rfl
                    have hfs59 := blk_frozen BK173.out 3
                    have hns59_0 := NB160_173.out
                    have hns59_2 := NB174_173.out
                    have hms59_0 := NB173_160.out
                    have hms59_2 := NB173_174.out
                    have hs60 : w55.cell? ⟨gb173, 4, none⟩ = some (.int .i64 x174004_1) := (blk_cell BK173.out 4).trans rfl
                    have hfs60 := blk_frozen BK173.out 4
                    have hns60_0 := NB160_173.out
                    have hns60_2 := NB174_173.out
                    have hms60_0 := NB173_160.out
                    have hms60_2 := NB173_174.out
                    have hs61 : w55.cell? ⟨gb173, 5, none⟩ = some (.int .i64 x174005_1) := (blk_cell BK173.out 5).trans rfl
                    have hfs61 := blk_frozen BK173.out 5
                    have hns61_0 := NB160_173.out
                    have hns61_2 := NB174_173.out
                    have hms61_0 := NB173_160.out
                    have hms61_2 := NB173_174.out
                    have hs62 : w55.cell? ⟨gb173, 6, none⟩ = some (.int .i64 x174006_1) := (blk_cell BK173.out 6).trans rfl
                    have hfs62 := blk_frozen BK173.out 6
                    have hns62_0 := NB160_173.out
                    have hns62_2 := NB174_173.out
                    have hms62_0 := NB173_160.out
                    have hms62_2 := NB173_174.out
                    have hs63 : w55.cell? ⟨gb173, 7, none⟩ = some (.int .i64 x174007_1) := (blk_cell BK173.out 7).trans rfl
                    have hfs63 := blk_frozen BK173.out 7
                    have hns63_0 := NB160_173.out
                    have hns63_2 := NB174_173.out
                    have hms63_0 := NB173_160.out
                    have hms63_2 := NB173_174.out
                    have hs64 : w55.cell? ⟨gb173, 8, none⟩ = some (.int .i64 x174008_1) := (blk_cell BK173.out 8).trans rfl
                    have hfs64 := blk_frozen BK173.out 8
                    have hns64_0 := NB160_173.out
                    have hns64_2 := NB174_173.out
                    have hms64_0 := NB173_160.out
                    have hms64_2 := NB173_174.out
                    have hs65 : w55.cell? ⟨gb173, 9, none⟩ = some (.int .i64 x174009_1) := (blk_cell BK173.out 9).trans rfl
                    have hfs65 := blk_frozen BK173.out 9
                    have hns65_0 := NB160_173.out
                    have hns65_2 := NB174_173.out
                    have hms65_0 := NB173_160.out
                    have hms65_2 := NB173_174.out
                    have hs66 : w55.cell? ⟨gb173, 10, none⟩ = some (.int .i64 x174010_1) := (blk_cell BK173.out 10).trans rfl
                    have hfs66 := blk_frozen BK173.out 10
                    have hns66_0 := NB160_173.out
                    have hns66_2 := NB174_173.out
                    have hms66_0 := NB173_160.out
                    have hms66_2 := NB173_174.out
                    refine skip_ (w1 := ?_) ?hw_ ?hN_ ?_ ?_; (case hw_ => rfl); (case hN_ => rfl)
                    rotate_left
                    · go_simp
                      rfl
                    refine hK.out _ _ ?_
                    clear hK K
                    refine last_ (i := 7) (N := none) #[true, true, true, true, true, true, true, true] rfl rfl (one_of HT_.out (by kernel_rfl)) (by decide) (fun K hK => ?_)
                    have hs67 : w55.cell? ⟨gb174, 0, none⟩ = some (.int .i64 x175000_1) := (blk_cell BK174.out 0).trans rfl
                    have hfs67 := blk_frozen BK174.out 0
                    have hns67_0 := NB160_174.out
                    have hns67_1 := NB173_174.out
                    have hms67_0 := NB174_160.out
                    have hms67_1 := NB174_173.out
                    have hs68 : w55.cell? ⟨gb174, 1, none⟩ = some (.int .i64 x175001_1) := (blk_cell BK174.out 1).trans rfl
                    have hfs68 := blk_frozen BK174.out 1
                    have hns68_0 := NB160_174.out
                    have hns68_1 := NB173_174.out
                    have hms68_0 := NB174_160.out
                    have hms68_1 := NB174_173.out
                    have hs69 : w55.cell? ⟨gb174, 2, none⟩ = some (.int .i64 x175002_1) := (blk_cell BK174.out 2).trans rfl
                    have hfs69 := blk_frozen BK174.out 2
                    have hns69_0 := NB160_174.out
                    have hns69_1 := NB173_174.out
                    have hms69_0 := NB174_160.out
                    have hms69_1 := NB174_173.out
                    have hs70 : w55.cell? ⟨gb174, 3, none⟩ = some (.int .i64 x175003_1) := (blk_cell BK174.out 3).trans rfl
                    have hfs70 := blk_frozen BK174.out 3
                    have hns70_0 := NB160_174.out
                    have hns70_1 := NB173_174.out
                    have hms70_0 := NB174_160.out
                    have hms70_1 := NB174_173.out
                    have hs71 : w55.cell? ⟨gb174, 4, none⟩ = some (.int .i64 x175004_1) := (blk_cell BK174.out 4).trans rfl
                    have hfs71 := blk_frozen BK174.out 4
                    have hns71_0 := NB160_174.out
                    have hns71_1 := NB173_174.out
                    have hms71_0 := NB174_160.out
                    have hms71_1 := NB174_173.out
                    have hs72 : w55.cell? ⟨gb174, 5, none⟩ = some (.int .i64 x175005_1) := (blk_cell BK174.out 5).trans rfl
                    have hfs72 := blk_frozen BK174.out 5
                    have hns72_0 := NB160_174.out
                    have hns72_1 := NB173_174.out
                    have hms72_0 := NB174_160.out
                    have hms72_1 := NB174_173.out
                    have hs73 : w55.cell? ⟨gb174, 6, none⟩ = some (.int .i64 x175006_1) := (blk_cell BK174.out 6).trans rfl
                    have hfs73 := blk_frozen BK174.out 6
                    have hns73_0 := NB160_174.out
                    have hns73_1 := NB173_174.out
                    have hms73_0 := NB174_160.out
                    have hms73_1 := NB174_173.out
                    have hs74 : w55.cell? ⟨gb174, 7, none⟩ = some (.int .i64 x175007_1) := (blk_cell BK174.out 7).trans rfl
                    have hfs74 := blk_frozen BK174.out 7
                    have hns74_0 := NB160_174.out
                    have hns74_1 := NB173_174.out
                    have hms74_0 := NB174_160.out
                    have hms74_1 := NB174_173.out
                    have hs75 : w55.cell? ⟨gb174, 8, none⟩ = some (.int .i64 x175008_1) := (blk_cell BK174.out 8).trans rfl
                    have hfs75 := blk_frozen BK174.out 8
                    have hns75_0 := NB160_174.out
                    have hns75_1 := NB173_174.out
                    have hms75_0 := NB174_160.out
                    have hms75_1 := NB174_173.out
                    have hs76 : w55.cell? ⟨gb174, 9, none⟩ = some (.int .i64 x175009_1) := (blk_cell BK174.out 9).trans rfl
                    have hfs76 := blk_frozen BK174.out 9
                    have hns76_0 := NB160_174.out
                    have hns76_1 := NB173_174.out
                    have hms76_0 := NB174_160.out
                    have hms76_1 := NB174_173.out
                    have hs77 : w55.cell? ⟨gb174, 10, none⟩ = some (.int .i64 x175010_1) := (blk_cell BK174.out 10).trans rfl
                    have hfs77 := blk_frozen BK174.out 10
                    have hns77_0 := NB160_174.out
                    have hns77_1 := NB173_174.out
                    have hms77_0 := NB174_160.out
                    have hms77_1 := NB174_173.out
                    refine skip_ (w1 := ?_) ?hw_ ?hN_ ?_ ?_; (case hw_ => rfl); (case hN_ => rfl)
                    rotate_left
                    · go_simp
                      rfl
                    refine hK.out _ _ ?_
                    clear hK K
                    refine done_ (done_of HT_.out (by kernel_rfl)) ?_
                    try go_wp2
                    go_roundg kj40
                    case measure => have := HK1.out; have := HJ40.out; omega
                    case rel => exact ⟨(wrap64 (x23_1 + 1)), (t177), (t178), (t179), (t180), (t181), (t182), (t183), (t184), (t185), (t186), (t187), (t188), (t189), (t190), (t191), (t192), (t193), (t194), (t195), (t196), (t197), (t198), (by first | rfl | (simp; done) | (simp [*]; done)), H', ⟨by have := HK1.out; have := HJ40.out; omega⟩, ⟨by (with_reducible repeat (first | refine blk_drewN ?_ _ | refine blk_drew ?_ | refine blk_alloc ?_ _)); refine blk_far ?_ NB160_174.out _; (with_reducible repeat (first | refine blk_drewN ?_ _ | refine blk_drew ?_ | refine blk_alloc ?_ _)); refine blk_far ?_ NB160_174.out _; (with_reducible repeat (first | refine blk_drewN ?_ _ | refine blk_drew ?_ | refine blk_alloc ?_ _)); refine blk_far ?_ NB160_174.out _; (with_reducible repeat (first | refine blk_drewN ?_ _ | refine blk_drew ?_ | refine blk_alloc ?_ _)); refine blk_far ?_ NB160_174.out _; (with_reducible repeat (first | refine blk_drewN ?_ _ | refine blk_drew ?_ | refine blk_alloc ?_ _)); refine blk_far ?_ NB160_174.out _; (with_reducible repeat (first | refine blk_drewN ?_ _ | refine blk_drew ?_ | refine blk_alloc ?_ _)); refine blk_far ?_ NB160_174.out _; (with_reducible repeat (first | refine blk_drewN ?_ _ | refine blk_drew ?_ | refine blk_alloc ?_ _)); refine blk_far ?_ NB160_174.out _; (with_reducible repeat (first | refine blk_drewN ?_ _ | refine blk_drew ?_ | refine blk_alloc ?_ _)); refine blk_far ?_ NB160_174.out _; (with_reducible repeat (first | refine blk_drewN ?_ _ | refine blk_drew ?_ | refine blk_alloc ?_ _)); refine blk_far ?_ NB160_174.out _; (with_reducible repeat (first | refine blk_drewN ?_ _ | refine blk_drew ?_ | refine blk_alloc ?_ _)); refine blk_far ?_ NB160_174.out _; (with_reducible repeat (first | refine blk_drewN ?_ _ | refine blk_drew ?_ | refine blk_alloc ?_ _)); refine blk_far ?_ NB160_174.out _; (with_reducible repeat (first | refine blk_drewN ?_ _ | refine blk_drew ?_ | refine blk_alloc ?_ _)); refine blk_far ?_ NB160_173.out _; (with_reducible repeat (first | refine blk_drewN ?_ _ | refine blk_drew ?_ | refine blk_alloc ?_ _)); refine blk_far ?_ NB160_173.out _; (with_reducible repeat (first | refine blk_drewN ?_ _ | refine blk_drew ?_ | refine blk_alloc ?_ _)); refine blk_far ?_ NB160_173.out _; (with_reducible repeat (first | refine blk_drewN ?_ _ | refine blk_drew ?_ | refine blk_alloc ?_ _)); refine blk_far ?_ NB160_173.out _; (with_reducible repeat (first | refine blk_drewN ?_ _ | refine blk_drew ?_ | refine blk_alloc ?_ _)); refine blk_far ?_ NB160_173.out _; (with_reducible repeat (first | refine blk_drewN ?_ _ | refine blk_drew ?_ | refine blk_alloc ?_ _)); refine blk_far ?_ NB160_173.out _; (with_reducible repeat (first | refine blk_drewN ?_ _ | refine blk_drew ?_ | refine blk_alloc ?_ _)); refine blk_far ?_ NB160_173.out _; (with_reducible repeat (first | refine blk_drewN ?_ _ | refine blk_drew ?_ | refine blk_alloc ?_ _)); refine blk_far ?_ NB160_173.out _; (with_reducible repeat (first | refine blk_drewN ?_ _ | refine blk_drew ?_ | refine blk_alloc ?_ _)); refine blk_far ?_ NB160_173.out _; (with_reducible repeat (first | refine blk_drewN ?_ _ | refine blk_drew ?_ | refine blk_alloc ?_ _)); refine blk_far ?_ NB160_173.out _; (with_reducible repeat (first | refine blk_drewN ?_ _ | refine blk_drew ?_ | refine blk_alloc ?_ _)); refine blk_far ?_ NB160_173.out _; (with_reducible repeat (first | refine blk_drewN ?_ _ | refine blk_drew ?_ | refine blk_alloc ?_ _)); exact BK160.out⟩, ⟨by (with_reducible repeat (first | refine blk_drewN ?_ _ | refine blk_drew ?_ | refine blk_alloc ?_ _)); refine blk_far ?_ NB173_174.out _; (with_reducible repeat (first | refine blk_drewN ?_ _ | refine blk_drew ?_ | refine blk_alloc ?_ _)); refine blk_far ?_ NB173_174.out _; (with_reducible repeat (first | refine blk_drewN ?_ _ | refine blk_drew ?_ | refine blk_alloc ?_ _)); refine blk_far ?_ NB173_174.out _; (with_reducible repeat (first | refine blk_drewN ?_ _ | refine blk_drew ?_ | refine blk_alloc ?_ _)); refine blk_far ?_ NB173_174.out _; (with_reducible repeat (first | refine blk_drewN ?_ _ | refine blk_drew ?_ | refine blk_alloc ?_ _)); refine blk_far ?_ NB173_174.out _; (with_reducible repeat (first | refine blk_drewN ?_ _ | refine blk_drew ?_ | refine blk_alloc ?_ _)); refine blk_far ?_ NB173_174.out _; (with_reducible repeat (first | refine blk_drewN ?_ _ | refine blk_drew ?_ | refine blk_alloc ?_ _)); refine blk_far ?_ NB173_174.out _; (with_reducible repeat (first | refine blk_drewN ?_ _ | refine blk_drew ?_ | refine blk_alloc ?_ _)); refine blk_far ?_ NB173_174.out _; (with_reducible repeat (first | refine blk_drewN ?_ _ | refine blk_drew ?_ | refine blk_alloc ?_ _)); refine blk_far ?_ NB173_174.out _; (with_reducible repeat (first | refine blk_drewN ?_ _ | refine blk_drew ?_ | refine blk_alloc ?_ _)); refine blk_far ?_ NB173_174.out _; (with_reducible repeat (first | refine blk_drewN ?_ _ | refine blk_drew ?_ | refine blk_alloc ?_ _)); refine blk_far ?_ NB173_174.out _; (with_reducible repeat (first | refine blk_drewN ?_ _ | refine blk_drew ?_ | refine blk_alloc ?_ _)); refine blk_put (cs := #[.int .i64 t177, .int .i64 t178, .int .i64 t179, .int .i64 t180, .int .i64 t181, .int .i64 t182, .int .i64 t183, .int .i64 t184, .int .i64 t185, .int .i64 t186, .int .i64 x174010_1]) ?_ 10 _ rfl; (with_reducible repeat (first | refine blk_drewN ?_ _ | refine blk_drew ?_ | refine blk_alloc ?_ _)); refine blk_put (cs := #[.int .i64 t177, .int .i64 t178, .int .i64 t179, .int .i64 t180, .int .i64 t181, .int .i64 t182, .int .i64 t183, .int .i64 t184, .int .i64 t185, .int .i64 x174009_1, .int .i64 x174010_1]) ?_ 9 _ rfl; (with_reducible repeat (first | refine blk_drewN ?_ _ | refine blk_drew ?_ | refine blk_alloc ?_ _)); refine blk_put (cs := #[.int .i64 t177, .int .i64 t178, .int .i64 t179, .int .i64 t180, .int .i64 t181, .int .i64 t182, .int .i64 t183, .int .i64 t184, .int .i64 x174008_1, .int .i64 x174009_1, .int .i64 x174010_1]) ?_ 8 _ rfl; (with_reducible repeat (first | refine blk_drewN ?_ _ | refine blk_drew ?_ | refine blk_alloc ?_ _)); refine blk_put (cs := #[.int .i64 t177, .int .i64 t178, .int .i64 t179, .int .i64 t180, .int .i64 t181, .int .i64 t182, .int .i64 t183, .int .i64 x174007_1, .int .i64 x174008_1, .int .i64 x174009_1, .int .i64 x174010_1]) ?_ 7 _ rfl; (with_reducible repeat (first | refine blk_drewN ?_ _ | refine blk_drew ?_ | refine blk_alloc ?_ _)); refine blk_put (cs := #[.int .i64 t177, .int .i64 t178, .int .i64 t179, .int .i64 t180, .int .i64 t181, .int .i64 t182, .int .i64 x174006_1, .int .i64 x174007_1, .int .i64 x174008_1, .int .i64 x174009_1, .int .i64 x174010_1]) ?_ 6 _ rfl; (with_reducible repeat (first | refine blk_drewN ?_ _ | refine blk_drew ?_ | refine blk_alloc ?_ _)); refine blk_put (cs := #[.int .i64 t177, .int .i64 t178, .int .i64 t179, .int .i64 t180, .int .i64 t181, .int .i64 x174005_1, .int .i64 x174006_1, .int .i64 x174007_1, .int .i64 x174008_1, .int .i64 x174009_1, .int .i64 x174010_1]) ?_ 5 _ rfl; (with_reducible repeat (first | refine blk_drewN ?_ _ | refine blk_drew ?_ | refine blk_alloc ?_ _)); refine blk_put (cs := #[.int .i64 t177, .int .i64 t178, .int .i64 t179, .int .i64 t180, .int .i64 x174004_1, .int .i64 x174005_1, .int .i64 x174006_1, .int .i64 x174007_1, .int .i64 x174008_1, .int .i64 x174009_1, .int .i64 x174010_1]) ?_ 4 _ rfl; (with_reducible repeat (first | refine blk_drewN ?_ _ | refine blk_drew ?_ | refine blk_alloc ?_ _)); refine blk_put (cs := #[.int .i64 t177, .int .i64 t178, .int .i64 t179, .int .i64 x174003_1, .int .i64 x174004_1, .int .i64 x174005_1, .int .i64 x174006_1, .int .i64 x174007_1, .int .i64 x174008_1, .int .i64 x174009_1, .int .i64 x174010_1]) ?_ 3 _ rfl; (with_reducible repeat (first | refine blk_drewN ?_ _ | refine blk_drew ?_ | refine blk_alloc ?_ _)); refine blk_put (cs := #[.int .i64 t177, .int .i64 t178, .int .i64 x174002_1, .int .i64 x174003_1, .int .i64 x174004_1, .int .i64 x174005_1, .int .i64 x174006_1, .int .i64 x174007_1, .int .i64 x174008_1, .int .i64 x174009_1, .int .i64 x174010_1]) ?_ 2 _ rfl; (with_reducible repeat (first | refine blk_drewN ?_ _ | refine blk_drew ?_ | refine blk_alloc ?_ _)); refine blk_put (cs := #[.int .i64 t177, .int .i64 x174001_1, .int .i64 x174002_1, .int .i64 x174003_1, .int .i64 x174004_1, .int .i64 x174005_1, .int .i64 x174006_1, .int .i64 x174007_1, .int .i64 x174008_1, .int .i64 x174009_1, .int .i64 x174010_1]) ?_ 1 _ rfl; (with_reducible repeat (first | refine blk_drewN ?_ _ | refine blk_drew ?_ | refine blk_alloc ?_ _)); refine blk_put (cs := #[.int .i64 x174000_1, .int .i64 x174001_1, .int .i64 x174002_1, .int .i64 x174003_1, .int .i64 x174004_1, .int .i64 x174005_1, .int .i64 x174006_1, .int .i64 x174007_1, .int .i64 x174008_1, .int .i64 x174009_1, .int .i64 x174010_1]) ?_ 0 _ rfl; (with_reducible repeat (first | refine blk_drewN ?_ _ | refine blk_drew ?_ | refine blk_alloc ?_ _)); exact BK173.out⟩, ⟨by (with_reducible repeat (first | refine blk_drewN ?_ _ | refine blk_drew ?_ | refine blk_alloc ?_ _)); refine blk_put (cs := #[.int .i64 t188, .int .i64 t189, .int .i64 t190, .int .i64 t191, .int .i64 t192, .int .i64 t193, .int .i64 t194, .int .i64 t195, .int .i64 t196, .int .i64 t197, .int .i64 x175010_1]) ?_ 10 _ rfl; (with_reducible repeat (first | refine blk_drewN ?_ _ | refine blk_drew ?_ | refine blk_alloc ?_ _)); refine blk_put (cs := #[.int .i64 t188, .int .i64 t189, .int .i64 t190, .int .i64 t191, .int .i64 t192, .int .i64 t193, .int .i64 t194, .int .i64 t195, .int .i64 t196, .int .i64 x175009_1, .int .i64 x175010_1]) ?_ 9 _ rfl; (with_reducible repeat (first | refine blk_drewN ?_ _ | refine blk_drew ?_ | refine blk_alloc ?_ _)); refine blk_put (cs := #[.int .i64 t188, .int .i64 t189, .int .i64 t190, .int .i64 t191, .int .i64 t192, .int .i64 t193, .int .i64 t194, .int .i64 t195, .int .i64 x175008_1, .int .i64 x175009_1, .int .i64 x175010_1]) ?_ 8 _ rfl; (with_reducible repeat (first | refine blk_drewN ?_ _ | refine blk_drew ?_ | refine blk_alloc ?_ _)); refine blk_put (cs := #[.int .i64 t188, .int .i64 t189, .int .i64 t190, .int .i64 t191, .int .i64 t192, .int .i64 t193, .int .i64 t194, .int .i64 x175007_1, .int .i64 x175008_1, .int .i64 x175009_1, .int .i64 x175010_1]) ?_ 7 _ rfl; (with_reducible repeat (first | refine blk_drewN ?_ _ | refine blk_drew ?_ | refine blk_alloc ?_ _)); refine blk_put (cs := #[.int .i64 t188, .int .i64 t189, .int .i64 t190, .int .i64 t191, .int .i64 t192, .int .i64 t193, .int .i64 x175006_1, .int .i64 x175007_1, .int .i64 x175008_1, .int .i64 x175009_1, .int .i64 x175010_1]) ?_ 6 _ rfl; (with_reducible repeat (first | refine blk_drewN ?_ _ | refine blk_drew ?_ | refine blk_alloc ?_ _)); refine blk_put (cs := #[.int .i64 t188, .int .i64 t189, .int .i64 t190, .int .i64 t191, .int .i64 t192, .int .i64 x175005_1, .int .i64 x175006_1, .int .i64 x175007_1, .int .i64 x175008_1, .int .i64 x175009_1, .int .i64 x175010_1]) ?_ 5 _ rfl; (with_reducible repeat (first | refine blk_drewN ?_ _ | refine blk_drew ?_ | refine blk_alloc ?_ _)); refine blk_put (cs := #[.int .i64 t188, .int .i64 t189, .int .i64 t190, .int .i64 t191, .int .i64 x175004_1, .int .i64 x175005_1, .int .i64 x175006_1, .int .i64 x175007_1, .int .i64 x175008_1, .int .i64 x175009_1, .int .i64 x175010_1]) ?_ 4 _ rfl; (with_reducible repeat (first | refine blk_drewN ?_ _ | refine blk_drew ?_ | refine blk_alloc ?_ _)); refine blk_put (cs := #[.int .i64 t188, .int .i64 t189, .int .i64 t190, .int .i64 x175003_1, .int .i64 x175004_1, .int .i64 x175005_1, .int .i64 x175006_1, .int .i64 x175007_1, .int .i64 x175008_1, .int .i64 x175009_1, .int .i64 x175010_1]) ?_ 3 _ rfl; (with_reducible repeat (first | refine blk_drewN ?_ _ | refine blk_drew ?_ | refine blk_alloc ?_ _)); refine blk_put (cs := #[.int .i64 t188, .int .i64 t189, .int .i64 x175002_1, .int .i64 x175003_1, .int .i64 x175004_1, .int .i64 x175005_1, .int .i64 x175006_1, .int .i64 x175007_1, .int .i64 x175008_1, .int .i64 x175009_1, .int .i64 x175010_1]) ?_ 2 _ rfl; (with_reducible repeat (first | refine blk_drewN ?_ _ | refine blk_drew ?_ | refine blk_alloc ?_ _)); refine blk_put (cs := #[.int .i64 t188, .int .i64 x175001_1, .int .i64 x175002_1, .int .i64 x175003_1, .int .i64 x175004_1, .int .i64 x175005_1, .int .i64 x175006_1, .int .i64 x175007_1, .int .i64 x175008_1, .int .i64 x175009_1, .int .i64 x175010_1]) ?_ 1 _ rfl; (with_reducible repeat (first | refine blk_drewN ?_ _ | refine blk_drew ?_ | refine blk_alloc ?_ _)); refine blk_put (cs := #[.int .i64 x175000_1, .int .i64 x175001_1, .int .i64 x175002_1, .int .i64 x175003_1, .int .i64 x175004_1, .int .i64 x175005_1, .int .i64 x175006_1, .int .i64 x175007_1, .int .i64 x175008_1, .int .i64 x175009_1, .int .i64 x175010_1]) ?_ 0 _ rfl; (with_reducible repeat (first | refine blk_drewN ?_ _ | refine blk_drew ?_ | refine blk_alloc ?_ _)); refine blk_far ?_ NB174_173.out _; (with_reducible repeat (first | refine blk_drewN ?_ _ | refine blk_drew ?_ | refine blk_alloc ?_ _)); refine blk_far ?_ NB174_173.out _; (with_reducible repeat (first | refine blk_drewN ?_ _ | refine blk_drew ?_ | refine blk_alloc ?_ _)); refine blk_far ?_ NB174_173.out _; (with_reducible repeat (first | refine blk_drewN ?_ _ | refine blk_drew ?_ | refine blk_alloc ?_ _)); refine blk_far ?_ NB174_173.out _; (with_reducible repeat (first | refine blk_drewN ?_ _ | refine blk_drew ?_ | refine blk_alloc ?_ _)); refine blk_far ?_ NB174_173.out _; (with_reducible repeat (first | refine blk_drewN ?_ _ | refine blk_drew ?_ | refine blk_alloc ?_ _)); refine blk_far ?_ NB174_173.out _; (with_reducible repeat (first | refine blk_drewN ?_ _ | refine blk_drew ?_ | refine blk_alloc ?_ _)); refine blk_far ?_ NB174_173.out _; (with_reducible repeat (first | refine blk_drewN ?_ _ | refine blk_drew ?_ | refine blk_alloc ?_ _)); refine blk_far ?_ NB174_173.out _; (with_reducible repeat (first | refine blk_drewN ?_ _ | refine blk_drew ?_ | refine blk_alloc ?_ _)); refine blk_far ?_ NB174_173.out _; (with_reducible repeat (first | refine blk_drewN ?_ _ | refine blk_drew ?_ | refine blk_alloc ?_ _)); refine blk_far ?_ NB174_173.out _; (with_reducible repeat (first | refine blk_drewN ?_ _ | refine blk_drew ?_ | refine blk_alloc ?_ _)); refine blk_far ?_ NB174_173.out _; (with_reducible repeat (first | refine blk_drewN ?_ _ | refine blk_drew ?_ | refine blk_alloc ?_ _)); exact BK174.out⟩, ⟨by repeat (first | (with_reducible first | exact HB.out | apply below_alloc | apply pw_below_drewN | apply below_drew1 | refine below_set ?_ GE160.out | refine below_set ?_ GE173.out | refine below_set ?_ GE174.out) | exact HB.out)⟩⟩
            · rw [if_neg c40] at H
              exact absurd H (by simp)
          · rw [if_neg c39] at H
            exact absurd H (by simp)
        · rw [if_neg c38] at H
          have c38b0 : decide (x23_1 < (l1.length : Int)) = false := decide_eq_false c38
          clear c38
          obtain rfl := Option.some.inj H
          have hnb78 := NB173_160.out
          have hnc78 := NB160_173.out
          have hnb79 := NB173_174.out
          have hnc79 := NB174_173.out
          have hcz80_0 : wr.cell? ⟨gb173, 0, none⟩ = some (.int .i64 x174000_1) := (blk_cell BK173.out 0).trans rfl
          have hcz80_1 : wr.cell? ⟨gb173, 1, none⟩ = some (.int .i64 x174001_1) := (blk_cell BK173.out 1).trans rfl
          have hcz80_2 : wr.cell? ⟨gb173, 2, none⟩ = some (.int .i64 x174002_1) := (blk_cell BK173.out 2).trans rfl
          have hcz80_3 : wr.cell? ⟨gb173, 3, none⟩ = some (.int .i64 x174003_1) := (blk_cell BK173.out 3).trans rfl
          have hcz80_4 : wr.cell? ⟨gb173, 4, none⟩ = some (.int .i64 x174004_1) := (blk_cell BK173.out 4).trans rfl
          have hcz80_5 : wr.cell? ⟨gb173, 5, none⟩ = some (.int .i64 x174005_1) := (blk_cell BK173.out 5).trans rfl
          have hcz80_6 : wr.cell? ⟨gb173, 6, none⟩ = some (.int .i64 x174006_1) := (blk_cell BK173.out 6).trans rfl
          have hcz80_7 : wr.cell? ⟨gb173, 7, none⟩ = some (.int .i64 x174007_1) := (blk_cell BK173.out 7).trans rfl
          have hcz80_8 : wr.cell? ⟨gb173, 8, none⟩ = some (.int .i64 x174008_1) := (blk_cell BK173.out 8).trans rfl
          have hcz80_9 : wr.cell? ⟨gb173, 9, none⟩ = some (.int .i64 x174009_1) := (blk_cell BK173.out 9).trans rfl
          have hcz80_10 : wr.cell? ⟨gb173, 10, none⟩ = some (.int .i64 x174010_1) := (blk_cell BK173.out 10).trans rfl
          have hfz80_0 := blk_frozen BK173.out 0
          have hfz80_1 := blk_frozen BK173.out 1
          have hfz80_2 := blk_frozen BK173.out 2
          have hfz80_3 := blk_frozen BK173.out 3
          have hfz80_4 := blk_frozen BK173.out 4
          have hfz80_5 := blk_frozen BK173.out 5
          have hfz80_6 := blk_frozen BK173.out 6
          have hfz80_7 := blk_frozen BK173.out 7
          have hfz80_8 := blk_frozen BK173.out 8
          have hfz80_9 := blk_frozen BK173.out 9
          have hfz80_10 := blk_frozen BK173.out 10
          have hnb81 := NB174_160.out
          have hnc81 := NB160_174.out
          have hcz82_0 : wr.cell? ⟨gb174, 0, none⟩ = some (.int .i64 x175000_1) := (blk_cell BK174.out 0).trans rfl
          have hcz82_1 : wr.cell? ⟨gb174, 1, none⟩ = some (.int .i64 x175001_1) := (blk_cell BK174.out 1).trans rfl
          have hcz82_2 : wr.cell? ⟨gb174, 2, none⟩ = some (.int .i64 x175002_1) := (blk_cell BK174.out 2).trans rfl
          have hcz82_3 : wr.cell? ⟨gb174, 3, none⟩ = some (.int .i64 x175003_1) := (blk_cell BK174.out 3).trans rfl
          have hcz82_4 : wr.cell? ⟨gb174, 4, none⟩ = some (.int .i64 x175004_1) := (blk_cell BK174.out 4).trans rfl
          have hcz82_5 : wr.cell? ⟨gb174, 5, none⟩ = some (.int .i64 x175005_1) := (blk_cell BK174.out 5).trans rfl
          have hcz82_6 : wr.cell? ⟨gb174, 6, none⟩ = some (.int .i64 x175006_1) := (blk_cell BK174.out 6).trans rfl
          have hcz82_7 : wr.cell? ⟨gb174, 7, none⟩ = some (.int .i64 x175007_1) := (blk_cell BK174.out 7).trans rfl
          have hcz82_8 : wr.cell? ⟨gb174, 8, none⟩ = some (.int .i64 x175008_1) := (blk_cell BK174.out 8).trans rfl
          have hcz82_9 : wr.cell? ⟨gb174, 9, none⟩ = some (.int .i64 x175009_1) := (blk_cell BK174.out 9).trans rfl
          have hcz82_10 : wr.cell? ⟨gb174, 10, none⟩ = some (.int .i64 x175010_1) := (blk_cell BK174.out 10).trans rfl
          have hfz82_0 := blk_frozen BK174.out 0
          have hfz82_1 := blk_frozen BK174.out 1
          have hfz82_2 := blk_frozen BK174.out 2
          have hfz82_3 := blk_frozen BK174.out 3
          have hfz82_4 := blk_frozen BK174.out 4
          have hfz82_5 := blk_frozen BK174.out 5
          have hfz82_6 := blk_frozen BK174.out 6
          have hfz82_7 := blk_frozen BK174.out 7
          have hfz82_8 := blk_frozen BK174.out 8
          have hfz82_9 := blk_frozen BK174.out 9
          have hfz82_10 := blk_frozen BK174.out 10
          go_wp2
          go_ret
          exact ⟨by first | rfl | (simp [errW_none, errW_some] <;> rfl) | (simp [*, errW_none, errW_some] <;> rfl), by repeat (first | (with_reducible first | exact HB.out | apply below_alloc | apply pw_below_drewN | apply below_drew1 | refine below_set ?_ GE160.out | refine below_set ?_ GE173.out | refine below_set ?_ GE174.out) | exact HB.out)⟩
  · replace c5 := Bool.eq_false_iff.mpr c5
    subst c5
    have H1 : (some false) = some r := by rw [if_neg (show ¬ (false = true) by decide)] at H; exact H
    clear H
    have H := H1
    clear H1
    obtain rfl := Option.some.inj H
    go_enter Try.func3, Try.ntmps3
    go_wp2_with (first | ((with_reducible refine gate_dst (N := 5) rfl ?_); refine box_event ?hg (N := 5) ?hd (cs := #[.int .i64 a2_0, .int .i64 a2_1, .int .i64 a2_2, .int .i64 a2_3, .int .i64 a2_4, .int .i64 a2_5, .int .i64 a2_6]) (t := 25) ?hr ?_; (case hd => rfl); (case hg => rfl); (case hr => first | (go_simp; done) | (go_simp; rfl)); intro gb160 hg w83 hbox hb; have n0_ := Aside0.mk (below_step (by repeat (first | (with_reducible first | exact HB.out | apply below_alloc | apply pw_below_drewN | apply below_drew1) | exact HB.out)) hb); have n1_ := Aside0.mk (hbox); have n2_ := Aside0.mk ((by rw [hg]; exact (below_size (by repeat (first | (with_reducible first | exact HB.out | apply below_alloc | apply pw_below_drewN | apply below_drew1) | exact HB.out))) : w.heap.size ≤ gb160)); have n3_ := Aside0.mk ((by rw [hg]; exact (below_size (by repeat (first | (with_reducible first | exact HB.out | apply below_alloc | apply pw_below_drewN | apply below_drew1) | exact HB.out))) : w.heap.size ≤ gb160)); clear HB; have HB := n0_; have BK160 := n1_; have GW160 := n2_; have GE160 := n3_; clear n0_ n1_ n2_ n3_; clear hb hbox hg) | ((with_reducible refine gate_callee (f := 7) rfl ?_); refine goesL_ (some 11) rfl rfl Try.func7 (by kernel_rfl) rfl #[] rfl (by (try simp only [List.map_toArray, List.map_cons, List.map_nil]); first | done | rfl | (simp only [List.length_drop, List.length_take]; rfl)) ?_; (with_reducible refine (hawalalaw14_awake.calls k  false _ A4.out).mono ?_); rintro e w84 ⟨rfl, hb⟩; refine ⟨_, rfl, ?_⟩; have n0_ := Aside0.mk (blk_below (g := gb160) (o := .cells #[.int .i64 a2_0, .int .i64 a2_1, .int .i64 a2_2, .int .i64 a2_3, .int .i64 a2_4, .int .i64 a2_5, .int .i64 a2_6] 25 (0, 0)) (by (with_reducible repeat (first | refine blk_drewN ?_ _ | refine blk_drew ?_ | refine blk_alloc ?_ _)); exact BK160.out) hb); have n1_ := Aside0.mk (below_step (by repeat (first | (with_reducible first | exact HB.out | apply below_alloc | apply pw_below_drewN | apply below_drew1 | refine below_set ?_ GE160.out) | exact HB.out)) hb); clear BK160; clear HB; have BK160 := n0_; have HB := n1_; clear n0_ n1_; (try clear hb); (try clear hb2); (try clear hk); (try clear hi)))
    go_ret
    exact ⟨by first | rfl | (simp [errW_none, errW_some] <;> rfl) | (simp [*, errW_none, errW_some] <;> rfl), by repeat (first | (with_reducible first | exact HB.out | apply below_alloc | apply pw_below_drewN | apply below_drew1 | refine below_set ?_ GE160.out) | exact HB.out)⟩

/-- THE ONE PURE STATEMENT of hawalalaw14_SagaLeg: yours. -/
def hawalalaw14_SagaLeg.Pure : Prop := ∀ (a0 : Int) (l1 : List Bool) (y2 : S25), (Lit.int .u8 a0).wf = true → (l1.length ≤ maxLen ∧ l1.length * 1 ≤ 140737488351232 ∧ ∀ x_ ∈ l1, True) → okS25 y2 → ∃ k, hawalalaw14_SagaLeg.f k a0 l1 y2.f0 y2.f1 y2.f2 y2.f3 y2.f4 y2.f5 y2.f6 = some true

end Go.Proofs.Ytinjmjgfhpojfaa.PAll
