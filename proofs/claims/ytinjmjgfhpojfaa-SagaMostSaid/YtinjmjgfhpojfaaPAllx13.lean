/- What each Go function computes, as a plain Lean function, and the proof that the machine comes to it; for every input. Laid by wip/tools of this session over the kit's print, with small turns of ours. Not trusted: Lean checks it. -/
import Derived.Test.YtinjmjgfhpojfaaPAllx0
import Derived.Test.YtinjmjgfhpojfaaPAllx2
import Derived.Test.YtinjmjgfhpojfaaPAllx3
import Derived.Test.YtinjmjgfhpojfaaPAllx5
import Derived.Test.YtinjmjgfhpojfaaPAllx8
import Derived.Test.YtinjmjgfhpojfaaPAllx10
import Derived.Test.YtinjmjgfhpojfaaPAllx12
namespace Go.Proofs.Ytinjmjgfhpojfaa.PAll
open Go.Proofs.YtinjmjgfhpojfaaW
open Go.RowKit Go.Proofs.YtinjmjgfhpojfaaW.PrintWords Go.Proofs.YtinjmjgfhpojfaaW.PrintLast Go.Proofs.YtinjmjgfhpojfaaW.PrintMore
attribute [local go_sem] max2_int min2_int max_two min_two max_three min_three max_four min_four   -- for this text's walks alone
set_option linter.unusedVariables false
set_option linter.unusedSimpArgs false

/-! ### hawalalaw14_SagaMost: function 6 -/
mutual
def hawalalaw14_SagaMost.j2 : Nat → Int → Int → Int → Int → Int → Int → Int → Int → Int → Int → Int → Option (Bool)
  | 0, _, _, _, _, _, _, _, _, _, _, _ => none
  | k + 1, x318000, x318001, x318002, x318003, x318004, x318005, x318006, x318007, x318008, x318009, x318010 => (saga_End.f x318000 x318001 x318002 x318003 x318004 x318005 x318006 x318007 x318008 x318009 x318010).bind fun bt335 => ((saga_Most.f bt335.1 bt335.2.1 bt335.2.2.1 bt335.2.2.2.1 bt335.2.2.2.2.1 bt335.2.2.2.2.2.1 bt335.2.2.2.2.2.2.1 bt335.2.2.2.2.2.2.2.1 bt335.2.2.2.2.2.2.2.2.1 bt335.2.2.2.2.2.2.2.2.2.1 bt335.2.2.2.2.2.2.2.2.2.2).bind fun t346 => (if t346 = 0 then ((saga_Turn.f x318000 x318001 x318002 x318003 x318004 x318005 x318006 x318007 x318008 x318009 x318010 9).bind fun bt347 => ((saga_Most.f bt347.1 bt347.2.1 bt347.2.2.1 bt347.2.2.2.1 bt347.2.2.2.2.1 bt347.2.2.2.2.2.1 bt347.2.2.2.2.2.2.1 bt347.2.2.2.2.2.2.2.1 bt347.2.2.2.2.2.2.2.2.1 bt347.2.2.2.2.2.2.2.2.2.1 bt347.2.2.2.2.2.2.2.2.2.2).bind fun t358 => (some (t358 == 1)))) else (some false)))
def hawalalaw14_SagaMost.l0 : Nat → List Bool → Int → Int → Int → Int → Int → Int → Int → Int → Int → Int → Int → Int → Int → Option (Bool)
  | 0, _, _, _, _, _, _, _, _, _, _, _, _, _, _ => none
  | k + 1, x16, x17, x18, x318000, x318001, x318002, x318003, x318004, x318005, x318006, x318007, x318008, x318009, x318010 => if x18 < x17 then (if 0 ≤ x18 then (if x18 < (x16.length : Int) then (if x318007 = 0 then ((saga_Ready.f x318000 x318001 x318002 x318003 x318004 x318005 x318006 x318007 x318008 x318009 x318010).bind fun t319 => (hawalalaw14_SagaMost.j1 k (rdOf false x16 x18) x16 x17 x18 t319 x318000 x318001 x318002 x318003 x318004 x318005 x318006 x318007 x318008 x318009 x318010)) else (hawalalaw14_SagaMost.j1 k (rdOf false x16 x18) x16 x17 x18 true x318000 x318001 x318002 x318003 x318004 x318005 x318006 x318007 x318008 x318009 x318010)) else (none)) else (none)) else (hawalalaw14_SagaMost.j2 k x318000 x318001 x318002 x318003 x318004 x318005 x318006 x318007 x318008 x318009 x318010)
def hawalalaw14_SagaMost.j1 : Nat → Bool → List Bool → Int → Int → Bool → Int → Int → Int → Int → Int → Int → Int → Int → Int → Int → Int → Option (Bool)
  | 0, _, _, _, _, _, _, _, _, _, _, _, _, _, _, _, _ => none
  | k + 1, x9, x16, x17, x18, x28, x318000, x318001, x318002, x318003, x318004, x318005, x318006, x318007, x318008, x318009, x318010 => if x28 = true then (hawalalaw14_SagaMost.j2 k x318000 x318001 x318002 x318003 x318004 x318005 x318006 x318007 x318008 x318009 x318010) else ((saga_Leg.f k x318000 x318001 x318002 x318003 x318004 x318005 x318006 x318007 x318008 x318009 x318010 x9).bind fun bt320 => ((saga_Most.f bt320.1 bt320.2.1 bt320.2.2.1 bt320.2.2.2.1 bt320.2.2.2.2.1 bt320.2.2.2.2.2.1 bt320.2.2.2.2.2.2.1 bt320.2.2.2.2.2.2.2.1 bt320.2.2.2.2.2.2.2.2.1 bt320.2.2.2.2.2.2.2.2.2.1 bt320.2.2.2.2.2.2.2.2.2.2).bind fun t332 => ((saga_Most.f x318000 x318001 x318002 x318003 x318004 x318005 x318006 x318007 x318008 x318009 x318010).bind fun t333 => (if t332 ≥ t333 then (some false) else ((saga_Most.f bt320.1 bt320.2.1 bt320.2.2.1 bt320.2.2.2.1 bt320.2.2.2.2.1 bt320.2.2.2.2.2.1 bt320.2.2.2.2.2.2.1 bt320.2.2.2.2.2.2.2.1 bt320.2.2.2.2.2.2.2.2.1 bt320.2.2.2.2.2.2.2.2.2.1 bt320.2.2.2.2.2.2.2.2.2.2).bind fun t334 => (if t334 < 1 then (some false) else (hawalalaw14_SagaMost.l0 k x16 x17 (wrap64 (x18 + 1)) bt320.1 bt320.2.1 bt320.2.2.1 bt320.2.2.2.1 bt320.2.2.2.2.1 bt320.2.2.2.2.2.1 bt320.2.2.2.2.2.2.1 bt320.2.2.2.2.2.2.2.1 bt320.2.2.2.2.2.2.2.2.1 bt320.2.2.2.2.2.2.2.2.2.1 bt320.2.2.2.2.2.2.2.2.2.2)))))))
end
def hawalalaw14_SagaMost.f (k : Nat) (a0 : Int) (l1 : List Bool) (l2 : List Bool) : Option (Bool) := (hawalalaw14_awake.f k).bind fun t305 => (if t305 = true then ((hawalalaw14_Make.f k a0 l1).bind fun bt306 => (hawalalaw14_SagaMost.l0 k l2 (l2.length : Int) 0 bt306.1 bt306.2.1 bt306.2.2.1 bt306.2.2.2.1 bt306.2.2.2.2.1 bt306.2.2.2.2.2.1 bt306.2.2.2.2.2.2.1 bt306.2.2.2.2.2.2.2.1 bt306.2.2.2.2.2.2.2.2.1 bt306.2.2.2.2.2.2.2.2.2.1 bt306.2.2.2.2.2.2.2.2.2.2)) else (some false))
theorem hawalalaw14_SagaMost.mono_l : ∀ k, (∀ y0 y1 y2 y3 y4 y5 y6 y7 y8 y9 y10, LeO (hawalalaw14_SagaMost.j2 k y0 y1 y2 y3 y4 y5 y6 y7 y8 y9 y10) (hawalalaw14_SagaMost.j2 (k + 1) y0 y1 y2 y3 y4 y5 y6 y7 y8 y9 y10)) ∧ (∀ y0 y1 y2 y3 y4 y5 y6 y7 y8 y9 y10 y11 y12 y13, LeO (hawalalaw14_SagaMost.l0 k y0 y1 y2 y3 y4 y5 y6 y7 y8 y9 y10 y11 y12 y13) (hawalalaw14_SagaMost.l0 (k + 1) y0 y1 y2 y3 y4 y5 y6 y7 y8 y9 y10 y11 y12 y13)) ∧ (∀ y0 y1 y2 y3 y4 y5 y6 y7 y8 y9 y10 y11 y12 y13 y14 y15, LeO (hawalalaw14_SagaMost.j1 k y0 y1 y2 y3 y4 y5 y6 y7 y8 y9 y10 y11 y12 y13 y14 y15) (hawalalaw14_SagaMost.j1 (k + 1) y0 y1 y2 y3 y4 y5 y6 y7 y8 y9 y10 y11 y12 y13 y14 y15))
  | 0 => ⟨fun _ _ _ _ _ _ _ _ _ _ _ r h => by simp [hawalalaw14_SagaMost.j2] at h, fun _ _ _ _ _ _ _ _ _ _ _ _ _ _ r h => by simp [hawalalaw14_SagaMost.l0] at h, fun _ _ _ _ _ _ _ _ _ _ _ _ _ _ _ _ r h => by simp [hawalalaw14_SagaMost.j1] at h⟩
  | k + 1 => by
    obtain ⟨ih0, ih1, ih2⟩ := hawalalaw14_SagaMost.mono_l k
    refine ⟨?_, ?_, ?_⟩
    · intro y0 y1 y2 y3 y4 y5 y6 y7 y8 y9 y10
      unfold hawalalaw14_SagaMost.j2
      repeat' first
      | (with_reducible exact ih0 _ _ _ _ _ _ _ _ _ _ _)
      | (with_reducible exact ih1 _ _ _ _ _ _ _ _ _ _ _ _ _ _)
      | (with_reducible exact ih2 _ _ _ _ _ _ _ _ _ _ _ _ _ _ _ _)
      | (with_reducible exact hawalalaw14_Make.mono _ _ _)
      | (with_reducible exact hawalalaw14_awake.mono _)
      | (with_reducible exact saga_Leg.mono _ _ _ _ _ _ _ _ _ _ _ _ _)
      | (with_reducible exact LeO.refl _)
      | (with_reducible exact LeO.none _)
      | (with_reducible refine LeO.ite ?_ ?_)
      | (with_reducible refine LeO.bind ?_ (fun _ => ?_))
      | exact ih0 _ _ _ _ _ _ _ _ _ _ _
      | exact ih1 _ _ _ _ _ _ _ _ _ _ _ _ _ _
      | exact ih2 _ _ _ _ _ _ _ _ _ _ _ _ _ _ _ _
      | exact hawalalaw14_Make.mono _ _ _
      | exact hawalalaw14_awake.mono _
      | exact saga_Leg.mono _ _ _ _ _ _ _ _ _ _ _ _ _
      | exact LeO.none _
      | refine LeO.ite ?_ ?_
      | refine LeO.bind ?_ (fun _ => ?_)
    · intro y0 y1 y2 y3 y4 y5 y6 y7 y8 y9 y10 y11 y12 y13
      unfold hawalalaw14_SagaMost.l0
      repeat' first
      | (with_reducible exact ih0 _ _ _ _ _ _ _ _ _ _ _)
      | (with_reducible exact ih1 _ _ _ _ _ _ _ _ _ _ _ _ _ _)
      | (with_reducible exact ih2 _ _ _ _ _ _ _ _ _ _ _ _ _ _ _ _)
      | (with_reducible exact hawalalaw14_Make.mono _ _ _)
      | (with_reducible exact hawalalaw14_awake.mono _)
      | (with_reducible exact saga_Leg.mono _ _ _ _ _ _ _ _ _ _ _ _ _)
      | (with_reducible exact LeO.refl _)
      | (with_reducible exact LeO.none _)
      | (with_reducible refine LeO.ite ?_ ?_)
      | (with_reducible refine LeO.bind ?_ (fun _ => ?_))
      | exact ih0 _ _ _ _ _ _ _ _ _ _ _
      | exact ih1 _ _ _ _ _ _ _ _ _ _ _ _ _ _
      | exact ih2 _ _ _ _ _ _ _ _ _ _ _ _ _ _ _ _
      | exact hawalalaw14_Make.mono _ _ _
      | exact hawalalaw14_awake.mono _
      | exact saga_Leg.mono _ _ _ _ _ _ _ _ _ _ _ _ _
      | exact LeO.none _
      | refine LeO.ite ?_ ?_
      | refine LeO.bind ?_ (fun _ => ?_)
    · intro y0 y1 y2 y3 y4 y5 y6 y7 y8 y9 y10 y11 y12 y13 y14 y15
      unfold hawalalaw14_SagaMost.j1
      repeat' first
      | (with_reducible exact ih0 _ _ _ _ _ _ _ _ _ _ _)
      | (with_reducible exact ih1 _ _ _ _ _ _ _ _ _ _ _ _ _ _)
      | (with_reducible exact ih2 _ _ _ _ _ _ _ _ _ _ _ _ _ _ _ _)
      | (with_reducible exact hawalalaw14_Make.mono _ _ _)
      | (with_reducible exact hawalalaw14_awake.mono _)
      | (with_reducible exact saga_Leg.mono _ _ _ _ _ _ _ _ _ _ _ _ _)
      | (with_reducible exact LeO.refl _)
      | (with_reducible exact LeO.none _)
      | (with_reducible refine LeO.ite ?_ ?_)
      | (with_reducible refine LeO.bind ?_ (fun _ => ?_))
      | exact ih0 _ _ _ _ _ _ _ _ _ _ _
      | exact ih1 _ _ _ _ _ _ _ _ _ _ _ _ _ _
      | exact ih2 _ _ _ _ _ _ _ _ _ _ _ _ _ _ _ _
      | exact hawalalaw14_Make.mono _ _ _
      | exact hawalalaw14_awake.mono _
      | exact saga_Leg.mono _ _ _ _ _ _ _ _ _ _ _ _ _
      | exact LeO.none _
      | refine LeO.ite ?_ ?_
      | refine LeO.bind ?_ (fun _ => ?_)
theorem hawalalaw14_SagaMost.mono : ∀ a0 a1 a2 k, LeO (hawalalaw14_SagaMost.f k a0 a1 a2) (hawalalaw14_SagaMost.f (k + 1) a0 a1 a2) := by
  intro a0 a1 a2 k
  obtain ⟨ih0, ih1, ih2⟩ := hawalalaw14_SagaMost.mono_l k
  unfold hawalalaw14_SagaMost.f
  repeat' first
      | (with_reducible exact ih0 _ _ _ _ _ _ _ _ _ _ _)
      | (with_reducible exact ih1 _ _ _ _ _ _ _ _ _ _ _ _ _ _)
      | (with_reducible exact ih2 _ _ _ _ _ _ _ _ _ _ _ _ _ _ _ _)
      | (with_reducible exact hawalalaw14_Make.mono _ _ _)
      | (with_reducible exact hawalalaw14_awake.mono _)
      | (with_reducible exact saga_Leg.mono _ _ _ _ _ _ _ _ _ _ _ _ _)
      | (with_reducible exact LeO.refl _)
      | (with_reducible exact LeO.none _)
      | (with_reducible refine LeO.ite ?_ ?_)
      | (with_reducible refine LeO.bind ?_ (fun _ => ?_))
      | exact ih0 _ _ _ _ _ _ _ _ _ _ _
      | exact ih1 _ _ _ _ _ _ _ _ _ _ _ _ _ _
      | exact ih2 _ _ _ _ _ _ _ _ _ _ _ _ _ _ _ _
      | exact hawalalaw14_Make.mono _ _ _
      | exact hawalalaw14_awake.mono _
      | exact saga_Leg.mono _ _ _ _ _ _ _ _ _ _ _ _ _
      | exact LeO.none _
      | refine LeO.ite ?_ ?_
      | refine LeO.bind ?_ (fun _ => ?_)
def hawalalaw14_SagaMost.T9 : Bool × List (List Nat × List Nat) := (true, [([], []), ([0], [0]), ([], []), ([2, 1], [2]), ([1, 3], [1, 3]), ([4, 3], [4]), ([5], [5]), ([6, 5, 5], [5, 6]), ([7, 5], [5, 7]), ([5, 8], [5, 8])])
def hawalalaw14_SagaMost.B9 : List Nat := [0, 1, 0, 7, 15, 31, 63, 127, 255, 511]
theorem hawalalaw14_SagaMost.tab9 : rtab .any (opsOf Try.f6 9) = hawalalaw14_SagaMost.T9 := by kernel_rfl
theorem hawalalaw14_SagaMost.bits9 : waitsOk hawalalaw14_SagaMost.T9.2 hawalalaw14_SagaMost.B9 = true := by kernel_rfl
set_option maxHeartbeats 8000000 in
set_option maxRecDepth 100000 in
theorem hawalalaw14_SagaMost.calls (k : Nat) (a0 : Int) (A1 : Option Addr) (c1 : Nat) (l1 : List Bool) (A2 : Option Addr) (c2 : Nat) (l2 : List Bool) (r : Bool) (w : World) (hr1 : Kd.C Kd.bool w A1 l1.length l1) (hc1 : l1.length ≤ c1) (hr2 : Kd.C Kd.bool w A2 l2.length l2) (hc2 : l2.length ≤ c2) (h : hawalalaw14_SagaMost.f k a0 l1 l2 = some r) :
    Calls Try.prog 6 #[.int .u8 a0, .slice A1 l1.length c1, .slice A2 l2.length c2] w fun e w' => e = .returned (.bool r) ∧ Below w.heap.size w w' := by
  have hu30 := Try.underlying30
  have HR1 := Aside0.mk hr1
  have HC1 := Aside0.mk hc1
  clear hr1 hc1
  have HR2 := Aside0.mk hr2
  have HC2 := Aside0.mk hc2
  clear hr2 hc2
  have HB := Aside0.mk (Below.refl w.heap.size w)
  have H : ((hawalalaw14_awake.f k).bind fun t305 => (if t305 = true then ((hawalalaw14_Make.f k a0 l1).bind fun bt306 => (hawalalaw14_SagaMost.l0 k l2 (l2.length : Int) 0 bt306.1 bt306.2.1 bt306.2.2.1 bt306.2.2.2.1 bt306.2.2.2.2.1 bt306.2.2.2.2.2.1 bt306.2.2.2.2.2.2.1 bt306.2.2.2.2.2.2.2.1 bt306.2.2.2.2.2.2.2.2.1 bt306.2.2.2.2.2.2.2.2.2.1 bt306.2.2.2.2.2.2.2.2.2.2)) else (some false))) = some r := h
  clear h
  replace H := Option.bind_eq_some_iff.mp H
  obtain ⟨t305, A40, H⟩ := H
  replace H : (if t305 = true then ((hawalalaw14_Make.f k a0 l1).bind fun bt306 => (hawalalaw14_SagaMost.l0 k l2 (l2.length : Int) 0 bt306.1 bt306.2.1 bt306.2.2.1 bt306.2.2.2.1 bt306.2.2.2.2.1 bt306.2.2.2.2.2.1 bt306.2.2.2.2.2.2.1 bt306.2.2.2.2.2.2.2.1 bt306.2.2.2.2.2.2.2.2.1 bt306.2.2.2.2.2.2.2.2.2.1 bt306.2.2.2.2.2.2.2.2.2.2)) else (some false)) = some r := H
  have A4 := Aside0.mk A40
  clear A40
  by_cases c5 : t305 = true
  · subst c5
    have H1 : ((hawalalaw14_Make.f k a0 l1).bind fun bt306 => (hawalalaw14_SagaMost.l0 k l2 (l2.length : Int) 0 bt306.1 bt306.2.1 bt306.2.2.1 bt306.2.2.2.1 bt306.2.2.2.2.1 bt306.2.2.2.2.2.1 bt306.2.2.2.2.2.2.1 bt306.2.2.2.2.2.2.2.1 bt306.2.2.2.2.2.2.2.2.1 bt306.2.2.2.2.2.2.2.2.2.1 bt306.2.2.2.2.2.2.2.2.2.2)) = some r := by rw [if_pos rfl] at H; exact H
    clear H
    have H := H1
    clear H1
    replace H := Option.bind_eq_some_iff.mp H
    obtain ⟨⟨t306, t307, t308, t309, t310, t311, t312, t313, t314, t315, t316⟩, A60, H⟩ := H
    replace H : (hawalalaw14_SagaMost.l0 k l2 (l2.length : Int) 0 t306 t307 t308 t309 t310 t311 t312 t313 t314 t315 t316) = some r := H
    have A6 := Aside0.mk A60
    clear A60
    have HC7 := Aside0.mk H
    clear H
    go_enter Try.func6, Try.ntmps6
    go_upto_block 0 with (first | ((with_reducible refine gate_callee (f := 7) rfl ?_); refine goesL_ (some 11) rfl rfl Try.func7 (by kernel_rfl) rfl #[] rfl (by (try simp only [List.map_toArray, List.map_cons, List.map_nil]); first | done | rfl | (simp only [List.length_drop, List.length_take]; rfl)) ?_; (with_reducible refine (hawalalaw14_awake.calls k  true _ A4.out).mono ?_); rintro e w8 ⟨rfl, hb⟩; refine ⟨_, rfl, ?_⟩; have n0_ := Aside0.mk (below_step (by repeat (first | (with_reducible first | exact HB.out | apply below_alloc | apply pw_below_drewN | apply below_drew1) | exact HB.out)) hb); clear HB; have HB := n0_; clear n0_; (try clear hb); (try clear hb2); (try clear hk); (try clear hi)) | ((with_reducible refine gate_callee (f := 15) rfl ?_); refine goesL_ (some 15) rfl rfl Try.func15 (by kernel_rfl) rfl #[.int .u8 a0, .slice A1 l1.length c1] rfl (by (try simp only [List.map_toArray, List.map_cons, List.map_nil]); first | done | rfl | (simp only [List.length_drop, List.length_take]; rfl)) ?_; (with_reducible refine (hawalalaw14_Make.calls k a0 _ _ l1 t306 t307 t308 t309 t310 t311 t312 t313 t314 t315 t316 _ ?side1 ?side2 A6.out).mono ?_); (case side1 => repeat (first | exact (Kd.C_below HR1.out HB.out) | (with_reducible refine Kd.C_alloc ?_ _) | (with_reducible refine Kd.C_drewN ?_ _) | (with_reducible refine Kd.C_drew ?_))); (case side2 => exact HC1.out); rintro e w9 ⟨rfl, hb⟩; refine ⟨_, rfl, ?_⟩; have n0_ := Aside0.mk (below_step (by repeat (first | (with_reducible first | exact HB.out | apply below_alloc | apply pw_below_drewN | apply below_drew1) | exact HB.out)) hb); clear HB; have HB := n0_; clear n0_; (try clear hb); (try clear hb2); (try clear hk); (try clear hi)) | ((with_reducible refine gate_dst (N := 7) rfl ?_); refine box_event ?hg (N := 7) ?hd (cs := #[.int .i64 0, .int .i64 0, .int .i64 0, .int .i64 0, .int .i64 0, .int .i64 0, .int .i64 0, .int .i64 0, .int .i64 0, .int .i64 0, .int .i64 0]) (t := 30) ?hr ?_; (case hd => rfl); (case hg => rfl); (case hr => first | (go_simp; done) | (go_simp; rfl)); intro gb317 hg w10 hbox hb; have n0_ := Aside0.mk (below_step (by repeat (first | (with_reducible first | exact HB.out | apply below_alloc | apply pw_below_drewN | apply below_drew1) | exact HB.out)) hb); have n1_ := Aside0.mk (hbox); have n2_ := Aside0.mk ((by rw [hg]; exact (below_size (by repeat (first | (with_reducible first | exact HB.out | apply below_alloc | apply pw_below_drewN | apply below_drew1) | exact HB.out))) : w.heap.size ≤ gb317)); have n3_ := Aside0.mk ((by rw [hg]; exact (below_size (by repeat (first | (with_reducible first | exact HB.out | apply below_alloc | apply pw_below_drewN | apply below_drew1) | exact HB.out))) : w.heap.size ≤ gb317)); clear HB; have HB := n0_; have BK317 := n1_; have GW317 := n2_; have GE317 := n3_; clear n0_ n1_ n2_ n3_; clear hb hbox hg; have hcz11_0 : w10.cell? ⟨gb317, 0, none⟩ = some (.int .i64 0) := (blk_cell BK317.out 0).trans rfl; have hcz11_1 : w10.cell? ⟨gb317, 1, none⟩ = some (.int .i64 0) := (blk_cell BK317.out 1).trans rfl; have hcz11_2 : w10.cell? ⟨gb317, 2, none⟩ = some (.int .i64 0) := (blk_cell BK317.out 2).trans rfl; have hcz11_3 : w10.cell? ⟨gb317, 3, none⟩ = some (.int .i64 0) := (blk_cell BK317.out 3).trans rfl; have hcz11_4 : w10.cell? ⟨gb317, 4, none⟩ = some (.int .i64 0) := (blk_cell BK317.out 4).trans rfl; have hcz11_5 : w10.cell? ⟨gb317, 5, none⟩ = some (.int .i64 0) := (blk_cell BK317.out 5).trans rfl; have hcz11_6 : w10.cell? ⟨gb317, 6, none⟩ = some (.int .i64 0) := (blk_cell BK317.out 6).trans rfl; have hcz11_7 : w10.cell? ⟨gb317, 7, none⟩ = some (.int .i64 0) := (blk_cell BK317.out 7).trans rfl; have hcz11_8 : w10.cell? ⟨gb317, 8, none⟩ = some (.int .i64 0) := (blk_cell BK317.out 8).trans rfl; have hcz11_9 : w10.cell? ⟨gb317, 9, none⟩ = some (.int .i64 0) := (blk_cell BK317.out 9).trans rfl; have hcz11_10 : w10.cell? ⟨gb317, 10, none⟩ = some (.int .i64 0) := (blk_cell BK317.out 10).trans rfl; have hfz11_0 := blk_frozen BK317.out 0; have hfz11_1 := blk_frozen BK317.out 1; have hfz11_2 := blk_frozen BK317.out 2; have hfz11_3 := blk_frozen BK317.out 3; have hfz11_4 := blk_frozen BK317.out 4; have hfz11_5 := blk_frozen BK317.out 5; have hfz11_6 := blk_frozen BK317.out 6; have hfz11_7 := blk_frozen BK317.out 7; have hfz11_8 := blk_frozen BK317.out 8; have hfz11_9 := blk_frozen BK317.out 9; have hfz11_10 := blk_frozen BK317.out 10))
    (try simp only [Act.put, List.setIfInBounds_toArray, List.set_cons_zero, List.set_cons_succ])
    go_cut [] (fun wc => ∃ (kq : Nat) (x318000_6 : Int) (x318001_6 : Int) (x318002_6 : Int) (x318003_6 : Int) (x318004_6 : Int) (x318005_6 : Int) (x318006_6 : Int) (x318007_6 : Int) (x318008_6 : Int) (x318009_6 : Int) (x318010_6 : Int), Aside0 (hawalalaw14_SagaMost.j2 kq x318000_6 x318001_6 x318002_6 x318003_6 x318004_6 x318005_6 x318006_6 x318007_6 x318008_6 x318009_6 x318010_6 = some r) ∧ Aside0 (kq ≤ k) ∧ Aside0 (wc.heap[gb317]? = some (.cells #[.int .i64 x318000_6, .int .i64 x318001_6, .int .i64 x318002_6, .int .i64 x318003_6, .int .i64 x318004_6, .int .i64 x318005_6, .int .i64 x318006_6, .int .i64 x318007_6, .int .i64 x318008_6, .int .i64 x318009_6, .int .i64 x318010_6] 30 (0, 0))) ∧ Aside0 (Below w.heap.size w wc))
    case first =>
      have H := HC7.out
      clear HC7
      have H' := Aside0.mk H
      clear H
      go_wp2
      go_loopg [18] k (fun kq v18 w' => ∃ (x18_1 : Int) (x318000_1 : Int) (x318001_1 : Int) (x318002_1 : Int) (x318003_1 : Int) (x318004_1 : Int) (x318005_1 : Int) (x318006_1 : Int) (x318007_1 : Int) (x318008_1 : Int) (x318009_1 : Int) (x318010_1 : Int), v18 = .int .i64 x18_1 ∧ Aside0 (hawalalaw14_SagaMost.l0 kq l2 (l2.length : Int) x18_1 x318000_1 x318001_1 x318002_1 x318003_1 x318004_1 x318005_1 x318006_1 x318007_1 x318008_1 x318009_1 x318010_1 = some r) ∧ Aside0 (kq ≤ k) ∧ Aside0 (w'.heap[gb317]? = some (.cells #[.int .i64 x318000_1, .int .i64 x318001_1, .int .i64 x318002_1, .int .i64 x318003_1, .int .i64 x318004_1, .int .i64 x318005_1, .int .i64 x318006_1, .int .i64 x318007_1, .int .i64 x318008_1, .int .i64 x318009_1, .int .i64 x318010_1] 30 (0, 0))) ∧ Aside0 (Below w.heap.size w w'))
      case atStart => exact ⟨(0), (t306), (t307), (t308), (t309), (t310), (t311), (t312), (t313), (t314), (t315), (t316), (by first | rfl | (simp; done) | (simp [*]; done)), H', ⟨Nat.le_refl _⟩, ⟨by (with_reducible repeat (first | refine blk_drewN ?_ _ | refine blk_drew ?_ | refine blk_alloc ?_ _)); refine blk_put (cs := #[.int .i64 t306, .int .i64 t307, .int .i64 t308, .int .i64 t309, .int .i64 t310, .int .i64 t311, .int .i64 t312, .int .i64 t313, .int .i64 t314, .int .i64 t315, .int .i64 0]) ?_ 10 _ rfl; (with_reducible repeat (first | refine blk_drewN ?_ _ | refine blk_drew ?_ | refine blk_alloc ?_ _)); refine blk_put (cs := #[.int .i64 t306, .int .i64 t307, .int .i64 t308, .int .i64 t309, .int .i64 t310, .int .i64 t311, .int .i64 t312, .int .i64 t313, .int .i64 t314, .int .i64 0, .int .i64 0]) ?_ 9 _ rfl; (with_reducible repeat (first | refine blk_drewN ?_ _ | refine blk_drew ?_ | refine blk_alloc ?_ _)); refine blk_put (cs := #[.int .i64 t306, .int .i64 t307, .int .i64 t308, .int .i64 t309, .int .i64 t310, .int .i64 t311, .int .i64 t312, .int .i64 t313, .int .i64 0, .int .i64 0, .int .i64 0]) ?_ 8 _ rfl; (with_reducible repeat (first | refine blk_drewN ?_ _ | refine blk_drew ?_ | refine blk_alloc ?_ _)); refine blk_put (cs := #[.int .i64 t306, .int .i64 t307, .int .i64 t308, .int .i64 t309, .int .i64 t310, .int .i64 t311, .int .i64 t312, .int .i64 0, .int .i64 0, .int .i64 0, .int .i64 0]) ?_ 7 _ rfl; (with_reducible repeat (first | refine blk_drewN ?_ _ | refine blk_drew ?_ | refine blk_alloc ?_ _)); refine blk_put (cs := #[.int .i64 t306, .int .i64 t307, .int .i64 t308, .int .i64 t309, .int .i64 t310, .int .i64 t311, .int .i64 0, .int .i64 0, .int .i64 0, .int .i64 0, .int .i64 0]) ?_ 6 _ rfl; (with_reducible repeat (first | refine blk_drewN ?_ _ | refine blk_drew ?_ | refine blk_alloc ?_ _)); refine blk_put (cs := #[.int .i64 t306, .int .i64 t307, .int .i64 t308, .int .i64 t309, .int .i64 t310, .int .i64 0, .int .i64 0, .int .i64 0, .int .i64 0, .int .i64 0, .int .i64 0]) ?_ 5 _ rfl; (with_reducible repeat (first | refine blk_drewN ?_ _ | refine blk_drew ?_ | refine blk_alloc ?_ _)); refine blk_put (cs := #[.int .i64 t306, .int .i64 t307, .int .i64 t308, .int .i64 t309, .int .i64 0, .int .i64 0, .int .i64 0, .int .i64 0, .int .i64 0, .int .i64 0, .int .i64 0]) ?_ 4 _ rfl; (with_reducible repeat (first | refine blk_drewN ?_ _ | refine blk_drew ?_ | refine blk_alloc ?_ _)); refine blk_put (cs := #[.int .i64 t306, .int .i64 t307, .int .i64 t308, .int .i64 0, .int .i64 0, .int .i64 0, .int .i64 0, .int .i64 0, .int .i64 0, .int .i64 0, .int .i64 0]) ?_ 3 _ rfl; (with_reducible repeat (first | refine blk_drewN ?_ _ | refine blk_drew ?_ | refine blk_alloc ?_ _)); refine blk_put (cs := #[.int .i64 t306, .int .i64 t307, .int .i64 0, .int .i64 0, .int .i64 0, .int .i64 0, .int .i64 0, .int .i64 0, .int .i64 0, .int .i64 0, .int .i64 0]) ?_ 2 _ rfl; (with_reducible repeat (first | refine blk_drewN ?_ _ | refine blk_drew ?_ | refine blk_alloc ?_ _)); refine blk_put (cs := #[.int .i64 t306, .int .i64 0, .int .i64 0, .int .i64 0, .int .i64 0, .int .i64 0, .int .i64 0, .int .i64 0, .int .i64 0, .int .i64 0, .int .i64 0]) ?_ 1 _ rfl; (with_reducible repeat (first | refine blk_drewN ?_ _ | refine blk_drew ?_ | refine blk_alloc ?_ _)); refine blk_put (cs := #[.int .i64 0, .int .i64 0, .int .i64 0, .int .i64 0, .int .i64 0, .int .i64 0, .int .i64 0, .int .i64 0, .int .i64 0, .int .i64 0, .int .i64 0]) ?_ 0 _ rfl; (with_reducible repeat (first | refine blk_drewN ?_ _ | refine blk_drew ?_ | refine blk_alloc ?_ _)); exact BK317.out⟩, ⟨by repeat (first | (with_reducible first | exact HB.out | apply below_alloc | apply pw_below_drewN | apply below_drew1 | refine below_set ?_ GE317.out) | exact HB.out)⟩⟩
      case round =>
        clear H'
        try clear c1
        try clear c2
        try clear p2
        try clear c5
        try clear c6
        try clear c7
        try clear hcz11_0
        try clear hcz11_1
        try clear hcz11_10
        try clear hcz11_2
        try clear hcz11_3
        try clear hcz11_4
        try clear hcz11_5
        try clear hcz11_6
        try clear hcz11_7
        try clear hcz11_8
        try clear hcz11_9
        try clear hfz11_0
        try clear hfz11_1
        try clear hfz11_10
        try clear hfz11_2
        try clear hfz11_3
        try clear hfz11_4
        try clear hfz11_5
        try clear hfz11_6
        try clear hfz11_7
        try clear hfz11_8
        try clear hfz11_9
        obtain ⟨x18_1, x318000_1, x318001_1, x318002_1, x318003_1, x318004_1, x318005_1, x318006_1, x318007_1, x318008_1, x318009_1, x318010_1, rfl, HA, HK1, BK317, HB⟩ := hrel
        cases gk with
        | zero => exact absurd HA.out (by simp [hawalalaw14_SagaMost.l0])
        | succ k1 =>
          have H := HA.out
          clear HA
          simp only [hawalalaw14_SagaMost.l0] at H
          by_cases c12 : x18_1 < (l2.length : Int)
          · rw [if_pos c12] at H
            have c12b0 : decide (x18_1 < (l2.length : Int)) = true := decide_eq_true c12
            clear c12
            (first | rw [c12b0] | (simp only [i64_w, i32_w]; rw [c12b0]) | skip)
            by_cases c13 : 0 ≤ x18_1
            · rw [if_pos c13] at H
              have c13b0 : decide (0 ≤ x18_1) = true := decide_eq_true c13
              clear c13
              by_cases c14 : x18_1 < (l2.length : Int)
              · rw [if_pos c14] at H
                have c14b0 : decide (x18_1 < (l2.length : Int)) = true := decide_eq_true c14
                clear c14
                have HC15 := Aside0.mk H
                clear H
                have p318 : 0 ≤ (x18_1 : Int) := of_decide_eq_true (by first | (with_reducible assumption) | assumption)
                have q318 : x18_1 < (l2.length : Int) := of_decide_eq_true (by first | (with_reducible assumption) | assumption)
                obtain ⟨ad318, e318, hx318_0⟩ := Kd.at_bool HR2.out x18_1 p318 q318
                cases e318
                replace hx318_0 := (HB.out.cell (World.block_lt_of_cell? w _ hx318_0)).trans hx318_0
                replace p318 := eq_true p318
                replace q318 := eq_true q318
                go_upto_region 7 with (fail)
                go_cut [28] (fun v28 wc => ∃ (kq : Nat) (x28_14 : Bool), v28 = .bool x28_14 ∧ Aside0 (hawalalaw14_SagaMost.j1 kq (rdOf false l2 x18_1) l2 (l2.length : Int) x18_1 x28_14 x318000_1 x318001_1 x318002_1 x318003_1 x318004_1 x318005_1 x318006_1 x318007_1 x318008_1 x318009_1 x318010_1 = some r) ∧ Aside0 (kq ≤ k1) ∧ Aside0 (wc.heap[gb317]? = some (.cells #[.int .i64 x318000_1, .int .i64 x318001_1, .int .i64 x318002_1, .int .i64 x318003_1, .int .i64 x318004_1, .int .i64 x318005_1, .int .i64 x318006_1, .int .i64 x318007_1, .int .i64 x318008_1, .int .i64 x318009_1, .int .i64 x318010_1] 30 (0, 0))) ∧ Aside0 (Below w.heap.size w wc))
                case first =>
                  have H := HC15.out
                  clear HC15
                  by_cases c16 : x318007_1 = 0
                  · rw [if_pos c16] at H
                    have c16b0 : (x318007_1 == 0) = true := beq_iff_eq.mpr c16
                    have c16b1 : (x318007_1 != 0) = false := bne_eq_false_iff_eq.mpr c16
                    clear c16
                    (first | rw [c16b0] | (simp only [i64_w, i32_w]; rw [c16b0]) | skip)
                    replace H := Option.bind_eq_some_iff.mp H
                    obtain ⟨t319, A170, H⟩ := H
                    replace H : (hawalalaw14_SagaMost.j1 k1 (rdOf false l2 x18_1) l2 (l2.length : Int) x18_1 t319 x318000_1 x318001_1 x318002_1 x318003_1 x318004_1 x318005_1 x318006_1 x318007_1 x318008_1 x318009_1 x318010_1) = some r := H
                    have A17 := Aside0.mk A170
                    clear A170
                    have H' := Aside0.mk H
                    clear H
                    have hcz18_0 : wr.cell? ⟨gb317, 0, none⟩ = some (.int .i64 x318000_1) := (blk_cell BK317.out 0).trans rfl
                    have hcz18_1 : wr.cell? ⟨gb317, 1, none⟩ = some (.int .i64 x318001_1) := (blk_cell BK317.out 1).trans rfl
                    have hcz18_2 : wr.cell? ⟨gb317, 2, none⟩ = some (.int .i64 x318002_1) := (blk_cell BK317.out 2).trans rfl
                    have hcz18_3 : wr.cell? ⟨gb317, 3, none⟩ = some (.int .i64 x318003_1) := (blk_cell BK317.out 3).trans rfl
                    have hcz18_4 : wr.cell? ⟨gb317, 4, none⟩ = some (.int .i64 x318004_1) := (blk_cell BK317.out 4).trans rfl
                    have hcz18_5 : wr.cell? ⟨gb317, 5, none⟩ = some (.int .i64 x318005_1) := (blk_cell BK317.out 5).trans rfl
                    have hcz18_6 : wr.cell? ⟨gb317, 6, none⟩ = some (.int .i64 x318006_1) := (blk_cell BK317.out 6).trans rfl
                    have hcz18_7 : wr.cell? ⟨gb317, 7, none⟩ = some (.int .i64 x318007_1) := (blk_cell BK317.out 7).trans rfl
                    have hcz18_8 : wr.cell? ⟨gb317, 8, none⟩ = some (.int .i64 x318008_1) := (blk_cell BK317.out 8).trans rfl
                    have hcz18_9 : wr.cell? ⟨gb317, 9, none⟩ = some (.int .i64 x318009_1) := (blk_cell BK317.out 9).trans rfl
                    have hcz18_10 : wr.cell? ⟨gb317, 10, none⟩ = some (.int .i64 x318010_1) := (blk_cell BK317.out 10).trans rfl
                    have hfz18_0 := blk_frozen BK317.out 0
                    have hfz18_1 := blk_frozen BK317.out 1
                    have hfz18_2 := blk_frozen BK317.out 2
                    have hfz18_3 := blk_frozen BK317.out 3
                    have hfz18_4 := blk_frozen BK317.out 4
                    have hfz18_5 := blk_frozen BK317.out 5
                    have hfz18_6 := blk_frozen BK317.out 6
                    have hfz18_7 := blk_frozen BK317.out 7
                    have hfz18_8 := blk_frozen BK317.out 8
                    have hfz18_9 := blk_frozen BK317.out 9
                    have hfz18_10 := blk_frozen BK317.out 10
                    go_wp2_with (first | (go_at_call 9; (with_reducible refine (saga_Ready.calls x318000_1 x318001_1 x318002_1 x318003_1 x318004_1 x318005_1 x318006_1 x318007_1 x318008_1 x318009_1 x318010_1 t319 _ A17.out).mono ?_); rintro e w19 ⟨rfl, hb⟩; have n0_ := Aside0.mk (blk_below (g := gb317) (o := .cells #[.int .i64 x318000_1, .int .i64 x318001_1, .int .i64 x318002_1, .int .i64 x318003_1, .int .i64 x318004_1, .int .i64 x318005_1, .int .i64 x318006_1, .int .i64 x318007_1, .int .i64 x318008_1, .int .i64 x318009_1, .int .i64 x318010_1] 30 (0, 0)) (by (with_reducible repeat (first | refine blk_drewN ?_ _ | refine blk_drew ?_ | refine blk_alloc ?_ _)); exact BK317.out) hb); have n1_ := Aside0.mk (below_step (by repeat (first | (with_reducible first | exact HB.out | apply below_alloc | apply pw_below_drewN | apply below_drew1 | refine below_set ?_ GE317.out) | exact HB.out)) hb); clear BK317; clear HB; have BK317 := n0_; have HB := n1_; clear n0_ n1_; (try clear hb); (try clear hb2); (try clear hk); (try clear hi)))
                    go_meet
                    case rel => exact ⟨_, (t319), (by first | rfl | (simp; done) | (simp [*]; done)), H', ⟨by have := HK1.out; first | omega | exact Nat.le_refl _⟩, ⟨by (with_reducible repeat (first | refine blk_drewN ?_ _ | refine blk_drew ?_ | refine blk_alloc ?_ _)); exact BK317.out⟩, ⟨by repeat (first | (with_reducible first | exact HB.out | apply below_alloc | apply pw_below_drewN | apply below_drew1 | refine below_set ?_ GE317.out) | exact HB.out)⟩⟩
                  · rw [if_neg c16] at H
                    have c16b0 : (x318007_1 == 0) = false := beq_eq_false_iff_ne.mpr c16
                    have c16b1 : (x318007_1 != 0) = true := bne_iff_ne.mpr c16
                    (first | rw [c16b0] | (simp only [i64_w, i32_w]; rw [c16b0]) | skip)
                    have H' := Aside0.mk H
                    clear H
                    have hcz20_0 : wr.cell? ⟨gb317, 0, none⟩ = some (.int .i64 x318000_1) := (blk_cell BK317.out 0).trans rfl
                    have hcz20_1 : wr.cell? ⟨gb317, 1, none⟩ = some (.int .i64 x318001_1) := (blk_cell BK317.out 1).trans rfl
                    have hcz20_2 : wr.cell? ⟨gb317, 2, none⟩ = some (.int .i64 x318002_1) := (blk_cell BK317.out 2).trans rfl
                    have hcz20_3 : wr.cell? ⟨gb317, 3, none⟩ = some (.int .i64 x318003_1) := (blk_cell BK317.out 3).trans rfl
                    have hcz20_4 : wr.cell? ⟨gb317, 4, none⟩ = some (.int .i64 x318004_1) := (blk_cell BK317.out 4).trans rfl
                    have hcz20_5 : wr.cell? ⟨gb317, 5, none⟩ = some (.int .i64 x318005_1) := (blk_cell BK317.out 5).trans rfl
                    have hcz20_6 : wr.cell? ⟨gb317, 6, none⟩ = some (.int .i64 x318006_1) := (blk_cell BK317.out 6).trans rfl
                    have hcz20_7 : wr.cell? ⟨gb317, 7, none⟩ = some (.int .i64 x318007_1) := (blk_cell BK317.out 7).trans rfl
                    have hcz20_8 : wr.cell? ⟨gb317, 8, none⟩ = some (.int .i64 x318008_1) := (blk_cell BK317.out 8).trans rfl
                    have hcz20_9 : wr.cell? ⟨gb317, 9, none⟩ = some (.int .i64 x318009_1) := (blk_cell BK317.out 9).trans rfl
                    have hcz20_10 : wr.cell? ⟨gb317, 10, none⟩ = some (.int .i64 x318010_1) := (blk_cell BK317.out 10).trans rfl
                    have hfz20_0 := blk_frozen BK317.out 0
                    have hfz20_1 := blk_frozen BK317.out 1
                    have hfz20_2 := blk_frozen BK317.out 2
                    have hfz20_3 := blk_frozen BK317.out 3
                    have hfz20_4 := blk_frozen BK317.out 4
                    have hfz20_5 := blk_frozen BK317.out 5
                    have hfz20_6 := blk_frozen BK317.out 6
                    have hfz20_7 := blk_frozen BK317.out 7
                    have hfz20_8 := blk_frozen BK317.out 8
                    have hfz20_9 := blk_frozen BK317.out 9
                    have hfz20_10 := blk_frozen BK317.out 10
                    go_wp2
                    go_meet
                    case rel => exact ⟨_, (true), (by first | rfl | (simp; done) | (simp [*]; done)), H', ⟨by have := HK1.out; first | omega | exact Nat.le_refl _⟩, ⟨by (with_reducible repeat (first | refine blk_drewN ?_ _ | refine blk_drew ?_ | refine blk_alloc ?_ _)); exact BK317.out⟩, ⟨by repeat (first | (with_reducible first | exact HB.out | apply below_alloc | apply pw_below_drewN | apply below_drew1 | refine below_set ?_ GE317.out) | exact HB.out)⟩⟩
                case rest =>
                  clear HC15
                  try clear c1
                  try clear c2
                  try clear p2
                  try clear p3
                  try clear q3
                  try clear hx3
                  try clear c5
                  try clear c6
                  try clear c7
                  try clear c12
                  try clear c12b0
                  try clear c13
                  try clear c13b0
                  try clear c14
                  try clear c14b0
                  try clear c15
                  try clear c16
                  try clear c16b0
                  try clear c16b1
                  try clear hcz11_0
                  try clear hcz11_1
                  try clear hcz11_10
                  try clear hcz11_2
                  try clear hcz11_3
                  try clear hcz11_4
                  try clear hcz11_5
                  try clear hcz11_6
                  try clear hcz11_7
                  try clear hcz11_8
                  try clear hcz11_9
                  try clear hcz18_0
                  try clear hcz18_1
                  try clear hcz18_10
                  try clear hcz18_2
                  try clear hcz18_3
                  try clear hcz18_4
                  try clear hcz18_5
                  try clear hcz18_6
                  try clear hcz18_7
                  try clear hcz18_8
                  try clear hcz18_9
                  try clear hcz20_0
                  try clear hcz20_1
                  try clear hcz20_10
                  try clear hcz20_2
                  try clear hcz20_3
                  try clear hcz20_4
                  try clear hcz20_5
                  try clear hcz20_6
                  try clear hcz20_7
                  try clear hcz20_8
                  try clear hcz20_9
                  try clear hfz11_0
                  try clear hfz11_1
                  try clear hfz11_10
                  try clear hfz11_2
                  try clear hfz11_3
                  try clear hfz11_4
                  try clear hfz11_5
                  try clear hfz11_6
                  try clear hfz11_7
                  try clear hfz11_8
                  try clear hfz11_9
                  try clear hfz18_0
                  try clear hfz18_1
                  try clear hfz18_10
                  try clear hfz18_2
                  try clear hfz18_3
                  try clear hfz18_4
                  try clear hfz18_5
                  try clear hfz18_6
                  try clear hfz18_7
                  try clear hfz18_8
                  try clear hfz18_9
                  try clear hfz20_0
                  try clear hfz20_1
                  try clear hfz20_10
                  try clear hfz20_2
                  try clear hfz20_3
                  try clear hfz20_4
                  try clear hfz20_5
                  try clear hfz20_6
                  try clear hfz20_7
                  try clear hfz20_8
                  try clear hfz20_9
                  try clear hx318_0
                  try clear p2
                  try clear p318
                  try clear q318
                  obtain ⟨kq, x28_14, rfl, HA, HJ14, BK317, HB⟩ := hcut
                  cases kq with
                  | zero => exact absurd HA.out (by simp [hawalalaw14_SagaMost.j1])
                  | succ kj14 =>
                    have H := HA.out
                    clear HA
                    simp only [hawalalaw14_SagaMost.j1] at H
                    by_cases c21 : x28_14 = true
                    · subst c21
                      have H1 : (hawalalaw14_SagaMost.j2 kj14 x318000_1 x318001_1 x318002_1 x318003_1 x318004_1 x318005_1 x318006_1 x318007_1 x318008_1 x318009_1 x318010_1) = some r := by rw [if_pos rfl] at H; exact H
                      clear H
                      have H := H1
                      clear H1
                      have H' := Aside0.mk H
                      clear H
                      go_wp2
                      go_meet
                      case rel => exact ⟨_, (x318000_1), (x318001_1), (x318002_1), (x318003_1), (x318004_1), (x318005_1), (x318006_1), (x318007_1), (x318008_1), (x318009_1), (x318010_1), H', ⟨by have := HK1.out; have := HJ14.out; first | omega | exact Nat.le_refl _⟩, ⟨by (with_reducible repeat (first | refine blk_drewN ?_ _ | refine blk_drew ?_ | refine blk_alloc ?_ _)); exact BK317.out⟩, ⟨by repeat (first | (with_reducible first | exact HB.out | apply below_alloc | apply pw_below_drewN | apply below_drew1 | refine below_set ?_ GE317.out) | exact HB.out)⟩⟩
                    · replace c21 := Bool.eq_false_iff.mpr c21
                      subst c21
                      have H1 : ((saga_Leg.f kj14 x318000_1 x318001_1 x318002_1 x318003_1 x318004_1 x318005_1 x318006_1 x318007_1 x318008_1 x318009_1 x318010_1 (rdOf false l2 x18_1)).bind fun bt320 => ((saga_Most.f bt320.1 bt320.2.1 bt320.2.2.1 bt320.2.2.2.1 bt320.2.2.2.2.1 bt320.2.2.2.2.2.1 bt320.2.2.2.2.2.2.1 bt320.2.2.2.2.2.2.2.1 bt320.2.2.2.2.2.2.2.2.1 bt320.2.2.2.2.2.2.2.2.2.1 bt320.2.2.2.2.2.2.2.2.2.2).bind fun t332 => ((saga_Most.f x318000_1 x318001_1 x318002_1 x318003_1 x318004_1 x318005_1 x318006_1 x318007_1 x318008_1 x318009_1 x318010_1).bind fun t333 => (if t332 ≥ t333 then (some false) else ((saga_Most.f bt320.1 bt320.2.1 bt320.2.2.1 bt320.2.2.2.1 bt320.2.2.2.2.1 bt320.2.2.2.2.2.1 bt320.2.2.2.2.2.2.1 bt320.2.2.2.2.2.2.2.1 bt320.2.2.2.2.2.2.2.2.1 bt320.2.2.2.2.2.2.2.2.2.1 bt320.2.2.2.2.2.2.2.2.2.2).bind fun t334 => (if t334 < 1 then (some false) else (hawalalaw14_SagaMost.l0 kj14 l2 (l2.length : Int) (wrap64 (x18_1 + 1)) bt320.1 bt320.2.1 bt320.2.2.1 bt320.2.2.2.1 bt320.2.2.2.2.1 bt320.2.2.2.2.2.1 bt320.2.2.2.2.2.2.1 bt320.2.2.2.2.2.2.2.1 bt320.2.2.2.2.2.2.2.2.1 bt320.2.2.2.2.2.2.2.2.2.1 bt320.2.2.2.2.2.2.2.2.2.2))))))) = some r := by rw [if_neg (show ¬ (false = true) by decide)] at H; exact H
                      clear H
                      have H := H1
                      clear H1
                      replace H := Option.bind_eq_some_iff.mp H
                      obtain ⟨⟨t320, t321, t322, t323, t324, t325, t326, t327, t328, t329, t330⟩, A220, H⟩ := H
                      replace H : ((saga_Most.f t320 t321 t322 t323 t324 t325 t326 t327 t328 t329 t330).bind fun t332 => ((saga_Most.f x318000_1 x318001_1 x318002_1 x318003_1 x318004_1 x318005_1 x318006_1 x318007_1 x318008_1 x318009_1 x318010_1).bind fun t333 => (if t332 ≥ t333 then (some false) else ((saga_Most.f t320 t321 t322 t323 t324 t325 t326 t327 t328 t329 t330).bind fun t334 => (if t334 < 1 then (some false) else (hawalalaw14_SagaMost.l0 kj14 l2 (l2.length : Int) (wrap64 (x18_1 + 1)) t320 t321 t322 t323 t324 t325 t326 t327 t328 t329 t330)))))) = some r := H
                      have A22 := Aside0.mk A220
                      clear A220
                      replace H := Option.bind_eq_some_iff.mp H
                      obtain ⟨t332, A230, H⟩ := H
                      replace H : ((saga_Most.f x318000_1 x318001_1 x318002_1 x318003_1 x318004_1 x318005_1 x318006_1 x318007_1 x318008_1 x318009_1 x318010_1).bind fun t333 => (if t332 ≥ t333 then (some false) else ((saga_Most.f t320 t321 t322 t323 t324 t325 t326 t327 t328 t329 t330).bind fun t334 => (if t334 < 1 then (some false) else (hawalalaw14_SagaMost.l0 kj14 l2 (l2.length : Int) (wrap64 (x18_1 + 1)) t320 t321 t322 t323 t324 t325 t326 t327 t328 t329 t330))))) = some r := H
                      have A23 := Aside0.mk A230
                      clear A230
                      replace H := Option.bind_eq_some_iff.mp H
                      obtain ⟨t333, A240, H⟩ := H
                      replace H : (if t332 ≥ t333 then (some false) else ((saga_Most.f t320 t321 t322 t323 t324 t325 t326 t327 t328 t329 t330).bind fun t334 => (if t334 < 1 then (some false) else (hawalalaw14_SagaMost.l0 kj14 l2 (l2.length : Int) (wrap64 (x18_1 + 1)) t320 t321 t322 t323 t324 t325 t326 t327 t328 t329 t330)))) = some r := H
                      have A24 := Aside0.mk A240
                      clear A240
                      by_cases c25 : t332 ≥ t333
                      · rw [if_pos c25] at H
                        have c25b0 : decide (t333 ≤ t332) = true := decide_eq_true c25
                        clear c25
                        obtain rfl := Option.some.inj H
                        have hcz26_0 : wc.cell? ⟨gb317, 0, none⟩ = some (.int .i64 x318000_1) := (blk_cell BK317.out 0).trans rfl
                        have hcz26_1 : wc.cell? ⟨gb317, 1, none⟩ = some (.int .i64 x318001_1) := (blk_cell BK317.out 1).trans rfl
                        have hcz26_2 : wc.cell? ⟨gb317, 2, none⟩ = some (.int .i64 x318002_1) := (blk_cell BK317.out 2).trans rfl
                        have hcz26_3 : wc.cell? ⟨gb317, 3, none⟩ = some (.int .i64 x318003_1) := (blk_cell BK317.out 3).trans rfl
                        have hcz26_4 : wc.cell? ⟨gb317, 4, none⟩ = some (.int .i64 x318004_1) := (blk_cell BK317.out 4).trans rfl
                        have hcz26_5 : wc.cell? ⟨gb317, 5, none⟩ = some (.int .i64 x318005_1) := (blk_cell BK317.out 5).trans rfl
                        have hcz26_6 : wc.cell? ⟨gb317, 6, none⟩ = some (.int .i64 x318006_1) := (blk_cell BK317.out 6).trans rfl
                        have hcz26_7 : wc.cell? ⟨gb317, 7, none⟩ = some (.int .i64 x318007_1) := (blk_cell BK317.out 7).trans rfl
                        have hcz26_8 : wc.cell? ⟨gb317, 8, none⟩ = some (.int .i64 x318008_1) := (blk_cell BK317.out 8).trans rfl
                        have hcz26_9 : wc.cell? ⟨gb317, 9, none⟩ = some (.int .i64 x318009_1) := (blk_cell BK317.out 9).trans rfl
                        have hcz26_10 : wc.cell? ⟨gb317, 10, none⟩ = some (.int .i64 x318010_1) := (blk_cell BK317.out 10).trans rfl
                        have hfz26_0 := blk_frozen BK317.out 0
                        have hfz26_1 := blk_frozen BK317.out 1
                        have hfz26_2 := blk_frozen BK317.out 2
                        have hfz26_3 := blk_frozen BK317.out 3
                        have hfz26_4 := blk_frozen BK317.out 4
                        have hfz26_5 := blk_frozen BK317.out 5
                        have hfz26_6 := blk_frozen BK317.out 6
                        have hfz26_7 := blk_frozen BK317.out 7
                        have hfz26_8 := blk_frozen BK317.out 8
                        have hfz26_9 := blk_frozen BK317.out 9
                        have hfz26_10 := blk_frozen BK317.out 10
                        try go_wp2_with (first | ((with_reducible refine gate_callee (f := 10) rfl ?_); refine goesL_ (some 31) rfl rfl Try.func10 (by kernel_rfl) rfl #[.agg #[.int .i64 x318000_1, .int .i64 x318001_1, .int .i64 x318002_1, .int .i64 x318003_1, .int .i64 x318004_1, .int .i64 x318005_1, .int .i64 x318006_1, .int .i64 x318007_1, .int .i64 x318008_1, .int .i64 x318009_1, .int .i64 x318010_1], .bool (rdOf false l2 x18_1)] rfl (by (try simp only [List.map_toArray, List.map_cons, List.map_nil]); first | done | rfl | (simp only [List.length_drop, List.length_take]; rfl)) ?_; (with_reducible refine (saga_Leg.calls kj14 x318000_1 x318001_1 x318002_1 x318003_1 x318004_1 x318005_1 x318006_1 x318007_1 x318008_1 x318009_1 x318010_1 (rdOf false l2 x18_1) t320 t321 t322 t323 t324 t325 t326 t327 t328 t329 t330 _ A22.out).mono ?_); rintro e w27 ⟨rfl, hb⟩; refine ⟨_, rfl, ?_⟩; have n0_ := Aside0.mk (blk_below (g := gb317) (o := .cells #[.int .i64 x318000_1, .int .i64 x318001_1, .int .i64 x318002_1, .int .i64 x318003_1, .int .i64 x318004_1, .int .i64 x318005_1, .int .i64 x318006_1, .int .i64 x318007_1, .int .i64 x318008_1, .int .i64 x318009_1, .int .i64 x318010_1] 30 (0, 0)) (by (with_reducible repeat (first | refine blk_drewN ?_ _ | refine blk_drew ?_ | refine blk_alloc ?_ _)); exact BK317.out) hb); have n1_ := Aside0.mk (below_step (by repeat (first | (with_reducible first | exact HB.out | apply below_alloc | apply pw_below_drewN | apply below_drew1 | refine below_set ?_ GE317.out) | exact HB.out)) hb); clear BK317; clear HB; have BK317 := n0_; have HB := n1_; clear n0_ n1_; (try clear hb); (try clear hb2); (try clear hk); (try clear hi)) | ((with_reducible refine gate_dst (N := 10) rfl ?_); refine box_event ?hg (N := 10) ?hd (cs := #[.int .i64 0, .int .i64 0, .int .i64 0, .int .i64 0, .int .i64 0, .int .i64 0, .int .i64 0, .int .i64 0, .int .i64 0, .int .i64 0, .int .i64 0]) (t := 30) ?hr ?_; (case hd => rfl); (case hg => rfl); (case hr => first | (go_simp; done) | (go_simp; rfl)); intro gb331 hg w28 hbox hb; have n0_ := Aside0.mk (blk_below (g := gb317) (o := .cells #[.int .i64 x318000_1, .int .i64 x318001_1, .int .i64 x318002_1, .int .i64 x318003_1, .int .i64 x318004_1, .int .i64 x318005_1, .int .i64 x318006_1, .int .i64 x318007_1, .int .i64 x318008_1, .int .i64 x318009_1, .int .i64 x318010_1] 30 (0, 0)) (by (with_reducible repeat (first | refine blk_drewN ?_ _ | refine blk_drew ?_ | refine blk_alloc ?_ _)); exact BK317.out) hb); have n1_ := Aside0.mk (below_step (by repeat (first | (with_reducible first | exact HB.out | apply below_alloc | apply pw_below_drewN | apply below_drew1 | refine below_set ?_ GE317.out) | exact HB.out)) hb); have n2_ := Aside0.mk (hbox); have n3_ := Aside0.mk ((by rw [hg]; exact (below_size (by repeat (first | (with_reducible first | exact HB.out | apply below_alloc | apply pw_below_drewN | apply below_drew1 | refine below_set ?_ GE317.out) | exact HB.out))) : w.heap.size ≤ gb331)); have n4_ := Aside0.mk ((by rw [hg]; exact (below_size (by repeat (first | (with_reducible first | exact HB.out | apply below_alloc | apply pw_below_drewN | apply below_drew1 | refine below_set ?_ GE317.out) | exact HB.out))) : w.heap.size ≤ gb331)); have n5_ := Aside0.mk ((by rw [hg]; exact Nat.ne_of_lt (blk_lt (g := gb317) (o := .cells #[.int .i64 x318000_1, .int .i64 x318001_1, .int .i64 x318002_1, .int .i64 x318003_1, .int .i64 x318004_1, .int .i64 x318005_1, .int .i64 x318006_1, .int .i64 x318007_1, .int .i64 x318008_1, .int .i64 x318009_1, .int .i64 x318010_1] 30 (0, 0)) (by (with_reducible repeat (first | refine blk_drewN ?_ _ | refine blk_drew ?_ | refine blk_alloc ?_ _)); exact BK317.out)) : gb317 ≠ gb331)); have n6_ := Aside0.mk ((by rw [hg]; exact Nat.ne_of_gt (blk_lt (g := gb317) (o := .cells #[.int .i64 x318000_1, .int .i64 x318001_1, .int .i64 x318002_1, .int .i64 x318003_1, .int .i64 x318004_1, .int .i64 x318005_1, .int .i64 x318006_1, .int .i64 x318007_1, .int .i64 x318008_1, .int .i64 x318009_1, .int .i64 x318010_1] 30 (0, 0)) (by (with_reducible repeat (first | refine blk_drewN ?_ _ | refine blk_drew ?_ | refine blk_alloc ?_ _)); exact BK317.out)) : gb331 ≠ gb317)); clear BK317; clear HB; have BK317 := n0_; have HB := n1_; have BK331 := n2_; have GW331 := n3_; have GE331 := n4_; have NB317_331 := n5_; have NB331_317 := n6_; clear n0_ n1_ n2_ n3_ n4_ n5_ n6_; clear hb hbox hg; have hnb29 := NB331_317.out; have hnc29 := NB317_331.out; have hcz30_0 : w28.cell? ⟨gb331, 0, none⟩ = some (.int .i64 0) := (blk_cell BK331.out 0).trans rfl; have hcz30_1 : w28.cell? ⟨gb331, 1, none⟩ = some (.int .i64 0) := (blk_cell BK331.out 1).trans rfl; have hcz30_2 : w28.cell? ⟨gb331, 2, none⟩ = some (.int .i64 0) := (blk_cell BK331.out 2).trans rfl; have hcz30_3 : w28.cell? ⟨gb331, 3, none⟩ = some (.int .i64 0) := (blk_cell BK331.out 3).trans rfl; have hcz30_4 : w28.cell? ⟨gb331, 4, none⟩ = some (.int .i64 0) := (blk_cell BK331.out 4).trans rfl; have hcz30_5 : w28.cell? ⟨gb331, 5, none⟩ = some (.int .i64 0) := (blk_cell BK331.out 5).trans rfl; have hcz30_6 : w28.cell? ⟨gb331, 6, none⟩ = some (.int .i64 0) := (blk_cell BK331.out 6).trans rfl; have hcz30_7 : w28.cell? ⟨gb331, 7, none⟩ = some (.int .i64 0) := (blk_cell BK331.out 7).trans rfl; have hcz30_8 : w28.cell? ⟨gb331, 8, none⟩ = some (.int .i64 0) := (blk_cell BK331.out 8).trans rfl; have hcz30_9 : w28.cell? ⟨gb331, 9, none⟩ = some (.int .i64 0) := (blk_cell BK331.out 9).trans rfl; have hcz30_10 : w28.cell? ⟨gb331, 10, none⟩ = some (.int .i64 0) := (blk_cell BK331.out 10).trans rfl; have hfz30_0 := blk_frozen BK331.out 0; have hfz30_1 := blk_frozen BK331.out 1; have hfz30_2 := blk_frozen BK331.out 2; have hfz30_3 := blk_frozen BK331.out 3; have hfz30_4 := blk_frozen BK331.out 4; have hfz30_5 := blk_frozen BK331.out 5; have hfz30_6 := blk_frozen BK331.out 6; have hfz30_7 := blk_frozen BK331.out 7; have hfz30_8 := blk_frozen BK331.out 8; have hfz30_9 := blk_frozen BK331.out 9; have hfz30_10 := blk_frozen BK331.out 10))
                        have n0_ : Aside0 ((((((((((((w28.setCell ⟨gb331, 0, none⟩ (.int .i64 t320)).setCell ⟨gb331, 1, none⟩ (.int .i64 t321)).setCell ⟨gb331, 2, none⟩ (.int .i64 t322)).setCell ⟨gb331, 3, none⟩ (.int .i64 t323)).setCell ⟨gb331, 4, none⟩ (.int .i64 t324)).setCell ⟨gb331, 5, none⟩ (.int .i64 t325)).setCell ⟨gb331, 6, none⟩ (.int .i64 t326)).setCell ⟨gb331, 7, none⟩ (.int .i64 t327)).setCell ⟨gb331, 8, none⟩ (.int .i64 t328)).setCell ⟨gb331, 9, none⟩ (.int .i64 t329)).setCell ⟨gb331, 10, none⟩ (.int .i64 t330)).heap[gb317]? = some (.cells #[.int .i64 x318000_1, .int .i64 x318001_1, .int .i64 x318002_1, .int .i64 x318003_1, .int .i64 x318004_1, .int .i64 x318005_1, .int .i64 x318006_1, .int .i64 x318007_1, .int .i64 x318008_1, .int .i64 x318009_1, .int .i64 x318010_1] 30 (0, 0))) := ⟨by (with_reducible repeat (first | refine blk_drewN ?_ _ | refine blk_drew ?_ | refine blk_alloc ?_ _)); refine blk_far ?_ NB317_331.out _; (with_reducible repeat (first | refine blk_drewN ?_ _ | refine blk_drew ?_ | refine blk_alloc ?_ _)); refine blk_far ?_ NB317_331.out _; (with_reducible repeat (first | refine blk_drewN ?_ _ | refine blk_drew ?_ | refine blk_alloc ?_ _)); refine blk_far ?_ NB317_331.out _; (with_reducible repeat (first | refine blk_drewN ?_ _ | refine blk_drew ?_ | refine blk_alloc ?_ _)); refine blk_far ?_ NB317_331.out _; (with_reducible repeat (first | refine blk_drewN ?_ _ | refine blk_drew ?_ | refine blk_alloc ?_ _)); refine blk_far ?_ NB317_331.out _; (with_reducible repeat (first | refine blk_drewN ?_ _ | refine blk_drew ?_ | refine blk_alloc ?_ _)); refine blk_far ?_ NB317_331.out _; (with_reducible repeat (first | refine blk_drewN ?_ _ | refine blk_drew ?_ | refine blk_alloc ?_ _)); refine blk_far ?_ NB317_331.out _; (with_reducible repeat (first | refine blk_drewN ?_ _ | refine blk_drew ?_ | refine blk_alloc ?_ _)); refine blk_far ?_ NB317_331.out _; (with_reducible repeat (first | refine blk_drewN ?_ _ | refine blk_drew ?_ | refine blk_alloc ?_ _)); refine blk_far ?_ NB317_331.out _; (with_reducible repeat (first | refine blk_drewN ?_ _ | refine blk_drew ?_ | refine blk_alloc ?_ _)); refine blk_far ?_ NB317_331.out _; (with_reducible repeat (first | refine blk_drewN ?_ _ | refine blk_drew ?_ | refine blk_alloc ?_ _)); refine blk_far ?_ NB317_331.out _; (with_reducible repeat (first | refine blk_drewN ?_ _ | refine blk_drew ?_ | refine blk_alloc ?_ _)); exact BK317.out⟩
                        have n1_ : Aside0 ((((((((((((w28.setCell ⟨gb331, 0, none⟩ (.int .i64 t320)).setCell ⟨gb331, 1, none⟩ (.int .i64 t321)).setCell ⟨gb331, 2, none⟩ (.int .i64 t322)).setCell ⟨gb331, 3, none⟩ (.int .i64 t323)).setCell ⟨gb331, 4, none⟩ (.int .i64 t324)).setCell ⟨gb331, 5, none⟩ (.int .i64 t325)).setCell ⟨gb331, 6, none⟩ (.int .i64 t326)).setCell ⟨gb331, 7, none⟩ (.int .i64 t327)).setCell ⟨gb331, 8, none⟩ (.int .i64 t328)).setCell ⟨gb331, 9, none⟩ (.int .i64 t329)).setCell ⟨gb331, 10, none⟩ (.int .i64 t330)).heap[gb331]? = some (.cells #[.int .i64 t320, .int .i64 t321, .int .i64 t322, .int .i64 t323, .int .i64 t324, .int .i64 t325, .int .i64 t326, .int .i64 t327, .int .i64 t328, .int .i64 t329, .int .i64 t330] 30 (0, 0))) := ⟨by (with_reducible repeat (first | refine blk_drewN ?_ _ | refine blk_drew ?_ | refine blk_alloc ?_ _)); refine blk_put (cs := #[.int .i64 t320, .int .i64 t321, .int .i64 t322, .int .i64 t323, .int .i64 t324, .int .i64 t325, .int .i64 t326, .int .i64 t327, .int .i64 t328, .int .i64 t329, .int .i64 0]) ?_ 10 _ rfl; (with_reducible repeat (first | refine blk_drewN ?_ _ | refine blk_drew ?_ | refine blk_alloc ?_ _)); refine blk_put (cs := #[.int .i64 t320, .int .i64 t321, .int .i64 t322, .int .i64 t323, .int .i64 t324, .int .i64 t325, .int .i64 t326, .int .i64 t327, .int .i64 t328, .int .i64 0, .int .i64 0]) ?_ 9 _ rfl; (with_reducible repeat (first | refine blk_drewN ?_ _ | refine blk_drew ?_ | refine blk_alloc ?_ _)); refine blk_put (cs := #[.int .i64 t320, .int .i64 t321, .int .i64 t322, .int .i64 t323, .int .i64 t324, .int .i64 t325, .int .i64 t326, .int .i64 t327, .int .i64 0, .int .i64 0, .int .i64 0]) ?_ 8 _ rfl; (with_reducible repeat (first | refine blk_drewN ?_ _ | refine blk_drew ?_ | refine blk_alloc ?_ _)); refine blk_put (cs := #[.int .i64 t320, .int .i64 t321, .int .i64 t322, .int .i64 t323, .int .i64 t324, .int .i64 t325, .int .i64 t326, .int .i64 0, .int .i64 0, .int .i64 0, .int .i64 0]) ?_ 7 _ rfl; (with_reducible repeat (first | refine blk_drewN ?_ _ | refine blk_drew ?_ | refine blk_alloc ?_ _)); refine blk_put (cs := #[.int .i64 t320, .int .i64 t321, .int .i64 t322, .int .i64 t323, .int .i64 t324, .int .i64 t325, .int .i64 0, .int .i64 0, .int .i64 0, .int .i64 0, .int .i64 0]) ?_ 6 _ rfl; (with_reducible repeat (first | refine blk_drewN ?_ _ | refine blk_drew ?_ | refine blk_alloc ?_ _)); refine blk_put (cs := #[.int .i64 t320, .int .i64 t321, .int .i64 t322, .int .i64 t323, .int .i64 t324, .int .i64 0, .int .i64 0, .int .i64 0, .int .i64 0, .int .i64 0, .int .i64 0]) ?_ 5 _ rfl; (with_reducible repeat (first | refine blk_drewN ?_ _ | refine blk_drew ?_ | refine blk_alloc ?_ _)); refine blk_put (cs := #[.int .i64 t320, .int .i64 t321, .int .i64 t322, .int .i64 t323, .int .i64 0, .int .i64 0, .int .i64 0, .int .i64 0, .int .i64 0, .int .i64 0, .int .i64 0]) ?_ 4 _ rfl; (with_reducible repeat (first | refine blk_drewN ?_ _ | refine blk_drew ?_ | refine blk_alloc ?_ _)); refine blk_put (cs := #[.int .i64 t320, .int .i64 t321, .int .i64 t322, .int .i64 0, .int .i64 0, .int .i64 0, .int .i64 0, .int .i64 0, .int .i64 0, .int .i64 0, .int .i64 0]) ?_ 3 _ rfl; (with_reducible repeat (first | refine blk_drewN ?_ _ | refine blk_drew ?_ | refine blk_alloc ?_ _)); refine blk_put (cs := #[.int .i64 t320, .int .i64 t321, .int .i64 0, .int .i64 0, .int .i64 0, .int .i64 0, .int .i64 0, .int .i64 0, .int .i64 0, .int .i64 0, .int .i64 0]) ?_ 2 _ rfl; (with_reducible repeat (first | refine blk_drewN ?_ _ | refine blk_drew ?_ | refine blk_alloc ?_ _)); refine blk_put (cs := #[.int .i64 t320, .int .i64 0, .int .i64 0, .int .i64 0, .int .i64 0, .int .i64 0, .int .i64 0, .int .i64 0, .int .i64 0, .int .i64 0, .int .i64 0]) ?_ 1 _ rfl; (with_reducible repeat (first | refine blk_drewN ?_ _ | refine blk_drew ?_ | refine blk_alloc ?_ _)); refine blk_put (cs := #[.int .i64 0, .int .i64 0, .int .i64 0, .int .i64 0, .int .i64 0, .int .i64 0, .int .i64 0, .int .i64 0, .int .i64 0, .int .i64 0, .int .i64 0]) ?_ 0 _ rfl; (with_reducible repeat (first | refine blk_drewN ?_ _ | refine blk_drew ?_ | refine blk_alloc ?_ _)); exact BK331.out⟩
                        have n2_ : Aside0 (Below w.heap.size w (((((((((((w28.setCell ⟨gb331, 0, none⟩ (.int .i64 t320)).setCell ⟨gb331, 1, none⟩ (.int .i64 t321)).setCell ⟨gb331, 2, none⟩ (.int .i64 t322)).setCell ⟨gb331, 3, none⟩ (.int .i64 t323)).setCell ⟨gb331, 4, none⟩ (.int .i64 t324)).setCell ⟨gb331, 5, none⟩ (.int .i64 t325)).setCell ⟨gb331, 6, none⟩ (.int .i64 t326)).setCell ⟨gb331, 7, none⟩ (.int .i64 t327)).setCell ⟨gb331, 8, none⟩ (.int .i64 t328)).setCell ⟨gb331, 9, none⟩ (.int .i64 t329)).setCell ⟨gb331, 10, none⟩ (.int .i64 t330))) := ⟨by repeat (first | (with_reducible first | exact HB.out | apply below_alloc | apply pw_below_drewN | apply below_drew1 | refine below_set ?_ GE317.out | refine below_set ?_ GE331.out) | exact HB.out)⟩
                        (try clear BK317)
                        (try clear BK331)
                        (try clear HB)
                        generalize (((((((((((w28.setCell ⟨gb331, 0, none⟩ (.int .i64 t320)).setCell ⟨gb331, 1, none⟩ (.int .i64 t321)).setCell ⟨gb331, 2, none⟩ (.int .i64 t322)).setCell ⟨gb331, 3, none⟩ (.int .i64 t323)).setCell ⟨gb331, 4, none⟩ (.int .i64 t324)).setCell ⟨gb331, 5, none⟩ (.int .i64 t325)).setCell ⟨gb331, 6, none⟩ (.int .i64 t326)).setCell ⟨gb331, 7, none⟩ (.int .i64 t327)).setCell ⟨gb331, 8, none⟩ (.int .i64 t328)).setCell ⟨gb331, 9, none⟩ (.int .i64 t329)).setCell ⟨gb331, 10, none⟩ (.int .i64 t330)) = w31 at n0_ n1_ n2_ ⊢
                        have BK317 := n0_
                        have BK331 := n1_
                        have HB := n2_
                        clear n0_ n1_ n2_
                        have n0_ := Aside0.mk (blk_drew BK317.out)
                        have n1_ := Aside0.mk (blk_drew BK331.out)
                        have n2_ := Aside0.mk (below_drew1 HB.out)
                        clear BK317
                        clear BK331
                        clear HB
                        have BK317 := n0_
                        have BK331 := n1_
                        have HB := n2_
                        clear n0_ n1_ n2_
                        refine start_ (n := 10) (S := fun w' => w'.cell? ⟨gb331, 0, none⟩ = some (.int .i64 t320) ∧ w'.cell? ⟨gb331, 1, none⟩ = some (.int .i64 t321) ∧ w'.cell? ⟨gb331, 2, none⟩ = some (.int .i64 t322) ∧ w'.cell? ⟨gb331, 3, none⟩ = some (.int .i64 t323) ∧ w'.cell? ⟨gb331, 4, none⟩ = some (.int .i64 t324) ∧ w'.cell? ⟨gb331, 5, none⟩ = some (.int .i64 t325) ∧ w'.cell? ⟨gb331, 6, none⟩ = some (.int .i64 t326) ∧ w'.cell? ⟨gb331, 7, none⟩ = some (.int .i64 t327) ∧ w'.cell? ⟨gb331, 8, none⟩ = some (.int .i64 t328) ∧ w'.cell? ⟨gb331, 9, none⟩ = some (.int .i64 t329) ∧ w'.cell? ⟨gb331, 10, none⟩ = some (.int .i64 t330) ∧ w'.cell? ⟨gb317, 0, none⟩ = some (.int .i64 x318000_1) ∧ w'.cell? ⟨gb317, 1, none⟩ = some (.int .i64 x318001_1) ∧ w'.cell? ⟨gb317, 2, none⟩ = some (.int .i64 x318002_1) ∧ w'.cell? ⟨gb317, 3, none⟩ = some (.int .i64 x318003_1) ∧ w'.cell? ⟨gb317, 4, none⟩ = some (.int .i64 x318004_1) ∧ w'.cell? ⟨gb317, 5, none⟩ = some (.int .i64 x318005_1) ∧ w'.cell? ⟨gb317, 6, none⟩ = some (.int .i64 x318006_1) ∧ w'.cell? ⟨gb317, 7, none⟩ = some (.int .i64 x318007_1) ∧ w'.cell? ⟨gb317, 8, none⟩ = some (.int .i64 x318008_1) ∧ w'.cell? ⟨gb317, 9, none⟩ = some (.int .i64 x318009_1) ∧ w'.cell? ⟨gb317, 10, none⟩ = some (.int .i64 x318010_1)) (ds := []) #[false, false, false, false, false, false, false, false, false, false] (by kernel_rfl) rfl rfl ⟨(blk_cell BK331.out 0).trans rfl, (blk_cell BK331.out 1).trans rfl, (blk_cell BK331.out 2).trans rfl, (blk_cell BK331.out 3).trans rfl, (blk_cell BK331.out 4).trans rfl, (blk_cell BK331.out 5).trans rfl, (blk_cell BK331.out 6).trans rfl, (blk_cell BK331.out 7).trans rfl, (blk_cell BK331.out 8).trans rfl, (blk_cell BK331.out 9).trans rfl, (blk_cell BK331.out 10).trans rfl, (blk_cell BK317.out 0).trans rfl, (blk_cell BK317.out 1).trans rfl, (blk_cell BK317.out 2).trans rfl, (blk_cell BK317.out 3).trans rfl, (blk_cell BK317.out 4).trans rfl, (blk_cell BK317.out 5).trans rfl, (blk_cell BK317.out 6).trans rfl, (blk_cell BK317.out 7).trans rfl, (blk_cell BK317.out 8).trans rfl, (blk_cell BK317.out 9).trans rfl, (blk_cell BK317.out 10).trans rfl⟩ (fun hHeld => ?_); refine with_tabW hawalalaw14_SagaMost.tab9 hawalalaw14_SagaMost.bits9 (fun HT_ HW_ => ?_)
                        generalize w31.drew = w32 at BK317 BK331 HB hHeld ⊢
                        refine take_ (i := 0) (N := some 32) (v := ?_) (a' := ?_) #[true, false, false, false, false, false, false, false, false, false] rfl rfl (take_ofW HT_.out HW_.out (by kernel_rfl)) (fun _ _ _ h => h) (Or.inl ⟨by rfl, ?_⟩) hHeld ?_ ?_
                        rotate_left
                        · rintro w' ⟨s0, s1, s2, s3, s4, s5, s6, s7, s8, s9, s10, s11, s12, s13, s14, s15, s16, s17, s18, s19, s20, s21⟩
                          go_simp
                          with_reducible rfl
                        rotate_left
                        · simp only [Act.put, List.setIfInBounds_toArray, List.set_cons_zero, List.set_cons_succ, i64_w, i32_w]
                          rfl
                        refine take_ (i := 2) (N := some 34) (v := ?_) (a' := ?_) #[true, false, true, false, false, false, false, false, false, false] rfl rfl (take_ofW HT_.out HW_.out (by kernel_rfl)) (fun _ _ _ h => h) (Or.inl ⟨by rfl, ?_⟩) hHeld ?_ ?_
                        rotate_left
                        · rintro w' ⟨s0, s1, s2, s3, s4, s5, s6, s7, s8, s9, s10, s11, s12, s13, s14, s15, s16, s17, s18, s19, s20, s21⟩
                          go_simp
                          with_reducible rfl
                        rotate_left
                        · simp only [Act.put, List.setIfInBounds_toArray, List.set_cons_zero, List.set_cons_succ, i64_w, i32_w]
                          rfl
                        refine one_ (i := 1) (N := some 33) #[true, true, true, false, false, false, false, false, false, false] rfl rfl (one_of HT_.out (by kernel_rfl)) (by decide) (fun K hK => ?_)
                        refine goes_ Try.func12 (by kernel_rfl) rfl #[.agg #[.int .i64 t320, .int .i64 t321, .int .i64 t322, .int .i64 t323, .int .i64 t324, .int .i64 t325, .int .i64 t326, .int .i64 t327, .int .i64 t328, .int .i64 t329, .int .i64 t330]] (by rfl) rfl rfl (by (try simp only [List.map_toArray, List.map_cons, List.map_nil]); first | done | rfl | (simp only [List.length_drop, List.length_take]; rfl)) ?_
                        with_reducible refine (saga_Most.calls t320 t321 t322 t323 t324 t325 t326 t327 t328 t329 t330 t332 _ A23.out).mono ?_
                        rintro e w33 ⟨rfl, hb⟩
                        refine ⟨_, rfl, ?_⟩
                        have n0_ := Aside0.mk (blk_below (g := gb317) (o := .cells #[.int .i64 x318000_1, .int .i64 x318001_1, .int .i64 x318002_1, .int .i64 x318003_1, .int .i64 x318004_1, .int .i64 x318005_1, .int .i64 x318006_1, .int .i64 x318007_1, .int .i64 x318008_1, .int .i64 x318009_1, .int .i64 x318010_1] 30 (0, 0)) (by (with_reducible repeat (first | refine blk_drewN ?_ _ | refine blk_drew ?_ | refine blk_alloc ?_ _)); exact BK317.out) hb)
                        have n1_ := Aside0.mk (blk_below (g := gb331) (o := .cells #[.int .i64 t320, .int .i64 t321, .int .i64 t322, .int .i64 t323, .int .i64 t324, .int .i64 t325, .int .i64 t326, .int .i64 t327, .int .i64 t328, .int .i64 t329, .int .i64 t330] 30 (0, 0)) (by (with_reducible repeat (first | refine blk_drewN ?_ _ | refine blk_drew ?_ | refine blk_alloc ?_ _)); exact BK331.out) hb)
                        have n2_ := Aside0.mk (below_step (by repeat (first | (with_reducible first | exact HB.out | apply below_alloc | apply pw_below_drewN | apply below_drew1 | refine below_set ?_ GE317.out | refine below_set ?_ GE331.out) | exact HB.out)) hb)
                        clear BK317
                        clear BK331
                        clear HB
                        have BK317 := n0_
                        have BK331 := n1_
                        have HB := n2_
                        clear n0_ n1_ n2_
                        (try clear hb)
                        (try clear hb2)
                        (try clear hk)
                        (try clear hi)
                        refine hK.out _ _ ⟨(blk_cell BK331.out 0).trans rfl, (blk_cell BK331.out 1).trans rfl, (blk_cell BK331.out 2).trans rfl, (blk_cell BK331.out 3).trans rfl, (blk_cell BK331.out 4).trans rfl, (blk_cell BK331.out 5).trans rfl, (blk_cell BK331.out 6).trans rfl, (blk_cell BK331.out 7).trans rfl, (blk_cell BK331.out 8).trans rfl, (blk_cell BK331.out 9).trans rfl, (blk_cell BK331.out 10).trans rfl, (blk_cell BK317.out 0).trans rfl, (blk_cell BK317.out 1).trans rfl, (blk_cell BK317.out 2).trans rfl, (blk_cell BK317.out 3).trans rfl, (blk_cell BK317.out 4).trans rfl, (blk_cell BK317.out 5).trans rfl, (blk_cell BK317.out 6).trans rfl, (blk_cell BK317.out 7).trans rfl, (blk_cell BK317.out 8).trans rfl, (blk_cell BK317.out 9).trans rfl, (blk_cell BK317.out 10).trans rfl⟩ (fun hHeld => ?_)
                        clear hK K
                        refine norm_ (a' := ?_) ?_ ?_
                        rotate_left
                        · show Act.put _ (some 33) _ = _
                          simp only [Act.put, List.setIfInBounds_toArray, List.set_cons_zero, List.set_cons_succ, i64_w, i32_w]
                          rfl
                        refine one_ (i := 3) (N := some 35) #[true, true, true, true, false, false, false, false, false, false] rfl rfl (one_of HT_.out (by kernel_rfl)) (by decide) (fun K hK => ?_)
                        refine goes_ Try.func12 (by kernel_rfl) rfl #[.agg #[.int .i64 x318000_1, .int .i64 x318001_1, .int .i64 x318002_1, .int .i64 x318003_1, .int .i64 x318004_1, .int .i64 x318005_1, .int .i64 x318006_1, .int .i64 x318007_1, .int .i64 x318008_1, .int .i64 x318009_1, .int .i64 x318010_1]] (by rfl) rfl rfl (by (try simp only [List.map_toArray, List.map_cons, List.map_nil]); first | done | rfl | (simp only [List.length_drop, List.length_take]; rfl)) ?_
                        with_reducible refine (saga_Most.calls x318000_1 x318001_1 x318002_1 x318003_1 x318004_1 x318005_1 x318006_1 x318007_1 x318008_1 x318009_1 x318010_1 t333 _ A24.out).mono ?_
                        rintro e w34 ⟨rfl, hb⟩
                        refine ⟨_, rfl, ?_⟩
                        have n0_ := Aside0.mk (blk_below (g := gb317) (o := .cells #[.int .i64 x318000_1, .int .i64 x318001_1, .int .i64 x318002_1, .int .i64 x318003_1, .int .i64 x318004_1, .int .i64 x318005_1, .int .i64 x318006_1, .int .i64 x318007_1, .int .i64 x318008_1, .int .i64 x318009_1, .int .i64 x318010_1] 30 (0, 0)) (by (with_reducible repeat (first | refine blk_drewN ?_ _ | refine blk_drew ?_ | refine blk_alloc ?_ _)); exact BK317.out) hb)
                        have n1_ := Aside0.mk (blk_below (g := gb331) (o := .cells #[.int .i64 t320, .int .i64 t321, .int .i64 t322, .int .i64 t323, .int .i64 t324, .int .i64 t325, .int .i64 t326, .int .i64 t327, .int .i64 t328, .int .i64 t329, .int .i64 t330] 30 (0, 0)) (by (with_reducible repeat (first | refine blk_drewN ?_ _ | refine blk_drew ?_ | refine blk_alloc ?_ _)); exact BK331.out) hb)
                        have n2_ := Aside0.mk (below_step (by repeat (first | (with_reducible first | exact HB.out | apply below_alloc | apply pw_below_drewN | apply below_drew1 | refine below_set ?_ GE317.out | refine below_set ?_ GE331.out) | exact HB.out)) hb)
                        clear BK317
                        clear BK331
                        clear HB
                        have BK317 := n0_
                        have BK331 := n1_
                        have HB := n2_
                        clear n0_ n1_ n2_
                        (try clear hb)
                        (try clear hb2)
                        (try clear hk)
                        (try clear hi)
                        refine hK.out _ _ ⟨(blk_cell BK331.out 0).trans rfl, (blk_cell BK331.out 1).trans rfl, (blk_cell BK331.out 2).trans rfl, (blk_cell BK331.out 3).trans rfl, (blk_cell BK331.out 4).trans rfl, (blk_cell BK331.out 5).trans rfl, (blk_cell BK331.out 6).trans rfl, (blk_cell BK331.out 7).trans rfl, (blk_cell BK331.out 8).trans rfl, (blk_cell BK331.out 9).trans rfl, (blk_cell BK331.out 10).trans rfl, (blk_cell BK317.out 0).trans rfl, (blk_cell BK317.out 1).trans rfl, (blk_cell BK317.out 2).trans rfl, (blk_cell BK317.out 3).trans rfl, (blk_cell BK317.out 4).trans rfl, (blk_cell BK317.out 5).trans rfl, (blk_cell BK317.out 6).trans rfl, (blk_cell BK317.out 7).trans rfl, (blk_cell BK317.out 8).trans rfl, (blk_cell BK317.out 9).trans rfl, (blk_cell BK317.out 10).trans rfl⟩ (fun hHeld => ?_)
                        clear hK K
                        refine norm_ (a' := ?_) ?_ ?_
                        rotate_left
                        · show Act.put _ (some 35) _ = _
                          simp only [Act.put, List.setIfInBounds_toArray, List.set_cons_zero, List.set_cons_succ, i64_w, i32_w]
                          rfl
                        refine pure_ (i := 4) (N := some 36) (v := ?_) (a' := ?_) #[true, true, true, true, true, false, false, false, false, false] rfl rfl (any_of HT_.out (by kernel_rfl)) (fun _ _ _ h => h) (Or.inl ⟨by rfl, ?_⟩) ?_ ?_
                        rotate_left
                        · intro w'
                          go_simp
                          with_reducible rfl
                        rotate_left
                        · simp only [Act.put, List.setIfInBounds_toArray, List.set_cons_zero, List.set_cons_succ, i64_w, i32_w]
                          rfl
                        refine pure_ (i := 5) (N := some 37) (v := ?_) (a' := ?_) #[true, true, true, true, true, true, false, false, false, false] rfl rfl (any_of HT_.out (by kernel_rfl)) (fun _ _ _ h => h) (Or.inl ⟨by rfl, ?_⟩) ?_ ?_
                        rotate_left
                        · intro w'
                          go_simp
                          with_reducible rfl
                        rotate_left
                        · simp only [Act.put, List.setIfInBounds_toArray, List.set_cons_zero, List.set_cons_succ, i64_w, i32_w]
                          rfl
                        refine pure_ (i := 6) (N := some 38) (v := undef) (a' := ?_) #[true, true, true, true, true, true, true, false, false, false] rfl rfl (any_of HT_.out (by kernel_rfl)) (fun _ _ _ h => h) (Or.inr ⟨by rfl, rfl⟩) ?_ ?_
                        rotate_left
                        · simp only [Act.put, List.setIfInBounds_toArray, List.set_cons_zero, List.set_cons_succ, i64_w, i32_w]
                          rfl
                        refine pure_ (i := 7) (N := some 39) (v := undef) (a' := ?_) #[true, true, true, true, true, true, true, true, false, false] rfl rfl (any_of HT_.out (by kernel_rfl)) (fun _ _ _ h => h) (Or.inr ⟨by rfl, rfl⟩) ?_ ?_
                        rotate_left
                        · simp only [Act.put, List.setIfInBounds_toArray, List.set_cons_zero, List.set_cons_succ, i64_w, i32_w]
                          rfl
                        refine pure_ (i := 8) (N := some 40) (v := undef) (a' := ?_) #[true, true, true, true, true, true, true, true, true, false] rfl rfl (any_of HT_.out (by kernel_rfl)) (fun _ _ _ h => h) (Or.inr ⟨by rfl, rfl⟩) ?_ ?_
                        rotate_left
                        · simp only [Act.put, List.setIfInBounds_toArray, List.set_cons_zero, List.set_cons_succ, i64_w, i32_w]
                          rfl
                        refine pure_ (i := 9) (N := some 41) (v := ?_) (a' := ?_) #[true, true, true, true, true, true, true, true, true, true] rfl rfl (any_of HT_.out (by kernel_rfl)) (fun _ _ _ h => h) (Or.inl ⟨by rfl, ?_⟩) ?_ ?_
                        rotate_left
                        · intro w'
                          go_simp
                          with_reducible rfl
                        rotate_left
                        · simp only [Act.put, List.setIfInBounds_toArray, List.set_cons_zero, List.set_cons_succ, i64_w, i32_w]
                          rfl
                        refine done_ (done_of HT_.out (by kernel_rfl)) ?_
                        try go_wp2
                        go_ret
                        exact ⟨by first | rfl | (simp [errW_none, errW_some] <;> rfl) | (simp [*, errW_none, errW_some] <;> rfl), by repeat (first | (with_reducible first | exact HB.out | apply below_alloc | apply pw_below_drewN | apply below_drew1 | refine below_set ?_ GE317.out | refine below_set ?_ GE331.out) | exact HB.out)⟩
                      · rw [if_neg c25] at H
                        have c25b0 : decide (t333 ≤ t332) = false := decide_eq_false c25
                        clear c25
                        replace H := Option.bind_eq_some_iff.mp H
                        obtain ⟨t334, A350, H⟩ := H
                        replace H : (if t334 < 1 then (some false) else (hawalalaw14_SagaMost.l0 kj14 l2 (l2.length : Int) (wrap64 (x18_1 + 1)) t320 t321 t322 t323 t324 t325 t326 t327 t328 t329 t330)) = some r := H
                        have A35 := Aside0.mk A350
                        clear A350
                        by_cases c36 : t334 < 1
                        · rw [if_pos c36] at H
                          have c36b0 : decide (t334 < 1) = true := decide_eq_true c36
                          clear c36
                          obtain rfl := Option.some.inj H
                          have hcz37_0 : wc.cell? ⟨gb317, 0, none⟩ = some (.int .i64 x318000_1) := (blk_cell BK317.out 0).trans rfl
                          have hcz37_1 : wc.cell? ⟨gb317, 1, none⟩ = some (.int .i64 x318001_1) := (blk_cell BK317.out 1).trans rfl
                          have hcz37_2 : wc.cell? ⟨gb317, 2, none⟩ = some (.int .i64 x318002_1) := (blk_cell BK317.out 2).trans rfl
                          have hcz37_3 : wc.cell? ⟨gb317, 3, none⟩ = some (.int .i64 x318003_1) := (blk_cell BK317.out 3).trans rfl
                          have hcz37_4 : wc.cell? ⟨gb317, 4, none⟩ = some (.int .i64 x318004_1) := (blk_cell BK317.out 4).trans rfl
                          have hcz37_5 : wc.cell? ⟨gb317, 5, none⟩ = some (.int .i64 x318005_1) := (blk_cell BK317.out 5).trans rfl
                          have hcz37_6 : wc.cell? ⟨gb317, 6, none⟩ = some (.int .i64 x318006_1) := (blk_cell BK317.out 6).trans rfl
                          have hcz37_7 : wc.cell? ⟨gb317, 7, none⟩ = some (.int .i64 x318007_1) := (blk_cell BK317.out 7).trans rfl
                          have hcz37_8 : wc.cell? ⟨gb317, 8, none⟩ = some (.int .i64 x318008_1) := (blk_cell BK317.out 8).trans rfl
                          have hcz37_9 : wc.cell? ⟨gb317, 9, none⟩ = some (.int .i64 x318009_1) := (blk_cell BK317.out 9).trans rfl
                          have hcz37_10 : wc.cell? ⟨gb317, 10, none⟩ = some (.int .i64 x318010_1) := (blk_cell BK317.out 10).trans rfl
                          have hfz37_0 := blk_frozen BK317.out 0
                          have hfz37_1 := blk_frozen BK317.out 1
                          have hfz37_2 := blk_frozen BK317.out 2
                          have hfz37_3 := blk_frozen BK317.out 3
                          have hfz37_4 := blk_frozen BK317.out 4
                          have hfz37_5 := blk_frozen BK317.out 5
                          have hfz37_6 := blk_frozen BK317.out 6
                          have hfz37_7 := blk_frozen BK317.out 7
                          have hfz37_8 := blk_frozen BK317.out 8
                          have hfz37_9 := blk_frozen BK317.out 9
                          have hfz37_10 := blk_frozen BK317.out 10
                          try go_wp2_with (first | ((with_reducible refine gate_callee (f := 10) rfl ?_); refine goesL_ (some 31) rfl rfl Try.func10 (by kernel_rfl) rfl #[.agg #[.int .i64 x318000_1, .int .i64 x318001_1, .int .i64 x318002_1, .int .i64 x318003_1, .int .i64 x318004_1, .int .i64 x318005_1, .int .i64 x318006_1, .int .i64 x318007_1, .int .i64 x318008_1, .int .i64 x318009_1, .int .i64 x318010_1], .bool (rdOf false l2 x18_1)] rfl (by (try simp only [List.map_toArray, List.map_cons, List.map_nil]); first | done | rfl | (simp only [List.length_drop, List.length_take]; rfl)) ?_; (with_reducible refine (saga_Leg.calls kj14 x318000_1 x318001_1 x318002_1 x318003_1 x318004_1 x318005_1 x318006_1 x318007_1 x318008_1 x318009_1 x318010_1 (rdOf false l2 x18_1) t320 t321 t322 t323 t324 t325 t326 t327 t328 t329 t330 _ A22.out).mono ?_); rintro e w38 ⟨rfl, hb⟩; refine ⟨_, rfl, ?_⟩; have n0_ := Aside0.mk (blk_below (g := gb317) (o := .cells #[.int .i64 x318000_1, .int .i64 x318001_1, .int .i64 x318002_1, .int .i64 x318003_1, .int .i64 x318004_1, .int .i64 x318005_1, .int .i64 x318006_1, .int .i64 x318007_1, .int .i64 x318008_1, .int .i64 x318009_1, .int .i64 x318010_1] 30 (0, 0)) (by (with_reducible repeat (first | refine blk_drewN ?_ _ | refine blk_drew ?_ | refine blk_alloc ?_ _)); exact BK317.out) hb); have n1_ := Aside0.mk (below_step (by repeat (first | (with_reducible first | exact HB.out | apply below_alloc | apply pw_below_drewN | apply below_drew1 | refine below_set ?_ GE317.out) | exact HB.out)) hb); clear BK317; clear HB; have BK317 := n0_; have HB := n1_; clear n0_ n1_; (try clear hb); (try clear hb2); (try clear hk); (try clear hi)) | ((with_reducible refine gate_dst (N := 10) rfl ?_); refine box_event ?hg (N := 10) ?hd (cs := #[.int .i64 0, .int .i64 0, .int .i64 0, .int .i64 0, .int .i64 0, .int .i64 0, .int .i64 0, .int .i64 0, .int .i64 0, .int .i64 0, .int .i64 0]) (t := 30) ?hr ?_; (case hd => rfl); (case hg => rfl); (case hr => first | (go_simp; done) | (go_simp; rfl)); intro gb331 hg w39 hbox hb; have n0_ := Aside0.mk (blk_below (g := gb317) (o := .cells #[.int .i64 x318000_1, .int .i64 x318001_1, .int .i64 x318002_1, .int .i64 x318003_1, .int .i64 x318004_1, .int .i64 x318005_1, .int .i64 x318006_1, .int .i64 x318007_1, .int .i64 x318008_1, .int .i64 x318009_1, .int .i64 x318010_1] 30 (0, 0)) (by (with_reducible repeat (first | refine blk_drewN ?_ _ | refine blk_drew ?_ | refine blk_alloc ?_ _)); exact BK317.out) hb); have n1_ := Aside0.mk (below_step (by repeat (first | (with_reducible first | exact HB.out | apply below_alloc | apply pw_below_drewN | apply below_drew1 | refine below_set ?_ GE317.out) | exact HB.out)) hb); have n2_ := Aside0.mk (hbox); have n3_ := Aside0.mk ((by rw [hg]; exact (below_size (by repeat (first | (with_reducible first | exact HB.out | apply below_alloc | apply pw_below_drewN | apply below_drew1 | refine below_set ?_ GE317.out) | exact HB.out))) : w.heap.size ≤ gb331)); have n4_ := Aside0.mk ((by rw [hg]; exact (below_size (by repeat (first | (with_reducible first | exact HB.out | apply below_alloc | apply pw_below_drewN | apply below_drew1 | refine below_set ?_ GE317.out) | exact HB.out))) : w.heap.size ≤ gb331)); have n5_ := Aside0.mk ((by rw [hg]; exact Nat.ne_of_lt (blk_lt (g := gb317) (o := .cells #[.int .i64 x318000_1, .int .i64 x318001_1, .int .i64 x318002_1, .int .i64 x318003_1, .int .i64 x318004_1, .int .i64 x318005_1, .int .i64 x318006_1, .int .i64 x318007_1, .int .i64 x318008_1, .int .i64 x318009_1, .int .i64 x318010_1] 30 (0, 0)) (by (with_reducible repeat (first | refine blk_drewN ?_ _ | refine blk_drew ?_ | refine blk_alloc ?_ _)); exact BK317.out)) : gb317 ≠ gb331)); have n6_ := Aside0.mk ((by rw [hg]; exact Nat.ne_of_gt (blk_lt (g := gb317) (o := .cells #[.int .i64 x318000_1, .int .i64 x318001_1, .int .i64 x318002_1, .int .i64 x318003_1, .int .i64 x318004_1, .int .i64 x318005_1, .int .i64 x318006_1, .int .i64 x318007_1, .int .i64 x318008_1, .int .i64 x318009_1, .int .i64 x318010_1] 30 (0, 0)) (by (with_reducible repeat (first | refine blk_drewN ?_ _ | refine blk_drew ?_ | refine blk_alloc ?_ _)); exact BK317.out)) : gb331 ≠ gb317)); clear BK317; clear HB; have BK317 := n0_; have HB := n1_; have BK331 := n2_; have GW331 := n3_; have GE331 := n4_; have NB317_331 := n5_; have NB331_317 := n6_; clear n0_ n1_ n2_ n3_ n4_ n5_ n6_; clear hb hbox hg; have hnb40 := NB331_317.out; have hnc40 := NB317_331.out; have hcz41_0 : w39.cell? ⟨gb331, 0, none⟩ = some (.int .i64 0) := (blk_cell BK331.out 0).trans rfl; have hcz41_1 : w39.cell? ⟨gb331, 1, none⟩ = some (.int .i64 0) := (blk_cell BK331.out 1).trans rfl; have hcz41_2 : w39.cell? ⟨gb331, 2, none⟩ = some (.int .i64 0) := (blk_cell BK331.out 2).trans rfl; have hcz41_3 : w39.cell? ⟨gb331, 3, none⟩ = some (.int .i64 0) := (blk_cell BK331.out 3).trans rfl; have hcz41_4 : w39.cell? ⟨gb331, 4, none⟩ = some (.int .i64 0) := (blk_cell BK331.out 4).trans rfl; have hcz41_5 : w39.cell? ⟨gb331, 5, none⟩ = some (.int .i64 0) := (blk_cell BK331.out 5).trans rfl; have hcz41_6 : w39.cell? ⟨gb331, 6, none⟩ = some (.int .i64 0) := (blk_cell BK331.out 6).trans rfl; have hcz41_7 : w39.cell? ⟨gb331, 7, none⟩ = some (.int .i64 0) := (blk_cell BK331.out 7).trans rfl; have hcz41_8 : w39.cell? ⟨gb331, 8, none⟩ = some (.int .i64 0) := (blk_cell BK331.out 8).trans rfl; have hcz41_9 : w39.cell? ⟨gb331, 9, none⟩ = some (.int .i64 0) := (blk_cell BK331.out 9).trans rfl; have hcz41_10 : w39.cell? ⟨gb331, 10, none⟩ = some (.int .i64 0) := (blk_cell BK331.out 10).trans rfl; have hfz41_0 := blk_frozen BK331.out 0; have hfz41_1 := blk_frozen BK331.out 1; have hfz41_2 := blk_frozen BK331.out 2; have hfz41_3 := blk_frozen BK331.out 3; have hfz41_4 := blk_frozen BK331.out 4; have hfz41_5 := blk_frozen BK331.out 5; have hfz41_6 := blk_frozen BK331.out 6; have hfz41_7 := blk_frozen BK331.out 7; have hfz41_8 := blk_frozen BK331.out 8; have hfz41_9 := blk_frozen BK331.out 9; have hfz41_10 := blk_frozen BK331.out 10))
                          have n0_ : Aside0 ((((((((((((w39.setCell ⟨gb331, 0, none⟩ (.int .i64 t320)).setCell ⟨gb331, 1, none⟩ (.int .i64 t321)).setCell ⟨gb331, 2, none⟩ (.int .i64 t322)).setCell ⟨gb331, 3, none⟩ (.int .i64 t323)).setCell ⟨gb331, 4, none⟩ (.int .i64 t324)).setCell ⟨gb331, 5, none⟩ (.int .i64 t325)).setCell ⟨gb331, 6, none⟩ (.int .i64 t326)).setCell ⟨gb331, 7, none⟩ (.int .i64 t327)).setCell ⟨gb331, 8, none⟩ (.int .i64 t328)).setCell ⟨gb331, 9, none⟩ (.int .i64 t329)).setCell ⟨gb331, 10, none⟩ (.int .i64 t330)).heap[gb317]? = some (.cells #[.int .i64 x318000_1, .int .i64 x318001_1, .int .i64 x318002_1, .int .i64 x318003_1, .int .i64 x318004_1, .int .i64 x318005_1, .int .i64 x318006_1, .int .i64 x318007_1, .int .i64 x318008_1, .int .i64 x318009_1, .int .i64 x318010_1] 30 (0, 0))) := ⟨by (with_reducible repeat (first | refine blk_drewN ?_ _ | refine blk_drew ?_ | refine blk_alloc ?_ _)); refine blk_far ?_ NB317_331.out _; (with_reducible repeat (first | refine blk_drewN ?_ _ | refine blk_drew ?_ | refine blk_alloc ?_ _)); refine blk_far ?_ NB317_331.out _; (with_reducible repeat (first | refine blk_drewN ?_ _ | refine blk_drew ?_ | refine blk_alloc ?_ _)); refine blk_far ?_ NB317_331.out _; (with_reducible repeat (first | refine blk_drewN ?_ _ | refine blk_drew ?_ | refine blk_alloc ?_ _)); refine blk_far ?_ NB317_331.out _; (with_reducible repeat (first | refine blk_drewN ?_ _ | refine blk_drew ?_ | refine blk_alloc ?_ _)); refine blk_far ?_ NB317_331.out _; (with_reducible repeat (first | refine blk_drewN ?_ _ | refine blk_drew ?_ | refine blk_alloc ?_ _)); refine blk_far ?_ NB317_331.out _; (with_reducible repeat (first | refine blk_drewN ?_ _ | refine blk_drew ?_ | refine blk_alloc ?_ _)); refine blk_far ?_ NB317_331.out _; (with_reducible repeat (first | refine blk_drewN ?_ _ | refine blk_drew ?_ | refine blk_alloc ?_ _)); refine blk_far ?_ NB317_331.out _; (with_reducible repeat (first | refine blk_drewN ?_ _ | refine blk_drew ?_ | refine blk_alloc ?_ _)); refine blk_far ?_ NB317_331.out _; (with_reducible repeat (first | refine blk_drewN ?_ _ | refine blk_drew ?_ | refine blk_alloc ?_ _)); refine blk_far ?_ NB317_331.out _; (with_reducible repeat (first | refine blk_drewN ?_ _ | refine blk_drew ?_ | refine blk_alloc ?_ _)); refine blk_far ?_ NB317_331.out _; (with_reducible repeat (first | refine blk_drewN ?_ _ | refine blk_drew ?_ | refine blk_alloc ?_ _)); exact BK317.out⟩
                          have n1_ : Aside0 ((((((((((((w39.setCell ⟨gb331, 0, none⟩ (.int .i64 t320)).setCell ⟨gb331, 1, none⟩ (.int .i64 t321)).setCell ⟨gb331, 2, none⟩ (.int .i64 t322)).setCell ⟨gb331, 3, none⟩ (.int .i64 t323)).setCell ⟨gb331, 4, none⟩ (.int .i64 t324)).setCell ⟨gb331, 5, none⟩ (.int .i64 t325)).setCell ⟨gb331, 6, none⟩ (.int .i64 t326)).setCell ⟨gb331, 7, none⟩ (.int .i64 t327)).setCell ⟨gb331, 8, none⟩ (.int .i64 t328)).setCell ⟨gb331, 9, none⟩ (.int .i64 t329)).setCell ⟨gb331, 10, none⟩ (.int .i64 t330)).heap[gb331]? = some (.cells #[.int .i64 t320, .int .i64 t321, .int .i64 t322, .int .i64 t323, .int .i64 t324, .int .i64 t325, .int .i64 t326, .int .i64 t327, .int .i64 t328, .int .i64 t329, .int .i64 t330] 30 (0, 0))) := ⟨by (with_reducible repeat (first | refine blk_drewN ?_ _ | refine blk_drew ?_ | refine blk_alloc ?_ _)); refine blk_put (cs := #[.int .i64 t320, .int .i64 t321, .int .i64 t322, .int .i64 t323, .int .i64 t324, .int .i64 t325, .int .i64 t326, .int .i64 t327, .int .i64 t328, .int .i64 t329, .int .i64 0]) ?_ 10 _ rfl; (with_reducible repeat (first | refine blk_drewN ?_ _ | refine blk_drew ?_ | refine blk_alloc ?_ _)); refine blk_put (cs := #[.int .i64 t320, .int .i64 t321, .int .i64 t322, .int .i64 t323, .int .i64 t324, .int .i64 t325, .int .i64 t326, .int .i64 t327, .int .i64 t328, .int .i64 0, .int .i64 0]) ?_ 9 _ rfl; (with_reducible repeat (first | refine blk_drewN ?_ _ | refine blk_drew ?_ | refine blk_alloc ?_ _)); refine blk_put (cs := #[.int .i64 t320, .int .i64 t321, .int .i64 t322, .int .i64 t323, .int .i64 t324, .int .i64 t325, .int .i64 t326, .int .i64 t327, .int .i64 0, .int .i64 0, .int .i64 0]) ?_ 8 _ rfl; (with_reducible repeat (first | refine blk_drewN ?_ _ | refine blk_drew ?_ | refine blk_alloc ?_ _)); refine blk_put (cs := #[.int .i64 t320, .int .i64 t321, .int .i64 t322, .int .i64 t323, .int .i64 t324, .int .i64 t325, .int .i64 t326, .int .i64 0, .int .i64 0, .int .i64 0, .int .i64 0]) ?_ 7 _ rfl; (with_reducible repeat (first | refine blk_drewN ?_ _ | refine blk_drew ?_ | refine blk_alloc ?_ _)); refine blk_put (cs := #[.int .i64 t320, .int .i64 t321, .int .i64 t322, .int .i64 t323, .int .i64 t324, .int .i64 t325, .int .i64 0, .int .i64 0, .int .i64 0, .int .i64 0, .int .i64 0]) ?_ 6 _ rfl; (with_reducible repeat (first | refine blk_drewN ?_ _ | refine blk_drew ?_ | refine blk_alloc ?_ _)); refine blk_put (cs := #[.int .i64 t320, .int .i64 t321, .int .i64 t322, .int .i64 t323, .int .i64 t324, .int .i64 0, .int .i64 0, .int .i64 0, .int .i64 0, .int .i64 0, .int .i64 0]) ?_ 5 _ rfl; (with_reducible repeat (first | refine blk_drewN ?_ _ | refine blk_drew ?_ | refine blk_alloc ?_ _)); refine blk_put (cs := #[.int .i64 t320, .int .i64 t321, .int .i64 t322, .int .i64 t323, .int .i64 0, .int .i64 0, .int .i64 0, .int .i64 0, .int .i64 0, .int .i64 0, .int .i64 0]) ?_ 4 _ rfl; (with_reducible repeat (first | refine blk_drewN ?_ _ | refine blk_drew ?_ | refine blk_alloc ?_ _)); refine blk_put (cs := #[.int .i64 t320, .int .i64 t321, .int .i64 t322, .int .i64 0, .int .i64 0, .int .i64 0, .int .i64 0, .int .i64 0, .int .i64 0, .int .i64 0, .int .i64 0]) ?_ 3 _ rfl; (with_reducible repeat (first | refine blk_drewN ?_ _ | refine blk_drew ?_ | refine blk_alloc ?_ _)); refine blk_put (cs := #[.int .i64 t320, .int .i64 t321, .int .i64 0, .int .i64 0, .int .i64 0, .int .i64 0, .int .i64 0, .int .i64 0, .int .i64 0, .int .i64 0, .int .i64 0]) ?_ 2 _ rfl; (with_reducible repeat (first | refine blk_drewN ?_ _ | refine blk_drew ?_ | refine blk_alloc ?_ _)); refine blk_put (cs := #[.int .i64 t320, .int .i64 0, .int .i64 0, .int .i64 0, .int .i64 0, .int .i64 0, .int .i64 0, .int .i64 0, .int .i64 0, .int .i64 0, .int .i64 0]) ?_ 1 _ rfl; (with_reducible repeat (first | refine blk_drewN ?_ _ | refine blk_drew ?_ | refine blk_alloc ?_ _)); refine blk_put (cs := #[.int .i64 0, .int .i64 0, .int .i64 0, .int .i64 0, .int .i64 0, .int .i64 0, .int .i64 0, .int .i64 0, .int .i64 0, .int .i64 0, .int .i64 0]) ?_ 0 _ rfl; (with_reducible repeat (first | refine blk_drewN ?_ _ | refine blk_drew ?_ | refine blk_alloc ?_ _)); exact BK331.out⟩
                          have n2_ : Aside0 (Below w.heap.size w (((((((((((w39.setCell ⟨gb331, 0, none⟩ (.int .i64 t320)).setCell ⟨gb331, 1, none⟩ (.int .i64 t321)).setCell ⟨gb331, 2, none⟩ (.int .i64 t322)).setCell ⟨gb331, 3, none⟩ (.int .i64 t323)).setCell ⟨gb331, 4, none⟩ (.int .i64 t324)).setCell ⟨gb331, 5, none⟩ (.int .i64 t325)).setCell ⟨gb331, 6, none⟩ (.int .i64 t326)).setCell ⟨gb331, 7, none⟩ (.int .i64 t327)).setCell ⟨gb331, 8, none⟩ (.int .i64 t328)).setCell ⟨gb331, 9, none⟩ (.int .i64 t329)).setCell ⟨gb331, 10, none⟩ (.int .i64 t330))) := ⟨by repeat (first | (with_reducible first | exact HB.out | apply below_alloc | apply pw_below_drewN | apply below_drew1 | refine below_set ?_ GE317.out | refine below_set ?_ GE331.out) | exact HB.out)⟩
                          (try clear BK317)
                          (try clear BK331)
                          (try clear HB)
                          generalize (((((((((((w39.setCell ⟨gb331, 0, none⟩ (.int .i64 t320)).setCell ⟨gb331, 1, none⟩ (.int .i64 t321)).setCell ⟨gb331, 2, none⟩ (.int .i64 t322)).setCell ⟨gb331, 3, none⟩ (.int .i64 t323)).setCell ⟨gb331, 4, none⟩ (.int .i64 t324)).setCell ⟨gb331, 5, none⟩ (.int .i64 t325)).setCell ⟨gb331, 6, none⟩ (.int .i64 t326)).setCell ⟨gb331, 7, none⟩ (.int .i64 t327)).setCell ⟨gb331, 8, none⟩ (.int .i64 t328)).setCell ⟨gb331, 9, none⟩ (.int .i64 t329)).setCell ⟨gb331, 10, none⟩ (.int .i64 t330)) = w42 at n0_ n1_ n2_ ⊢
                          have BK317 := n0_
                          have BK331 := n1_
                          have HB := n2_
                          clear n0_ n1_ n2_
                          have n0_ := Aside0.mk (blk_drew BK317.out)
                          have n1_ := Aside0.mk (blk_drew BK331.out)
                          have n2_ := Aside0.mk (below_drew1 HB.out)
                          clear BK317
                          clear BK331
                          clear HB
                          have BK317 := n0_
                          have BK331 := n1_
                          have HB := n2_
                          clear n0_ n1_ n2_
                          refine start_ (n := 10) (S := fun w' => w'.cell? ⟨gb331, 0, none⟩ = some (.int .i64 t320) ∧ w'.cell? ⟨gb331, 1, none⟩ = some (.int .i64 t321) ∧ w'.cell? ⟨gb331, 2, none⟩ = some (.int .i64 t322) ∧ w'.cell? ⟨gb331, 3, none⟩ = some (.int .i64 t323) ∧ w'.cell? ⟨gb331, 4, none⟩ = some (.int .i64 t324) ∧ w'.cell? ⟨gb331, 5, none⟩ = some (.int .i64 t325) ∧ w'.cell? ⟨gb331, 6, none⟩ = some (.int .i64 t326) ∧ w'.cell? ⟨gb331, 7, none⟩ = some (.int .i64 t327) ∧ w'.cell? ⟨gb331, 8, none⟩ = some (.int .i64 t328) ∧ w'.cell? ⟨gb331, 9, none⟩ = some (.int .i64 t329) ∧ w'.cell? ⟨gb331, 10, none⟩ = some (.int .i64 t330) ∧ w'.cell? ⟨gb317, 0, none⟩ = some (.int .i64 x318000_1) ∧ w'.cell? ⟨gb317, 1, none⟩ = some (.int .i64 x318001_1) ∧ w'.cell? ⟨gb317, 2, none⟩ = some (.int .i64 x318002_1) ∧ w'.cell? ⟨gb317, 3, none⟩ = some (.int .i64 x318003_1) ∧ w'.cell? ⟨gb317, 4, none⟩ = some (.int .i64 x318004_1) ∧ w'.cell? ⟨gb317, 5, none⟩ = some (.int .i64 x318005_1) ∧ w'.cell? ⟨gb317, 6, none⟩ = some (.int .i64 x318006_1) ∧ w'.cell? ⟨gb317, 7, none⟩ = some (.int .i64 x318007_1) ∧ w'.cell? ⟨gb317, 8, none⟩ = some (.int .i64 x318008_1) ∧ w'.cell? ⟨gb317, 9, none⟩ = some (.int .i64 x318009_1) ∧ w'.cell? ⟨gb317, 10, none⟩ = some (.int .i64 x318010_1)) (ds := []) #[false, false, false, false, false, false, false, false, false, false] (by kernel_rfl) rfl rfl ⟨(blk_cell BK331.out 0).trans rfl, (blk_cell BK331.out 1).trans rfl, (blk_cell BK331.out 2).trans rfl, (blk_cell BK331.out 3).trans rfl, (blk_cell BK331.out 4).trans rfl, (blk_cell BK331.out 5).trans rfl, (blk_cell BK331.out 6).trans rfl, (blk_cell BK331.out 7).trans rfl, (blk_cell BK331.out 8).trans rfl, (blk_cell BK331.out 9).trans rfl, (blk_cell BK331.out 10).trans rfl, (blk_cell BK317.out 0).trans rfl, (blk_cell BK317.out 1).trans rfl, (blk_cell BK317.out 2).trans rfl, (blk_cell BK317.out 3).trans rfl, (blk_cell BK317.out 4).trans rfl, (blk_cell BK317.out 5).trans rfl, (blk_cell BK317.out 6).trans rfl, (blk_cell BK317.out 7).trans rfl, (blk_cell BK317.out 8).trans rfl, (blk_cell BK317.out 9).trans rfl, (blk_cell BK317.out 10).trans rfl⟩ (fun hHeld => ?_); refine with_tabW hawalalaw14_SagaMost.tab9 hawalalaw14_SagaMost.bits9 (fun HT_ HW_ => ?_)
                          generalize w42.drew = w43 at BK317 BK331 HB hHeld ⊢
                          refine take_ (i := 0) (N := some 32) (v := ?_) (a' := ?_) #[true, false, false, false, false, false, false, false, false, false] rfl rfl (take_ofW HT_.out HW_.out (by kernel_rfl)) (fun _ _ _ h => h) (Or.inl ⟨by rfl, ?_⟩) hHeld ?_ ?_
                          rotate_left
                          · rintro w' ⟨s0, s1, s2, s3, s4, s5, s6, s7, s8, s9, s10, s11, s12, s13, s14, s15, s16, s17, s18, s19, s20, s21⟩
                            go_simp
                            with_reducible rfl
                          rotate_left
                          · simp only [Act.put, List.setIfInBounds_toArray, List.set_cons_zero, List.set_cons_succ, i64_w, i32_w]
                            rfl
                          refine take_ (i := 2) (N := some 34) (v := ?_) (a' := ?_) #[true, false, true, false, false, false, false, false, false, false] rfl rfl (take_ofW HT_.out HW_.out (by kernel_rfl)) (fun _ _ _ h => h) (Or.inl ⟨by rfl, ?_⟩) hHeld ?_ ?_
                          rotate_left
                          · rintro w' ⟨s0, s1, s2, s3, s4, s5, s6, s7, s8, s9, s10, s11, s12, s13, s14, s15, s16, s17, s18, s19, s20, s21⟩
                            go_simp
                            with_reducible rfl
                          rotate_left
                          · simp only [Act.put, List.setIfInBounds_toArray, List.set_cons_zero, List.set_cons_succ, i64_w, i32_w]
                            rfl
                          refine one_ (i := 1) (N := some 33) #[true, true, true, false, false, false, false, false, false, false] rfl rfl (one_of HT_.out (by kernel_rfl)) (by decide) (fun K hK => ?_)
                          refine goes_ Try.func12 (by kernel_rfl) rfl #[.agg #[.int .i64 t320, .int .i64 t321, .int .i64 t322, .int .i64 t323, .int .i64 t324, .int .i64 t325, .int .i64 t326, .int .i64 t327, .int .i64 t328, .int .i64 t329, .int .i64 t330]] (by rfl) rfl rfl (by (try simp only [List.map_toArray, List.map_cons, List.map_nil]); first | done | rfl | (simp only [List.length_drop, List.length_take]; rfl)) ?_
                          with_reducible refine (saga_Most.calls t320 t321 t322 t323 t324 t325 t326 t327 t328 t329 t330 t332 _ A23.out).mono ?_
                          rintro e w44 ⟨rfl, hb⟩
                          refine ⟨_, rfl, ?_⟩
                          have n0_ := Aside0.mk (blk_below (g := gb317) (o := .cells #[.int .i64 x318000_1, .int .i64 x318001_1, .int .i64 x318002_1, .int .i64 x318003_1, .int .i64 x318004_1, .int .i64 x318005_1, .int .i64 x318006_1, .int .i64 x318007_1, .int .i64 x318008_1, .int .i64 x318009_1, .int .i64 x318010_1] 30 (0, 0)) (by (with_reducible repeat (first | refine blk_drewN ?_ _ | refine blk_drew ?_ | refine blk_alloc ?_ _)); exact BK317.out) hb)
                          have n1_ := Aside0.mk (blk_below (g := gb331) (o := .cells #[.int .i64 t320, .int .i64 t321, .int .i64 t322, .int .i64 t323, .int .i64 t324, .int .i64 t325, .int .i64 t326, .int .i64 t327, .int .i64 t328, .int .i64 t329, .int .i64 t330] 30 (0, 0)) (by (with_reducible repeat (first | refine blk_drewN ?_ _ | refine blk_drew ?_ | refine blk_alloc ?_ _)); exact BK331.out) hb)
                          have n2_ := Aside0.mk (below_step (by repeat (first | (with_reducible first | exact HB.out | apply below_alloc | apply pw_below_drewN | apply below_drew1 | refine below_set ?_ GE317.out | refine below_set ?_ GE331.out) | exact HB.out)) hb)
                          clear BK317
                          clear BK331
                          clear HB
                          have BK317 := n0_
                          have BK331 := n1_
                          have HB := n2_
                          clear n0_ n1_ n2_
                          (try clear hb)
                          (try clear hb2)
                          (try clear hk)
                          (try clear hi)
                          refine hK.out _ _ ⟨(blk_cell BK331.out 0).trans rfl, (blk_cell BK331.out 1).trans rfl, (blk_cell BK331.out 2).trans rfl, (blk_cell BK331.out 3).trans rfl, (blk_cell BK331.out 4).trans rfl, (blk_cell BK331.out 5).trans rfl, (blk_cell BK331.out 6).trans rfl, (blk_cell BK331.out 7).trans rfl, (blk_cell BK331.out 8).trans rfl, (blk_cell BK331.out 9).trans rfl, (blk_cell BK331.out 10).trans rfl, (blk_cell BK317.out 0).trans rfl, (blk_cell BK317.out 1).trans rfl, (blk_cell BK317.out 2).trans rfl, (blk_cell BK317.out 3).trans rfl, (blk_cell BK317.out 4).trans rfl, (blk_cell BK317.out 5).trans rfl, (blk_cell BK317.out 6).trans rfl, (blk_cell BK317.out 7).trans rfl, (blk_cell BK317.out 8).trans rfl, (blk_cell BK317.out 9).trans rfl, (blk_cell BK317.out 10).trans rfl⟩ (fun hHeld => ?_)
                          clear hK K
                          refine norm_ (a' := ?_) ?_ ?_
                          rotate_left
                          · show Act.put _ (some 33) _ = _
                            simp only [Act.put, List.setIfInBounds_toArray, List.set_cons_zero, List.set_cons_succ, i64_w, i32_w]
                            rfl
                          refine one_ (i := 3) (N := some 35) #[true, true, true, true, false, false, false, false, false, false] rfl rfl (one_of HT_.out (by kernel_rfl)) (by decide) (fun K hK => ?_)
                          refine goes_ Try.func12 (by kernel_rfl) rfl #[.agg #[.int .i64 x318000_1, .int .i64 x318001_1, .int .i64 x318002_1, .int .i64 x318003_1, .int .i64 x318004_1, .int .i64 x318005_1, .int .i64 x318006_1, .int .i64 x318007_1, .int .i64 x318008_1, .int .i64 x318009_1, .int .i64 x318010_1]] (by rfl) rfl rfl (by (try simp only [List.map_toArray, List.map_cons, List.map_nil]); first | done | rfl | (simp only [List.length_drop, List.length_take]; rfl)) ?_
                          with_reducible refine (saga_Most.calls x318000_1 x318001_1 x318002_1 x318003_1 x318004_1 x318005_1 x318006_1 x318007_1 x318008_1 x318009_1 x318010_1 t333 _ A24.out).mono ?_
                          rintro e w45 ⟨rfl, hb⟩
                          refine ⟨_, rfl, ?_⟩
                          have n0_ := Aside0.mk (blk_below (g := gb317) (o := .cells #[.int .i64 x318000_1, .int .i64 x318001_1, .int .i64 x318002_1, .int .i64 x318003_1, .int .i64 x318004_1, .int .i64 x318005_1, .int .i64 x318006_1, .int .i64 x318007_1, .int .i64 x318008_1, .int .i64 x318009_1, .int .i64 x318010_1] 30 (0, 0)) (by (with_reducible repeat (first | refine blk_drewN ?_ _ | refine blk_drew ?_ | refine blk_alloc ?_ _)); exact BK317.out) hb)
                          have n1_ := Aside0.mk (blk_below (g := gb331) (o := .cells #[.int .i64 t320, .int .i64 t321, .int .i64 t322, .int .i64 t323, .int .i64 t324, .int .i64 t325, .int .i64 t326, .int .i64 t327, .int .i64 t328, .int .i64 t329, .int .i64 t330] 30 (0, 0)) (by (with_reducible repeat (first | refine blk_drewN ?_ _ | refine blk_drew ?_ | refine blk_alloc ?_ _)); exact BK331.out) hb)
                          have n2_ := Aside0.mk (below_step (by repeat (first | (with_reducible first | exact HB.out | apply below_alloc | apply pw_below_drewN | apply below_drew1 | refine below_set ?_ GE317.out | refine below_set ?_ GE331.out) | exact HB.out)) hb)
                          clear BK317
                          clear BK331
                          clear HB
                          have BK317 := n0_
                          have BK331 := n1_
                          have HB := n2_
                          clear n0_ n1_ n2_
                          (try clear hb)
                          (try clear hb2)
                          (try clear hk)
                          (try clear hi)
                          refine hK.out _ _ ⟨(blk_cell BK331.out 0).trans rfl, (blk_cell BK331.out 1).trans rfl, (blk_cell BK331.out 2).trans rfl, (blk_cell BK331.out 3).trans rfl, (blk_cell BK331.out 4).trans rfl, (blk_cell BK331.out 5).trans rfl, (blk_cell BK331.out 6).trans rfl, (blk_cell BK331.out 7).trans rfl, (blk_cell BK331.out 8).trans rfl, (blk_cell BK331.out 9).trans rfl, (blk_cell BK331.out 10).trans rfl, (blk_cell BK317.out 0).trans rfl, (blk_cell BK317.out 1).trans rfl, (blk_cell BK317.out 2).trans rfl, (blk_cell BK317.out 3).trans rfl, (blk_cell BK317.out 4).trans rfl, (blk_cell BK317.out 5).trans rfl, (blk_cell BK317.out 6).trans rfl, (blk_cell BK317.out 7).trans rfl, (blk_cell BK317.out 8).trans rfl, (blk_cell BK317.out 9).trans rfl, (blk_cell BK317.out 10).trans rfl⟩ (fun hHeld => ?_)
                          clear hK K
                          refine norm_ (a' := ?_) ?_ ?_
                          rotate_left
                          · show Act.put _ (some 35) _ = _
                            simp only [Act.put, List.setIfInBounds_toArray, List.set_cons_zero, List.set_cons_succ, i64_w, i32_w]
                            rfl
                          refine pure_ (i := 4) (N := some 36) (v := ?_) (a' := ?_) #[true, true, true, true, true, false, false, false, false, false] rfl rfl (any_of HT_.out (by kernel_rfl)) (fun _ _ _ h => h) (Or.inl ⟨by rfl, ?_⟩) ?_ ?_
                          rotate_left
                          · intro w'
                            go_simp
                            with_reducible rfl
                          rotate_left
                          · simp only [Act.put, List.setIfInBounds_toArray, List.set_cons_zero, List.set_cons_succ, i64_w, i32_w]
                            rfl
                          refine pure_ (i := 5) (N := some 37) (v := ?_) (a' := ?_) #[true, true, true, true, true, true, false, false, false, false] rfl rfl (any_of HT_.out (by kernel_rfl)) (fun _ _ _ h => h) (Or.inl ⟨by rfl, ?_⟩) ?_ ?_
                          rotate_left
                          · intro w'
                            go_simp
                            with_reducible rfl
                          rotate_left
                          · simp only [Act.put, List.setIfInBounds_toArray, List.set_cons_zero, List.set_cons_succ, i64_w, i32_w]
                            rfl
                          refine take_ (i := 6) (N := some 38) (v := ?_) (a' := ?_) #[true, true, true, true, true, true, true, false, false, false] rfl rfl (take_ofW HT_.out HW_.out (by kernel_rfl)) (fun _ _ _ h => h) (Or.inl ⟨by rfl, ?_⟩) hHeld ?_ ?_
                          rotate_left
                          · rintro w' ⟨s0, s1, s2, s3, s4, s5, s6, s7, s8, s9, s10, s11, s12, s13, s14, s15, s16, s17, s18, s19, s20, s21⟩
                            go_simp
                            with_reducible rfl
                          rotate_left
                          · simp only [Act.put, List.setIfInBounds_toArray, List.set_cons_zero, List.set_cons_succ, i64_w, i32_w]
                            rfl
                          refine one_ (i := 7) (N := some 39) #[true, true, true, true, true, true, true, true, false, false] rfl rfl (one_of HT_.out (by kernel_rfl)) (by decide) (fun K hK => ?_)
                          refine goes_ Try.func12 (by kernel_rfl) rfl #[.agg #[.int .i64 t320, .int .i64 t321, .int .i64 t322, .int .i64 t323, .int .i64 t324, .int .i64 t325, .int .i64 t326, .int .i64 t327, .int .i64 t328, .int .i64 t329, .int .i64 t330]] (by rfl) rfl rfl (by (try simp only [List.map_toArray, List.map_cons, List.map_nil]); first | done | rfl | (simp only [List.length_drop, List.length_take]; rfl)) ?_
                          with_reducible refine (saga_Most.calls t320 t321 t322 t323 t324 t325 t326 t327 t328 t329 t330 t334 _ A35.out).mono ?_
                          rintro e w46 ⟨rfl, hb⟩
                          refine ⟨_, rfl, ?_⟩
                          have n0_ := Aside0.mk (blk_below (g := gb317) (o := .cells #[.int .i64 x318000_1, .int .i64 x318001_1, .int .i64 x318002_1, .int .i64 x318003_1, .int .i64 x318004_1, .int .i64 x318005_1, .int .i64 x318006_1, .int .i64 x318007_1, .int .i64 x318008_1, .int .i64 x318009_1, .int .i64 x318010_1] 30 (0, 0)) (by (with_reducible repeat (first | refine blk_drewN ?_ _ | refine blk_drew ?_ | refine blk_alloc ?_ _)); exact BK317.out) hb)
                          have n1_ := Aside0.mk (blk_below (g := gb331) (o := .cells #[.int .i64 t320, .int .i64 t321, .int .i64 t322, .int .i64 t323, .int .i64 t324, .int .i64 t325, .int .i64 t326, .int .i64 t327, .int .i64 t328, .int .i64 t329, .int .i64 t330] 30 (0, 0)) (by (with_reducible repeat (first | refine blk_drewN ?_ _ | refine blk_drew ?_ | refine blk_alloc ?_ _)); exact BK331.out) hb)
                          have n2_ := Aside0.mk (below_step (by repeat (first | (with_reducible first | exact HB.out | apply below_alloc | apply pw_below_drewN | apply below_drew1 | refine below_set ?_ GE317.out | refine below_set ?_ GE331.out) | exact HB.out)) hb)
                          clear BK317
                          clear BK331
                          clear HB
                          have BK317 := n0_
                          have BK331 := n1_
                          have HB := n2_
                          clear n0_ n1_ n2_
                          (try clear hb)
                          (try clear hb2)
                          (try clear hk)
                          (try clear hi)
                          refine hK.out _ _ ⟨(blk_cell BK331.out 0).trans rfl, (blk_cell BK331.out 1).trans rfl, (blk_cell BK331.out 2).trans rfl, (blk_cell BK331.out 3).trans rfl, (blk_cell BK331.out 4).trans rfl, (blk_cell BK331.out 5).trans rfl, (blk_cell BK331.out 6).trans rfl, (blk_cell BK331.out 7).trans rfl, (blk_cell BK331.out 8).trans rfl, (blk_cell BK331.out 9).trans rfl, (blk_cell BK331.out 10).trans rfl, (blk_cell BK317.out 0).trans rfl, (blk_cell BK317.out 1).trans rfl, (blk_cell BK317.out 2).trans rfl, (blk_cell BK317.out 3).trans rfl, (blk_cell BK317.out 4).trans rfl, (blk_cell BK317.out 5).trans rfl, (blk_cell BK317.out 6).trans rfl, (blk_cell BK317.out 7).trans rfl, (blk_cell BK317.out 8).trans rfl, (blk_cell BK317.out 9).trans rfl, (blk_cell BK317.out 10).trans rfl⟩ (fun hHeld => ?_)
                          clear hK K
                          refine norm_ (a' := ?_) ?_ ?_
                          rotate_left
                          · show Act.put _ (some 39) _ = _
                            simp only [Act.put, List.setIfInBounds_toArray, List.set_cons_zero, List.set_cons_succ, i64_w, i32_w]
                            rfl
                          refine pure_ (i := 8) (N := some 40) (v := ?_) (a' := ?_) #[true, true, true, true, true, true, true, true, true, false] rfl rfl (any_of HT_.out (by kernel_rfl)) (fun _ _ _ h => h) (Or.inl ⟨by rfl, ?_⟩) ?_ ?_
                          rotate_left
                          · intro w'
                            go_simp
                            with_reducible rfl
                          rotate_left
                          · simp only [Act.put, List.setIfInBounds_toArray, List.set_cons_zero, List.set_cons_succ, i64_w, i32_w]
                            rfl
                          refine pure_ (i := 9) (N := some 41) (v := ?_) (a' := ?_) #[true, true, true, true, true, true, true, true, true, true] rfl rfl (any_of HT_.out (by kernel_rfl)) (fun _ _ _ h => h) (Or.inl ⟨by rfl, ?_⟩) ?_ ?_
                          rotate_left
                          · intro w'
                            go_simp
                            with_reducible rfl
                          rotate_left
                          · simp only [Act.put, List.setIfInBounds_toArray, List.set_cons_zero, List.set_cons_succ, i64_w, i32_w]
                            rfl
                          refine done_ (done_of HT_.out (by kernel_rfl)) ?_
                          try go_wp2
                          go_ret
                          exact ⟨by first | rfl | (simp [errW_none, errW_some] <;> rfl) | (simp [*, errW_none, errW_some] <;> rfl), by repeat (first | (with_reducible first | exact HB.out | apply below_alloc | apply pw_below_drewN | apply below_drew1 | refine below_set ?_ GE317.out | refine below_set ?_ GE331.out) | exact HB.out)⟩
                        · rw [if_neg c36] at H
                          have c36b0 : decide (t334 < 1) = false := decide_eq_false c36
                          clear c36
                          have H' := Aside0.mk H
                          clear H
                          have hcz47_0 : wc.cell? ⟨gb317, 0, none⟩ = some (.int .i64 x318000_1) := (blk_cell BK317.out 0).trans rfl
                          have hcz47_1 : wc.cell? ⟨gb317, 1, none⟩ = some (.int .i64 x318001_1) := (blk_cell BK317.out 1).trans rfl
                          have hcz47_2 : wc.cell? ⟨gb317, 2, none⟩ = some (.int .i64 x318002_1) := (blk_cell BK317.out 2).trans rfl
                          have hcz47_3 : wc.cell? ⟨gb317, 3, none⟩ = some (.int .i64 x318003_1) := (blk_cell BK317.out 3).trans rfl
                          have hcz47_4 : wc.cell? ⟨gb317, 4, none⟩ = some (.int .i64 x318004_1) := (blk_cell BK317.out 4).trans rfl
                          have hcz47_5 : wc.cell? ⟨gb317, 5, none⟩ = some (.int .i64 x318005_1) := (blk_cell BK317.out 5).trans rfl
                          have hcz47_6 : wc.cell? ⟨gb317, 6, none⟩ = some (.int .i64 x318006_1) := (blk_cell BK317.out 6).trans rfl
                          have hcz47_7 : wc.cell? ⟨gb317, 7, none⟩ = some (.int .i64 x318007_1) := (blk_cell BK317.out 7).trans rfl
                          have hcz47_8 : wc.cell? ⟨gb317, 8, none⟩ = some (.int .i64 x318008_1) := (blk_cell BK317.out 8).trans rfl
                          have hcz47_9 : wc.cell? ⟨gb317, 9, none⟩ = some (.int .i64 x318009_1) := (blk_cell BK317.out 9).trans rfl
                          have hcz47_10 : wc.cell? ⟨gb317, 10, none⟩ = some (.int .i64 x318010_1) := (blk_cell BK317.out 10).trans rfl
                          have hfz47_0 := blk_frozen BK317.out 0
                          have hfz47_1 := blk_frozen BK317.out 1
                          have hfz47_2 := blk_frozen BK317.out 2
                          have hfz47_3 := blk_frozen BK317.out 3
                          have hfz47_4 := blk_frozen BK317.out 4
                          have hfz47_5 := blk_frozen BK317.out 5
                          have hfz47_6 := blk_frozen BK317.out 6
                          have hfz47_7 := blk_frozen BK317.out 7
                          have hfz47_8 := blk_frozen BK317.out 8
                          have hfz47_9 := blk_frozen BK317.out 9
                          have hfz47_10 := blk_frozen BK317.out 10
                          try go_wp2_with (first | ((with_reducible refine gate_callee (f := 10) rfl ?_); refine goesL_ (some 31) rfl rfl Try.func10 (by kernel_rfl) rfl #[.agg #[.int .i64 x318000_1, .int .i64 x318001_1, .int .i64 x318002_1, .int .i64 x318003_1, .int .i64 x318004_1, .int .i64 x318005_1, .int .i64 x318006_1, .int .i64 x318007_1, .int .i64 x318008_1, .int .i64 x318009_1, .int .i64 x318010_1], .bool (rdOf false l2 x18_1)] rfl (by (try simp only [List.map_toArray, List.map_cons, List.map_nil]); first | done | rfl | (simp only [List.length_drop, List.length_take]; rfl)) ?_; (with_reducible refine (saga_Leg.calls kj14 x318000_1 x318001_1 x318002_1 x318003_1 x318004_1 x318005_1 x318006_1 x318007_1 x318008_1 x318009_1 x318010_1 (rdOf false l2 x18_1) t320 t321 t322 t323 t324 t325 t326 t327 t328 t329 t330 _ A22.out).mono ?_); rintro e w48 ⟨rfl, hb⟩; refine ⟨_, rfl, ?_⟩; have n0_ := Aside0.mk (blk_below (g := gb317) (o := .cells #[.int .i64 x318000_1, .int .i64 x318001_1, .int .i64 x318002_1, .int .i64 x318003_1, .int .i64 x318004_1, .int .i64 x318005_1, .int .i64 x318006_1, .int .i64 x318007_1, .int .i64 x318008_1, .int .i64 x318009_1, .int .i64 x318010_1] 30 (0, 0)) (by (with_reducible repeat (first | refine blk_drewN ?_ _ | refine blk_drew ?_ | refine blk_alloc ?_ _)); exact BK317.out) hb); have n1_ := Aside0.mk (below_step (by repeat (first | (with_reducible first | exact HB.out | apply below_alloc | apply pw_below_drewN | apply below_drew1 | refine below_set ?_ GE317.out) | exact HB.out)) hb); clear BK317; clear HB; have BK317 := n0_; have HB := n1_; clear n0_ n1_; (try clear hb); (try clear hb2); (try clear hk); (try clear hi)) | ((with_reducible refine gate_dst (N := 10) rfl ?_); refine box_event ?hg (N := 10) ?hd (cs := #[.int .i64 0, .int .i64 0, .int .i64 0, .int .i64 0, .int .i64 0, .int .i64 0, .int .i64 0, .int .i64 0, .int .i64 0, .int .i64 0, .int .i64 0]) (t := 30) ?hr ?_; (case hd => rfl); (case hg => rfl); (case hr => first | (go_simp; done) | (go_simp; rfl)); intro gb331 hg w49 hbox hb; have n0_ := Aside0.mk (blk_below (g := gb317) (o := .cells #[.int .i64 x318000_1, .int .i64 x318001_1, .int .i64 x318002_1, .int .i64 x318003_1, .int .i64 x318004_1, .int .i64 x318005_1, .int .i64 x318006_1, .int .i64 x318007_1, .int .i64 x318008_1, .int .i64 x318009_1, .int .i64 x318010_1] 30 (0, 0)) (by (with_reducible repeat (first | refine blk_drewN ?_ _ | refine blk_drew ?_ | refine blk_alloc ?_ _)); exact BK317.out) hb); have n1_ := Aside0.mk (below_step (by repeat (first | (with_reducible first | exact HB.out | apply below_alloc | apply pw_below_drewN | apply below_drew1 | refine below_set ?_ GE317.out) | exact HB.out)) hb); have n2_ := Aside0.mk (hbox); have n3_ := Aside0.mk ((by rw [hg]; exact (below_size (by repeat (first | (with_reducible first | exact HB.out | apply below_alloc | apply pw_below_drewN | apply below_drew1 | refine below_set ?_ GE317.out) | exact HB.out))) : w.heap.size ≤ gb331)); have n4_ := Aside0.mk ((by rw [hg]; exact (below_size (by repeat (first | (with_reducible first | exact HB.out | apply below_alloc | apply pw_below_drewN | apply below_drew1 | refine below_set ?_ GE317.out) | exact HB.out))) : w.heap.size ≤ gb331)); have n5_ := Aside0.mk ((by rw [hg]; exact Nat.ne_of_lt (blk_lt (g := gb317) (o := .cells #[.int .i64 x318000_1, .int .i64 x318001_1, .int .i64 x318002_1, .int .i64 x318003_1, .int .i64 x318004_1, .int .i64 x318005_1, .int .i64 x318006_1, .int .i64 x318007_1, .int .i64 x318008_1, .int .i64 x318009_1, .int .i64 x318010_1] 30 (0, 0)) (by (with_reducible repeat (first | refine blk_drewN ?_ _ | refine blk_drew ?_ | refine blk_alloc ?_ _)); exact BK317.out)) : gb317 ≠ gb331)); have n6_ := Aside0.mk ((by rw [hg]; exact Nat.ne_of_gt (blk_lt (g := gb317) (o := .cells #[.int .i64 x318000_1, .int .i64 x318001_1, .int .i64 x318002_1, .int .i64 x318003_1, .int .i64 x318004_1, .int .i64 x318005_1, .int .i64 x318006_1, .int .i64 x318007_1, .int .i64 x318008_1, .int .i64 x318009_1, .int .i64 x318010_1] 30 (0, 0)) (by (with_reducible repeat (first | refine blk_drewN ?_ _ | refine blk_drew ?_ | refine blk_alloc ?_ _)); exact BK317.out)) : gb331 ≠ gb317)); clear BK317; clear HB; have BK317 := n0_; have HB := n1_; have BK331 := n2_; have GW331 := n3_; have GE331 := n4_; have NB317_331 := n5_; have NB331_317 := n6_; clear n0_ n1_ n2_ n3_ n4_ n5_ n6_; clear hb hbox hg; have hnb50 := NB331_317.out; have hnc50 := NB317_331.out; have hcz51_0 : w49.cell? ⟨gb331, 0, none⟩ = some (.int .i64 0) := (blk_cell BK331.out 0).trans rfl; have hcz51_1 : w49.cell? ⟨gb331, 1, none⟩ = some (.int .i64 0) := (blk_cell BK331.out 1).trans rfl; have hcz51_2 : w49.cell? ⟨gb331, 2, none⟩ = some (.int .i64 0) := (blk_cell BK331.out 2).trans rfl; have hcz51_3 : w49.cell? ⟨gb331, 3, none⟩ = some (.int .i64 0) := (blk_cell BK331.out 3).trans rfl; have hcz51_4 : w49.cell? ⟨gb331, 4, none⟩ = some (.int .i64 0) := (blk_cell BK331.out 4).trans rfl; have hcz51_5 : w49.cell? ⟨gb331, 5, none⟩ = some (.int .i64 0) := (blk_cell BK331.out 5).trans rfl; have hcz51_6 : w49.cell? ⟨gb331, 6, none⟩ = some (.int .i64 0) := (blk_cell BK331.out 6).trans rfl; have hcz51_7 : w49.cell? ⟨gb331, 7, none⟩ = some (.int .i64 0) := (blk_cell BK331.out 7).trans rfl; have hcz51_8 : w49.cell? ⟨gb331, 8, none⟩ = some (.int .i64 0) := (blk_cell BK331.out 8).trans rfl; have hcz51_9 : w49.cell? ⟨gb331, 9, none⟩ = some (.int .i64 0) := (blk_cell BK331.out 9).trans rfl; have hcz51_10 : w49.cell? ⟨gb331, 10, none⟩ = some (.int .i64 0) := (blk_cell BK331.out 10).trans rfl; have hfz51_0 := blk_frozen BK331.out 0; have hfz51_1 := blk_frozen BK331.out 1; have hfz51_2 := blk_frozen BK331.out 2; have hfz51_3 := blk_frozen BK331.out 3; have hfz51_4 := blk_frozen BK331.out 4; have hfz51_5 := blk_frozen BK331.out 5; have hfz51_6 := blk_frozen BK331.out 6; have hfz51_7 := blk_frozen BK331.out 7; have hfz51_8 := blk_frozen BK331.out 8; have hfz51_9 := blk_frozen BK331.out 9; have hfz51_10 := blk_frozen BK331.out 10))
                          have n0_ : Aside0 ((((((((((((w49.setCell ⟨gb331, 0, none⟩ (.int .i64 t320)).setCell ⟨gb331, 1, none⟩ (.int .i64 t321)).setCell ⟨gb331, 2, none⟩ (.int .i64 t322)).setCell ⟨gb331, 3, none⟩ (.int .i64 t323)).setCell ⟨gb331, 4, none⟩ (.int .i64 t324)).setCell ⟨gb331, 5, none⟩ (.int .i64 t325)).setCell ⟨gb331, 6, none⟩ (.int .i64 t326)).setCell ⟨gb331, 7, none⟩ (.int .i64 t327)).setCell ⟨gb331, 8, none⟩ (.int .i64 t328)).setCell ⟨gb331, 9, none⟩ (.int .i64 t329)).setCell ⟨gb331, 10, none⟩ (.int .i64 t330)).heap[gb317]? = some (.cells #[.int .i64 x318000_1, .int .i64 x318001_1, .int .i64 x318002_1, .int .i64 x318003_1, .int .i64 x318004_1, .int .i64 x318005_1, .int .i64 x318006_1, .int .i64 x318007_1, .int .i64 x318008_1, .int .i64 x318009_1, .int .i64 x318010_1] 30 (0, 0))) := ⟨by (with_reducible repeat (first | refine blk_drewN ?_ _ | refine blk_drew ?_ | refine blk_alloc ?_ _)); refine blk_far ?_ NB317_331.out _; (with_reducible repeat (first | refine blk_drewN ?_ _ | refine blk_drew ?_ | refine blk_alloc ?_ _)); refine blk_far ?_ NB317_331.out _; (with_reducible repeat (first | refine blk_drewN ?_ _ | refine blk_drew ?_ | refine blk_alloc ?_ _)); refine blk_far ?_ NB317_331.out _; (with_reducible repeat (first | refine blk_drewN ?_ _ | refine blk_drew ?_ | refine blk_alloc ?_ _)); refine blk_far ?_ NB317_331.out _; (with_reducible repeat (first | refine blk_drewN ?_ _ | refine blk_drew ?_ | refine blk_alloc ?_ _)); refine blk_far ?_ NB317_331.out _; (with_reducible repeat (first | refine blk_drewN ?_ _ | refine blk_drew ?_ | refine blk_alloc ?_ _)); refine blk_far ?_ NB317_331.out _; (with_reducible repeat (first | refine blk_drewN ?_ _ | refine blk_drew ?_ | refine blk_alloc ?_ _)); refine blk_far ?_ NB317_331.out _; (with_reducible repeat (first | refine blk_drewN ?_ _ | refine blk_drew ?_ | refine blk_alloc ?_ _)); refine blk_far ?_ NB317_331.out _; (with_reducible repeat (first | refine blk_drewN ?_ _ | refine blk_drew ?_ | refine blk_alloc ?_ _)); refine blk_far ?_ NB317_331.out _; (with_reducible repeat (first | refine blk_drewN ?_ _ | refine blk_drew ?_ | refine blk_alloc ?_ _)); refine blk_far ?_ NB317_331.out _; (with_reducible repeat (first | refine blk_drewN ?_ _ | refine blk_drew ?_ | refine blk_alloc ?_ _)); refine blk_far ?_ NB317_331.out _; (with_reducible repeat (first | refine blk_drewN ?_ _ | refine blk_drew ?_ | refine blk_alloc ?_ _)); exact BK317.out⟩
                          have n1_ : Aside0 ((((((((((((w49.setCell ⟨gb331, 0, none⟩ (.int .i64 t320)).setCell ⟨gb331, 1, none⟩ (.int .i64 t321)).setCell ⟨gb331, 2, none⟩ (.int .i64 t322)).setCell ⟨gb331, 3, none⟩ (.int .i64 t323)).setCell ⟨gb331, 4, none⟩ (.int .i64 t324)).setCell ⟨gb331, 5, none⟩ (.int .i64 t325)).setCell ⟨gb331, 6, none⟩ (.int .i64 t326)).setCell ⟨gb331, 7, none⟩ (.int .i64 t327)).setCell ⟨gb331, 8, none⟩ (.int .i64 t328)).setCell ⟨gb331, 9, none⟩ (.int .i64 t329)).setCell ⟨gb331, 10, none⟩ (.int .i64 t330)).heap[gb331]? = some (.cells #[.int .i64 t320, .int .i64 t321, .int .i64 t322, .int .i64 t323, .int .i64 t324, .int .i64 t325, .int .i64 t326, .int .i64 t327, .int .i64 t328, .int .i64 t329, .int .i64 t330] 30 (0, 0))) := ⟨by (with_reducible repeat (first | refine blk_drewN ?_ _ | refine blk_drew ?_ | refine blk_alloc ?_ _)); refine blk_put (cs := #[.int .i64 t320, .int .i64 t321, .int .i64 t322, .int .i64 t323, .int .i64 t324, .int .i64 t325, .int .i64 t326, .int .i64 t327, .int .i64 t328, .int .i64 t329, .int .i64 0]) ?_ 10 _ rfl; (with_reducible repeat (first | refine blk_drewN ?_ _ | refine blk_drew ?_ | refine blk_alloc ?_ _)); refine blk_put (cs := #[.int .i64 t320, .int .i64 t321, .int .i64 t322, .int .i64 t323, .int .i64 t324, .int .i64 t325, .int .i64 t326, .int .i64 t327, .int .i64 t328, .int .i64 0, .int .i64 0]) ?_ 9 _ rfl; (with_reducible repeat (first | refine blk_drewN ?_ _ | refine blk_drew ?_ | refine blk_alloc ?_ _)); refine blk_put (cs := #[.int .i64 t320, .int .i64 t321, .int .i64 t322, .int .i64 t323, .int .i64 t324, .int .i64 t325, .int .i64 t326, .int .i64 t327, .int .i64 0, .int .i64 0, .int .i64 0]) ?_ 8 _ rfl; (with_reducible repeat (first | refine blk_drewN ?_ _ | refine blk_drew ?_ | refine blk_alloc ?_ _)); refine blk_put (cs := #[.int .i64 t320, .int .i64 t321, .int .i64 t322, .int .i64 t323, .int .i64 t324, .int .i64 t325, .int .i64 t326, .int .i64 0, .int .i64 0, .int .i64 0, .int .i64 0]) ?_ 7 _ rfl; (with_reducible repeat (first | refine blk_drewN ?_ _ | refine blk_drew ?_ | refine blk_alloc ?_ _)); refine blk_put (cs := #[.int .i64 t320, .int .i64 t321, .int .i64 t322, .int .i64 t323, .int .i64 t324, .int .i64 t325, .int .i64 0, .int .i64 0, .int .i64 0, .int .i64 0, .int .i64 0]) ?_ 6 _ rfl; (with_reducible repeat (first | refine blk_drewN ?_ _ | refine blk_drew ?_ | refine blk_alloc ?_ _)); refine blk_put (cs := #[.int .i64 t320, .int .i64 t321, .int .i64 t322, .int .i64 t323, .int .i64 t324, .int .i64 0, .int .i64 0, .int .i64 0, .int .i64 0, .int .i64 0, .int .i64 0]) ?_ 5 _ rfl; (with_reducible repeat (first | refine blk_drewN ?_ _ | refine blk_drew ?_ | refine blk_alloc ?_ _)); refine blk_put (cs := #[.int .i64 t320, .int .i64 t321, .int .i64 t322, .int .i64 t323, .int .i64 0, .int .i64 0, .int .i64 0, .int .i64 0, .int .i64 0, .int .i64 0, .int .i64 0]) ?_ 4 _ rfl; (with_reducible repeat (first | refine blk_drewN ?_ _ | refine blk_drew ?_ | refine blk_alloc ?_ _)); refine blk_put (cs := #[.int .i64 t320, .int .i64 t321, .int .i64 t322, .int .i64 0, .int .i64 0, .int .i64 0, .int .i64 0, .int .i64 0, .int .i64 0, .int .i64 0, .int .i64 0]) ?_ 3 _ rfl; (with_reducible repeat (first | refine blk_drewN ?_ _ | refine blk_drew ?_ | refine blk_alloc ?_ _)); refine blk_put (cs := #[.int .i64 t320, .int .i64 t321, .int .i64 0, .int .i64 0, .int .i64 0, .int .i64 0, .int .i64 0, .int .i64 0, .int .i64 0, .int .i64 0, .int .i64 0]) ?_ 2 _ rfl; (with_reducible repeat (first | refine blk_drewN ?_ _ | refine blk_drew ?_ | refine blk_alloc ?_ _)); refine blk_put (cs := #[.int .i64 t320, .int .i64 0, .int .i64 0, .int .i64 0, .int .i64 0, .int .i64 0, .int .i64 0, .int .i64 0, .int .i64 0, .int .i64 0, .int .i64 0]) ?_ 1 _ rfl; (with_reducible repeat (first | refine blk_drewN ?_ _ | refine blk_drew ?_ | refine blk_alloc ?_ _)); refine blk_put (cs := #[.int .i64 0, .int .i64 0, .int .i64 0, .int .i64 0, .int .i64 0, .int .i64 0, .int .i64 0, .int .i64 0, .int .i64 0, .int .i64 0, .int .i64 0]) ?_ 0 _ rfl; (with_reducible repeat (first | refine blk_drewN ?_ _ | refine blk_drew ?_ | refine blk_alloc ?_ _)); exact BK331.out⟩
                          have n2_ : Aside0 (Below w.heap.size w (((((((((((w49.setCell ⟨gb331, 0, none⟩ (.int .i64 t320)).setCell ⟨gb331, 1, none⟩ (.int .i64 t321)).setCell ⟨gb331, 2, none⟩ (.int .i64 t322)).setCell ⟨gb331, 3, none⟩ (.int .i64 t323)).setCell ⟨gb331, 4, none⟩ (.int .i64 t324)).setCell ⟨gb331, 5, none⟩ (.int .i64 t325)).setCell ⟨gb331, 6, none⟩ (.int .i64 t326)).setCell ⟨gb331, 7, none⟩ (.int .i64 t327)).setCell ⟨gb331, 8, none⟩ (.int .i64 t328)).setCell ⟨gb331, 9, none⟩ (.int .i64 t329)).setCell ⟨gb331, 10, none⟩ (.int .i64 t330))) := ⟨by repeat (first | (with_reducible first | exact HB.out | apply below_alloc | apply pw_below_drewN | apply below_drew1 | refine below_set ?_ GE317.out | refine below_set ?_ GE331.out) | exact HB.out)⟩
                          (try clear BK317)
                          (try clear BK331)
                          (try clear HB)
                          generalize (((((((((((w49.setCell ⟨gb331, 0, none⟩ (.int .i64 t320)).setCell ⟨gb331, 1, none⟩ (.int .i64 t321)).setCell ⟨gb331, 2, none⟩ (.int .i64 t322)).setCell ⟨gb331, 3, none⟩ (.int .i64 t323)).setCell ⟨gb331, 4, none⟩ (.int .i64 t324)).setCell ⟨gb331, 5, none⟩ (.int .i64 t325)).setCell ⟨gb331, 6, none⟩ (.int .i64 t326)).setCell ⟨gb331, 7, none⟩ (.int .i64 t327)).setCell ⟨gb331, 8, none⟩ (.int .i64 t328)).setCell ⟨gb331, 9, none⟩ (.int .i64 t329)).setCell ⟨gb331, 10, none⟩ (.int .i64 t330)) = w52 at n0_ n1_ n2_ ⊢
                          have BK317 := n0_
                          have BK331 := n1_
                          have HB := n2_
                          clear n0_ n1_ n2_
                          have n0_ := Aside0.mk (blk_drew BK317.out)
                          have n1_ := Aside0.mk (blk_drew BK331.out)
                          have n2_ := Aside0.mk (below_drew1 HB.out)
                          clear BK317
                          clear BK331
                          clear HB
                          have BK317 := n0_
                          have BK331 := n1_
                          have HB := n2_
                          clear n0_ n1_ n2_
                          refine start_ (n := 10) (S := fun w' => w'.cell? ⟨gb331, 0, none⟩ = some (.int .i64 t320) ∧ w'.cell? ⟨gb331, 1, none⟩ = some (.int .i64 t321) ∧ w'.cell? ⟨gb331, 2, none⟩ = some (.int .i64 t322) ∧ w'.cell? ⟨gb331, 3, none⟩ = some (.int .i64 t323) ∧ w'.cell? ⟨gb331, 4, none⟩ = some (.int .i64 t324) ∧ w'.cell? ⟨gb331, 5, none⟩ = some (.int .i64 t325) ∧ w'.cell? ⟨gb331, 6, none⟩ = some (.int .i64 t326) ∧ w'.cell? ⟨gb331, 7, none⟩ = some (.int .i64 t327) ∧ w'.cell? ⟨gb331, 8, none⟩ = some (.int .i64 t328) ∧ w'.cell? ⟨gb331, 9, none⟩ = some (.int .i64 t329) ∧ w'.cell? ⟨gb331, 10, none⟩ = some (.int .i64 t330) ∧ w'.cell? ⟨gb317, 0, none⟩ = some (.int .i64 x318000_1) ∧ w'.cell? ⟨gb317, 1, none⟩ = some (.int .i64 x318001_1) ∧ w'.cell? ⟨gb317, 2, none⟩ = some (.int .i64 x318002_1) ∧ w'.cell? ⟨gb317, 3, none⟩ = some (.int .i64 x318003_1) ∧ w'.cell? ⟨gb317, 4, none⟩ = some (.int .i64 x318004_1) ∧ w'.cell? ⟨gb317, 5, none⟩ = some (.int .i64 x318005_1) ∧ w'.cell? ⟨gb317, 6, none⟩ = some (.int .i64 x318006_1) ∧ w'.cell? ⟨gb317, 7, none⟩ = some (.int .i64 x318007_1) ∧ w'.cell? ⟨gb317, 8, none⟩ = some (.int .i64 x318008_1) ∧ w'.cell? ⟨gb317, 9, none⟩ = some (.int .i64 x318009_1) ∧ w'.cell? ⟨gb317, 10, none⟩ = some (.int .i64 x318010_1)) (ds := []) #[false, false, false, false, false, false, false, false, false, false] (by kernel_rfl) rfl rfl ⟨(blk_cell BK331.out 0).trans rfl, (blk_cell BK331.out 1).trans rfl, (blk_cell BK331.out 2).trans rfl, (blk_cell BK331.out 3).trans rfl, (blk_cell BK331.out 4).trans rfl, (blk_cell BK331.out 5).trans rfl, (blk_cell BK331.out 6).trans rfl, (blk_cell BK331.out 7).trans rfl, (blk_cell BK331.out 8).trans rfl, (blk_cell BK331.out 9).trans rfl, (blk_cell BK331.out 10).trans rfl, (blk_cell BK317.out 0).trans rfl, (blk_cell BK317.out 1).trans rfl, (blk_cell BK317.out 2).trans rfl, (blk_cell BK317.out 3).trans rfl, (blk_cell BK317.out 4).trans rfl, (blk_cell BK317.out 5).trans rfl, (blk_cell BK317.out 6).trans rfl, (blk_cell BK317.out 7).trans rfl, (blk_cell BK317.out 8).trans rfl, (blk_cell BK317.out 9).trans rfl, (blk_cell BK317.out 10).trans rfl⟩ (fun hHeld => ?_); refine with_tabW hawalalaw14_SagaMost.tab9 hawalalaw14_SagaMost.bits9 (fun HT_ HW_ => ?_)
                          generalize w52.drew = w53 at BK317 BK331 HB hHeld ⊢
                          refine take_ (i := 0) (N := some 32) (v := ?_) (a' := ?_) #[true, false, false, false, false, false, false, false, false, false] rfl rfl (take_ofW HT_.out HW_.out (by kernel_rfl)) (fun _ _ _ h => h) (Or.inl ⟨by rfl, ?_⟩) hHeld ?_ ?_
                          rotate_left
                          · rintro w' ⟨s0, s1, s2, s3, s4, s5, s6, s7, s8, s9, s10, s11, s12, s13, s14, s15, s16, s17, s18, s19, s20, s21⟩
                            go_simp
                            with_reducible rfl
                          rotate_left
                          · simp only [Act.put, List.setIfInBounds_toArray, List.set_cons_zero, List.set_cons_succ, i64_w, i32_w]
                            rfl
                          refine take_ (i := 2) (N := some 34) (v := ?_) (a' := ?_) #[true, false, true, false, false, false, false, false, false, false] rfl rfl (take_ofW HT_.out HW_.out (by kernel_rfl)) (fun _ _ _ h => h) (Or.inl ⟨by rfl, ?_⟩) hHeld ?_ ?_
                          rotate_left
                          · rintro w' ⟨s0, s1, s2, s3, s4, s5, s6, s7, s8, s9, s10, s11, s12, s13, s14, s15, s16, s17, s18, s19, s20, s21⟩
                            go_simp
                            with_reducible rfl
                          rotate_left
                          · simp only [Act.put, List.setIfInBounds_toArray, List.set_cons_zero, List.set_cons_succ, i64_w, i32_w]
                            rfl
                          refine one_ (i := 1) (N := some 33) #[true, true, true, false, false, false, false, false, false, false] rfl rfl (one_of HT_.out (by kernel_rfl)) (by decide) (fun K hK => ?_)
                          refine goes_ Try.func12 (by kernel_rfl) rfl #[.agg #[.int .i64 t320, .int .i64 t321, .int .i64 t322, .int .i64 t323, .int .i64 t324, .int .i64 t325, .int .i64 t326, .int .i64 t327, .int .i64 t328, .int .i64 t329, .int .i64 t330]] (by rfl) rfl rfl (by (try simp only [List.map_toArray, List.map_cons, List.map_nil]); first | done | rfl | (simp only [List.length_drop, List.length_take]; rfl)) ?_
                          with_reducible refine (saga_Most.calls t320 t321 t322 t323 t324 t325 t326 t327 t328 t329 t330 t332 _ A23.out).mono ?_
                          rintro e w54 ⟨rfl, hb⟩
                          refine ⟨_, rfl, ?_⟩
                          have n0_ := Aside0.mk (blk_below (g := gb317) (o := .cells #[.int .i64 x318000_1, .int .i64 x318001_1, .int .i64 x318002_1, .int .i64 x318003_1, .int .i64 x318004_1, .int .i64 x318005_1, .int .i64 x318006_1, .int .i64 x318007_1, .int .i64 x318008_1, .int .i64 x318009_1, .int .i64 x318010_1] 30 (0, 0)) (by (with_reducible repeat (first | refine blk_drewN ?_ _ | refine blk_drew ?_ | refine blk_alloc ?_ _)); exact BK317.out) hb)
                          have n1_ := Aside0.mk (blk_below (g := gb331) (o := .cells #[.int .i64 t320, .int .i64 t321, .int .i64 t322, .int .i64 t323, .int .i64 t324, .int .i64 t325, .int .i64 t326, .int .i64 t327, .int .i64 t328, .int .i64 t329, .int .i64 t330] 30 (0, 0)) (by (with_reducible repeat (first | refine blk_drewN ?_ _ | refine blk_drew ?_ | refine blk_alloc ?_ _)); exact BK331.out) hb)
                          have n2_ := Aside0.mk (below_step (by repeat (first | (with_reducible first | exact HB.out | apply below_alloc | apply pw_below_drewN | apply below_drew1 | refine below_set ?_ GE317.out | refine below_set ?_ GE331.out) | exact HB.out)) hb)
                          clear BK317
                          clear BK331
                          clear HB
                          have BK317 := n0_
                          have BK331 := n1_
                          have HB := n2_
                          clear n0_ n1_ n2_
                          (try clear hb)
                          (try clear hb2)
                          (try clear hk)
                          (try clear hi)
                          refine hK.out _ _ ⟨(blk_cell BK331.out 0).trans rfl, (blk_cell BK331.out 1).trans rfl, (blk_cell BK331.out 2).trans rfl, (blk_cell BK331.out 3).trans rfl, (blk_cell BK331.out 4).trans rfl, (blk_cell BK331.out 5).trans rfl, (blk_cell BK331.out 6).trans rfl, (blk_cell BK331.out 7).trans rfl, (blk_cell BK331.out 8).trans rfl, (blk_cell BK331.out 9).trans rfl, (blk_cell BK331.out 10).trans rfl, (blk_cell BK317.out 0).trans rfl, (blk_cell BK317.out 1).trans rfl, (blk_cell BK317.out 2).trans rfl, (blk_cell BK317.out 3).trans rfl, (blk_cell BK317.out 4).trans rfl, (blk_cell BK317.out 5).trans rfl, (blk_cell BK317.out 6).trans rfl, (blk_cell BK317.out 7).trans rfl, (blk_cell BK317.out 8).trans rfl, (blk_cell BK317.out 9).trans rfl, (blk_cell BK317.out 10).trans rfl⟩ (fun hHeld => ?_)
                          clear hK K
                          refine norm_ (a' := ?_) ?_ ?_
                          rotate_left
                          · show Act.put _ (some 33) _ = _
                            simp only [Act.put, List.setIfInBounds_toArray, List.set_cons_zero, List.set_cons_succ, i64_w, i32_w]
                            rfl
                          refine one_ (i := 3) (N := some 35) #[true, true, true, true, false, false, false, false, false, false] rfl rfl (one_of HT_.out (by kernel_rfl)) (by decide) (fun K hK => ?_)
                          refine goes_ Try.func12 (by kernel_rfl) rfl #[.agg #[.int .i64 x318000_1, .int .i64 x318001_1, .int .i64 x318002_1, .int .i64 x318003_1, .int .i64 x318004_1, .int .i64 x318005_1, .int .i64 x318006_1, .int .i64 x318007_1, .int .i64 x318008_1, .int .i64 x318009_1, .int .i64 x318010_1]] (by rfl) rfl rfl (by (try simp only [List.map_toArray, List.map_cons, List.map_nil]); first | done | rfl | (simp only [List.length_drop, List.length_take]; rfl)) ?_
                          with_reducible refine (saga_Most.calls x318000_1 x318001_1 x318002_1 x318003_1 x318004_1 x318005_1 x318006_1 x318007_1 x318008_1 x318009_1 x318010_1 t333 _ A24.out).mono ?_
                          rintro e w55 ⟨rfl, hb⟩
                          refine ⟨_, rfl, ?_⟩
                          have n0_ := Aside0.mk (blk_below (g := gb317) (o := .cells #[.int .i64 x318000_1, .int .i64 x318001_1, .int .i64 x318002_1, .int .i64 x318003_1, .int .i64 x318004_1, .int .i64 x318005_1, .int .i64 x318006_1, .int .i64 x318007_1, .int .i64 x318008_1, .int .i64 x318009_1, .int .i64 x318010_1] 30 (0, 0)) (by (with_reducible repeat (first | refine blk_drewN ?_ _ | refine blk_drew ?_ | refine blk_alloc ?_ _)); exact BK317.out) hb)
                          have n1_ := Aside0.mk (blk_below (g := gb331) (o := .cells #[.int .i64 t320, .int .i64 t321, .int .i64 t322, .int .i64 t323, .int .i64 t324, .int .i64 t325, .int .i64 t326, .int .i64 t327, .int .i64 t328, .int .i64 t329, .int .i64 t330] 30 (0, 0)) (by (with_reducible repeat (first | refine blk_drewN ?_ _ | refine blk_drew ?_ | refine blk_alloc ?_ _)); exact BK331.out) hb)
                          have n2_ := Aside0.mk (below_step (by repeat (first | (with_reducible first | exact HB.out | apply below_alloc | apply pw_below_drewN | apply below_drew1 | refine below_set ?_ GE317.out | refine below_set ?_ GE331.out) | exact HB.out)) hb)
                          clear BK317
                          clear BK331
                          clear HB
                          have BK317 := n0_
                          have BK331 := n1_
                          have HB := n2_
                          clear n0_ n1_ n2_
                          (try clear hb)
                          (try clear hb2)
                          (try clear hk)
                          (try clear hi)
                          refine hK.out _ _ ⟨(blk_cell BK331.out 0).trans rfl, (blk_cell BK331.out 1).trans rfl, (blk_cell BK331.out 2).trans rfl, (blk_cell BK331.out 3).trans rfl, (blk_cell BK331.out 4).trans rfl, (blk_cell BK331.out 5).trans rfl, (blk_cell BK331.out 6).trans rfl, (blk_cell BK331.out 7).trans rfl, (blk_cell BK331.out 8).trans rfl, (blk_cell BK331.out 9).trans rfl, (blk_cell BK331.out 10).trans rfl, (blk_cell BK317.out 0).trans rfl, (blk_cell BK317.out 1).trans rfl, (blk_cell BK317.out 2).trans rfl, (blk_cell BK317.out 3).trans rfl, (blk_cell BK317.out 4).trans rfl, (blk_cell BK317.out 5).trans rfl, (blk_cell BK317.out 6).trans rfl, (blk_cell BK317.out 7).trans rfl, (blk_cell BK317.out 8).trans rfl, (blk_cell BK317.out 9).trans rfl, (blk_cell BK317.out 10).trans rfl⟩ (fun hHeld => ?_)
                          clear hK K
                          refine norm_ (a' := ?_) ?_ ?_
                          rotate_left
                          · show Act.put _ (some 35) _ = _
                            simp only [Act.put, List.setIfInBounds_toArray, List.set_cons_zero, List.set_cons_succ, i64_w, i32_w]
                            rfl
                          refine pure_ (i := 4) (N := some 36) (v := ?_) (a' := ?_) #[true, true, true, true, true, false, false, false, false, false] rfl rfl (any_of HT_.out (by kernel_rfl)) (fun _ _ _ h => h) (Or.inl ⟨by rfl, ?_⟩) ?_ ?_
                          rotate_left
                          · intro w'
                            go_simp
                            with_reducible rfl
                          rotate_left
                          · simp only [Act.put, List.setIfInBounds_toArray, List.set_cons_zero, List.set_cons_succ, i64_w, i32_w]
                            rfl
                          refine pure_ (i := 5) (N := some 37) (v := ?_) (a' := ?_) #[true, true, true, true, true, true, false, false, false, false] rfl rfl (any_of HT_.out (by kernel_rfl)) (fun _ _ _ h => h) (Or.inl ⟨by rfl, ?_⟩) ?_ ?_
                          rotate_left
                          · intro w'
                            go_simp
                            with_reducible rfl
                          rotate_left
                          · simp only [Act.put, List.setIfInBounds_toArray, List.set_cons_zero, List.set_cons_succ, i64_w, i32_w]
                            rfl
                          refine take_ (i := 6) (N := some 38) (v := ?_) (a' := ?_) #[true, true, true, true, true, true, true, false, false, false] rfl rfl (take_ofW HT_.out HW_.out (by kernel_rfl)) (fun _ _ _ h => h) (Or.inl ⟨by rfl, ?_⟩) hHeld ?_ ?_
                          rotate_left
                          · rintro w' ⟨s0, s1, s2, s3, s4, s5, s6, s7, s8, s9, s10, s11, s12, s13, s14, s15, s16, s17, s18, s19, s20, s21⟩
                            go_simp
                            with_reducible rfl
                          rotate_left
                          · simp only [Act.put, List.setIfInBounds_toArray, List.set_cons_zero, List.set_cons_succ, i64_w, i32_w]
                            rfl
                          refine one_ (i := 7) (N := some 39) #[true, true, true, true, true, true, true, true, false, false] rfl rfl (one_of HT_.out (by kernel_rfl)) (by decide) (fun K hK => ?_)
                          refine goes_ Try.func12 (by kernel_rfl) rfl #[.agg #[.int .i64 t320, .int .i64 t321, .int .i64 t322, .int .i64 t323, .int .i64 t324, .int .i64 t325, .int .i64 t326, .int .i64 t327, .int .i64 t328, .int .i64 t329, .int .i64 t330]] (by rfl) rfl rfl (by (try simp only [List.map_toArray, List.map_cons, List.map_nil]); first | done | rfl | (simp only [List.length_drop, List.length_take]; rfl)) ?_
                          with_reducible refine (saga_Most.calls t320 t321 t322 t323 t324 t325 t326 t327 t328 t329 t330 t334 _ A35.out).mono ?_
                          rintro e w56 ⟨rfl, hb⟩
                          refine ⟨_, rfl, ?_⟩
                          have n0_ := Aside0.mk (blk_below (g := gb317) (o := .cells #[.int .i64 x318000_1, .int .i64 x318001_1, .int .i64 x318002_1, .int .i64 x318003_1, .int .i64 x318004_1, .int .i64 x318005_1, .int .i64 x318006_1, .int .i64 x318007_1, .int .i64 x318008_1, .int .i64 x318009_1, .int .i64 x318010_1] 30 (0, 0)) (by (with_reducible repeat (first | refine blk_drewN ?_ _ | refine blk_drew ?_ | refine blk_alloc ?_ _)); exact BK317.out) hb)
                          have n1_ := Aside0.mk (blk_below (g := gb331) (o := .cells #[.int .i64 t320, .int .i64 t321, .int .i64 t322, .int .i64 t323, .int .i64 t324, .int .i64 t325, .int .i64 t326, .int .i64 t327, .int .i64 t328, .int .i64 t329, .int .i64 t330] 30 (0, 0)) (by (with_reducible repeat (first | refine blk_drewN ?_ _ | refine blk_drew ?_ | refine blk_alloc ?_ _)); exact BK331.out) hb)
                          have n2_ := Aside0.mk (below_step (by repeat (first | (with_reducible first | exact HB.out | apply below_alloc | apply pw_below_drewN | apply below_drew1 | refine below_set ?_ GE317.out | refine below_set ?_ GE331.out) | exact HB.out)) hb)
                          clear BK317
                          clear BK331
                          clear HB
                          have BK317 := n0_
                          have BK331 := n1_
                          have HB := n2_
                          clear n0_ n1_ n2_
                          (try clear hb)
                          (try clear hb2)
                          (try clear hk)
                          (try clear hi)
                          refine hK.out _ _ ⟨(blk_cell BK331.out 0).trans rfl, (blk_cell BK331.out 1).trans rfl, (blk_cell BK331.out 2).trans rfl, (blk_cell BK331.out 3).trans rfl, (blk_cell BK331.out 4).trans rfl, (blk_cell BK331.out 5).trans rfl, (blk_cell BK331.out 6).trans rfl, (blk_cell BK331.out 7).trans rfl, (blk_cell BK331.out 8).trans rfl, (blk_cell BK331.out 9).trans rfl, (blk_cell BK331.out 10).trans rfl, (blk_cell BK317.out 0).trans rfl, (blk_cell BK317.out 1).trans rfl, (blk_cell BK317.out 2).trans rfl, (blk_cell BK317.out 3).trans rfl, (blk_cell BK317.out 4).trans rfl, (blk_cell BK317.out 5).trans rfl, (blk_cell BK317.out 6).trans rfl, (blk_cell BK317.out 7).trans rfl, (blk_cell BK317.out 8).trans rfl, (blk_cell BK317.out 9).trans rfl, (blk_cell BK317.out 10).trans rfl⟩ (fun hHeld => ?_)
                          clear hK K
                          refine norm_ (a' := ?_) ?_ ?_
                          rotate_left
                          · show Act.put _ (some 39) _ = _
                            simp only [Act.put, List.setIfInBounds_toArray, List.set_cons_zero, List.set_cons_succ, i64_w, i32_w]
                            rfl
                          refine pure_ (i := 8) (N := some 40) (v := ?_) (a' := ?_) #[true, true, true, true, true, true, true, true, true, false] rfl rfl (any_of HT_.out (by kernel_rfl)) (fun _ _ _ h => h) (Or.inl ⟨by rfl, ?_⟩) ?_ ?_
                          rotate_left
                          · intro w'
                            go_simp
                            with_reducible rfl
                          rotate_left
                          · simp only [Act.put, List.setIfInBounds_toArray, List.set_cons_zero, List.set_cons_succ, i64_w, i32_w]
                            rfl
                          refine pure_ (i := 9) (N := some 41) (v := ?_) (a' := ?_) #[true, true, true, true, true, true, true, true, true, true] rfl rfl (any_of HT_.out (by kernel_rfl)) (fun _ _ _ h => h) (Or.inl ⟨by rfl, ?_⟩) ?_ ?_
                          rotate_left
                          · intro w'
                            go_simp
                            with_reducible rfl
                          rotate_left
                          · simp only [Act.put, List.setIfInBounds_toArray, List.set_cons_zero, List.set_cons_succ, i64_w, i32_w]
                            rfl
                          refine done_ (done_of HT_.out (by kernel_rfl)) ?_
                          have hcz57_0 : w56.cell? ⟨gb331, 0, none⟩ = some (.int .i64 t320) := (blk_cell BK331.out 0).trans rfl
                          have hcz57_1 : w56.cell? ⟨gb331, 1, none⟩ = some (.int .i64 t321) := (blk_cell BK331.out 1).trans rfl
                          have hcz57_2 : w56.cell? ⟨gb331, 2, none⟩ = some (.int .i64 t322) := (blk_cell BK331.out 2).trans rfl
                          have hcz57_3 : w56.cell? ⟨gb331, 3, none⟩ = some (.int .i64 t323) := (blk_cell BK331.out 3).trans rfl
                          have hcz57_4 : w56.cell? ⟨gb331, 4, none⟩ = some (.int .i64 t324) := (blk_cell BK331.out 4).trans rfl
                          have hcz57_5 : w56.cell? ⟨gb331, 5, none⟩ = some (.int .i64 t325) := (blk_cell BK331.out 5).trans rfl
                          have hcz57_6 : w56.cell? ⟨gb331, 6, none⟩ = some (.int .i64 t326) := (blk_cell BK331.out 6).trans rfl
                          have hcz57_7 : w56.cell? ⟨gb331, 7, none⟩ = some (.int .i64 t327) := (blk_cell BK331.out 7).trans rfl
                          have hcz57_8 : w56.cell? ⟨gb331, 8, none⟩ = some (.int .i64 t328) := (blk_cell BK331.out 8).trans rfl
                          have hcz57_9 : w56.cell? ⟨gb331, 9, none⟩ = some (.int .i64 t329) := (blk_cell BK331.out 9).trans rfl
                          have hcz57_10 : w56.cell? ⟨gb331, 10, none⟩ = some (.int .i64 t330) := (blk_cell BK331.out 10).trans rfl
                          have hfz57_0 := blk_frozen BK331.out 0
                          have hfz57_1 := blk_frozen BK331.out 1
                          have hfz57_2 := blk_frozen BK331.out 2
                          have hfz57_3 := blk_frozen BK331.out 3
                          have hfz57_4 := blk_frozen BK331.out 4
                          have hfz57_5 := blk_frozen BK331.out 5
                          have hfz57_6 := blk_frozen BK331.out 6
                          have hfz57_7 := blk_frozen BK331.out 7
                          have hfz57_8 := blk_frozen BK331.out 8
                          have hfz57_9 := blk_frozen BK331.out 9
                          have hfz57_10 := blk_frozen BK331.out 10
                          have hcz58_0 : w56.cell? ⟨gb317, 0, none⟩ = some (.int .i64 x318000_1) := (blk_cell BK317.out 0).trans rfl
                          have hcz58_1 : w56.cell? ⟨gb317, 1, none⟩ = some (.int .i64 x318001_1) := (blk_cell BK317.out 1).trans rfl
                          have hcz58_2 : w56.cell? ⟨gb317, 2, none⟩ = some (.int .i64 x318002_1) := (blk_cell BK317.out 2).trans rfl
                          have hcz58_3 : w56.cell? ⟨gb317, 3, none⟩ = some (.int .i64 x318003_1) := (blk_cell BK317.out 3).trans rfl
                          have hcz58_4 : w56.cell? ⟨gb317, 4, none⟩ = some (.int .i64 x318004_1) := (blk_cell BK317.out 4).trans rfl
                          have hcz58_5 : w56.cell? ⟨gb317, 5, none⟩ = some (.int .i64 x318005_1) := (blk_cell BK317.out 5).trans rfl
                          have hcz58_6 : w56.cell? ⟨gb317, 6, none⟩ = some (.int .i64 x318006_1) := (blk_cell BK317.out 6).trans rfl
                          have hcz58_7 : w56.cell? ⟨gb317, 7, none⟩ = some (.int .i64 x318007_1) := (blk_cell BK317.out 7).trans rfl
                          have hcz58_8 : w56.cell? ⟨gb317, 8, none⟩ = some (.int .i64 x318008_1) := (blk_cell BK317.out 8).trans rfl
                          have hcz58_9 : w56.cell? ⟨gb317, 9, none⟩ = some (.int .i64 x318009_1) := (blk_cell BK317.out 9).trans rfl
                          have hcz58_10 : w56.cell? ⟨gb317, 10, none⟩ = some (.int .i64 x318010_1) := (blk_cell BK317.out 10).trans rfl
                          have hfz58_0 := blk_frozen BK317.out 0
                          have hfz58_1 := blk_frozen BK317.out 1
                          have hfz58_2 := blk_frozen BK317.out 2
                          have hfz58_3 := blk_frozen BK317.out 3
                          have hfz58_4 := blk_frozen BK317.out 4
                          have hfz58_5 := blk_frozen BK317.out 5
                          have hfz58_6 := blk_frozen BK317.out 6
                          have hfz58_7 := blk_frozen BK317.out 7
                          have hfz58_8 := blk_frozen BK317.out 8
                          have hfz58_9 := blk_frozen BK317.out 9
                          have hfz58_10 := blk_frozen BK317.out 10
                          try go_wp2
                          go_roundg kj14
                          case measure => have := HK1.out; have := HJ14.out; omega
                          case rel => exact ⟨(wrap64 (x18_1 + 1)), (t320), (t321), (t322), (t323), (t324), (t325), (t326), (t327), (t328), (t329), (t330), (by first | rfl | (simp; done) | (simp [*]; done)), H', ⟨by have := HK1.out; have := HJ14.out; omega⟩, ⟨by (with_reducible repeat (first | refine blk_drewN ?_ _ | refine blk_drew ?_ | refine blk_alloc ?_ _)); refine blk_put (cs := #[.int .i64 t320, .int .i64 t321, .int .i64 t322, .int .i64 t323, .int .i64 t324, .int .i64 t325, .int .i64 t326, .int .i64 t327, .int .i64 t328, .int .i64 t329, .int .i64 x318010_1]) ?_ 10 _ rfl; (with_reducible repeat (first | refine blk_drewN ?_ _ | refine blk_drew ?_ | refine blk_alloc ?_ _)); refine blk_put (cs := #[.int .i64 t320, .int .i64 t321, .int .i64 t322, .int .i64 t323, .int .i64 t324, .int .i64 t325, .int .i64 t326, .int .i64 t327, .int .i64 t328, .int .i64 x318009_1, .int .i64 x318010_1]) ?_ 9 _ rfl; (with_reducible repeat (first | refine blk_drewN ?_ _ | refine blk_drew ?_ | refine blk_alloc ?_ _)); refine blk_put (cs := #[.int .i64 t320, .int .i64 t321, .int .i64 t322, .int .i64 t323, .int .i64 t324, .int .i64 t325, .int .i64 t326, .int .i64 t327, .int .i64 x318008_1, .int .i64 x318009_1, .int .i64 x318010_1]) ?_ 8 _ rfl; (with_reducible repeat (first | refine blk_drewN ?_ _ | refine blk_drew ?_ | refine blk_alloc ?_ _)); refine blk_put (cs := #[.int .i64 t320, .int .i64 t321, .int .i64 t322, .int .i64 t323, .int .i64 t324, .int .i64 t325, .int .i64 t326, .int .i64 x318007_1, .int .i64 x318008_1, .int .i64 x318009_1, .int .i64 x318010_1]) ?_ 7 _ rfl; (with_reducible repeat (first | refine blk_drewN ?_ _ | refine blk_drew ?_ | refine blk_alloc ?_ _)); refine blk_put (cs := #[.int .i64 t320, .int .i64 t321, .int .i64 t322, .int .i64 t323, .int .i64 t324, .int .i64 t325, .int .i64 x318006_1, .int .i64 x318007_1, .int .i64 x318008_1, .int .i64 x318009_1, .int .i64 x318010_1]) ?_ 6 _ rfl; (with_reducible repeat (first | refine blk_drewN ?_ _ | refine blk_drew ?_ | refine blk_alloc ?_ _)); refine blk_put (cs := #[.int .i64 t320, .int .i64 t321, .int .i64 t322, .int .i64 t323, .int .i64 t324, .int .i64 x318005_1, .int .i64 x318006_1, .int .i64 x318007_1, .int .i64 x318008_1, .int .i64 x318009_1, .int .i64 x318010_1]) ?_ 5 _ rfl; (with_reducible repeat (first | refine blk_drewN ?_ _ | refine blk_drew ?_ | refine blk_alloc ?_ _)); refine blk_put (cs := #[.int .i64 t320, .int .i64 t321, .int .i64 t322, .int .i64 t323, .int .i64 x318004_1, .int .i64 x318005_1, .int .i64 x318006_1, .int .i64 x318007_1, .int .i64 x318008_1, .int .i64 x318009_1, .int .i64 x318010_1]) ?_ 4 _ rfl; (with_reducible repeat (first | refine blk_drewN ?_ _ | refine blk_drew ?_ | refine blk_alloc ?_ _)); refine blk_put (cs := #[.int .i64 t320, .int .i64 t321, .int .i64 t322, .int .i64 x318003_1, .int .i64 x318004_1, .int .i64 x318005_1, .int .i64 x318006_1, .int .i64 x318007_1, .int .i64 x318008_1, .int .i64 x318009_1, .int .i64 x318010_1]) ?_ 3 _ rfl; (with_reducible repeat (first | refine blk_drewN ?_ _ | refine blk_drew ?_ | refine blk_alloc ?_ _)); refine blk_put (cs := #[.int .i64 t320, .int .i64 t321, .int .i64 x318002_1, .int .i64 x318003_1, .int .i64 x318004_1, .int .i64 x318005_1, .int .i64 x318006_1, .int .i64 x318007_1, .int .i64 x318008_1, .int .i64 x318009_1, .int .i64 x318010_1]) ?_ 2 _ rfl; (with_reducible repeat (first | refine blk_drewN ?_ _ | refine blk_drew ?_ | refine blk_alloc ?_ _)); refine blk_put (cs := #[.int .i64 t320, .int .i64 x318001_1, .int .i64 x318002_1, .int .i64 x318003_1, .int .i64 x318004_1, .int .i64 x318005_1, .int .i64 x318006_1, .int .i64 x318007_1, .int .i64 x318008_1, .int .i64 x318009_1, .int .i64 x318010_1]) ?_ 1 _ rfl; (with_reducible repeat (first | refine blk_drewN ?_ _ | refine blk_drew ?_ | refine blk_alloc ?_ _)); refine blk_put (cs := #[.int .i64 x318000_1, .int .i64 x318001_1, .int .i64 x318002_1, .int .i64 x318003_1, .int .i64 x318004_1, .int .i64 x318005_1, .int .i64 x318006_1, .int .i64 x318007_1, .int .i64 x318008_1, .int .i64 x318009_1, .int .i64 x318010_1]) ?_ 0 _ rfl; (with_reducible repeat (first | refine blk_drewN ?_ _ | refine blk_drew ?_ | refine blk_alloc ?_ _)); exact BK317.out⟩, ⟨by repeat (first | (with_reducible first | exact HB.out | apply below_alloc | apply pw_below_drewN | apply below_drew1 | refine below_set ?_ GE317.out | refine below_set ?_ GE331.out) | exact HB.out)⟩⟩
              · rw [if_neg c14] at H
                exact absurd H (by simp)
            · rw [if_neg c13] at H
              exact absurd H (by simp)
          · rw [if_neg c12] at H
            have c12b0 : decide (x18_1 < (l2.length : Int)) = false := decide_eq_false c12
            clear c12
            (first | rw [c12b0] | (simp only [i64_w, i32_w]; rw [c12b0]) | skip)
            have H' := Aside0.mk H
            clear H
            go_wp2
            go_meet
            case rel => exact ⟨_, (x318000_1), (x318001_1), (x318002_1), (x318003_1), (x318004_1), (x318005_1), (x318006_1), (x318007_1), (x318008_1), (x318009_1), (x318010_1), H', ⟨by have := HK1.out; first | omega | exact Nat.le_refl _⟩, ⟨by (with_reducible repeat (first | refine blk_drewN ?_ _ | refine blk_drew ?_ | refine blk_alloc ?_ _)); exact BK317.out⟩, ⟨by repeat (first | (with_reducible first | exact HB.out | apply below_alloc | apply pw_below_drewN | apply below_drew1 | refine below_set ?_ GE317.out) | exact HB.out)⟩⟩
    case rest =>
      clear HC7
      try clear c1
      try clear c2
      try clear p2
      try clear c3
      try clear c4
      try clear c5
      try clear p6
      try clear c10
      try clear c12
      try clear c12b0
      try clear c13
      try clear c14
      try clear c25
      try clear c25b0
      try clear c29
      try clear c36
      try clear c36b0
      try clear c40
      try clear c50
      try clear hcz26_0
      try clear hcz26_1
      try clear hcz26_10
      try clear hcz26_2
      try clear hcz26_3
      try clear hcz26_4
      try clear hcz26_5
      try clear hcz26_6
      try clear hcz26_7
      try clear hcz26_8
      try clear hcz26_9
      try clear hcz30_0
      try clear hcz30_1
      try clear hcz30_10
      try clear hcz30_2
      try clear hcz30_3
      try clear hcz30_4
      try clear hcz30_5
      try clear hcz30_6
      try clear hcz30_7
      try clear hcz30_8
      try clear hcz30_9
      try clear hcz37_0
      try clear hcz37_1
      try clear hcz37_10
      try clear hcz37_2
      try clear hcz37_3
      try clear hcz37_4
      try clear hcz37_5
      try clear hcz37_6
      try clear hcz37_7
      try clear hcz37_8
      try clear hcz37_9
      try clear hcz41_0
      try clear hcz41_1
      try clear hcz41_10
      try clear hcz41_2
      try clear hcz41_3
      try clear hcz41_4
      try clear hcz41_5
      try clear hcz41_6
      try clear hcz41_7
      try clear hcz41_8
      try clear hcz41_9
      try clear hcz47_0
      try clear hcz47_1
      try clear hcz47_10
      try clear hcz47_2
      try clear hcz47_3
      try clear hcz47_4
      try clear hcz47_5
      try clear hcz47_6
      try clear hcz47_7
      try clear hcz47_8
      try clear hcz47_9
      try clear hcz51_0
      try clear hcz51_1
      try clear hcz51_10
      try clear hcz51_2
      try clear hcz51_3
      try clear hcz51_4
      try clear hcz51_5
      try clear hcz51_6
      try clear hcz51_7
      try clear hcz51_8
      try clear hcz51_9
      try clear hcz57_0
      try clear hcz57_1
      try clear hcz57_10
      try clear hcz57_2
      try clear hcz57_3
      try clear hcz57_4
      try clear hcz57_5
      try clear hcz57_6
      try clear hcz57_7
      try clear hcz57_8
      try clear hcz57_9
      try clear hcz58_0
      try clear hcz58_1
      try clear hcz58_10
      try clear hcz58_2
      try clear hcz58_3
      try clear hcz58_4
      try clear hcz58_5
      try clear hcz58_6
      try clear hcz58_7
      try clear hcz58_8
      try clear hcz58_9
      try clear hfz26_0
      try clear hfz26_1
      try clear hfz26_10
      try clear hfz26_2
      try clear hfz26_3
      try clear hfz26_4
      try clear hfz26_5
      try clear hfz26_6
      try clear hfz26_7
      try clear hfz26_8
      try clear hfz26_9
      try clear hfz30_0
      try clear hfz30_1
      try clear hfz30_10
      try clear hfz30_2
      try clear hfz30_3
      try clear hfz30_4
      try clear hfz30_5
      try clear hfz30_6
      try clear hfz30_7
      try clear hfz30_8
      try clear hfz30_9
      try clear hfz37_0
      try clear hfz37_1
      try clear hfz37_10
      try clear hfz37_2
      try clear hfz37_3
      try clear hfz37_4
      try clear hfz37_5
      try clear hfz37_6
      try clear hfz37_7
      try clear hfz37_8
      try clear hfz37_9
      try clear hfz41_0
      try clear hfz41_1
      try clear hfz41_10
      try clear hfz41_2
      try clear hfz41_3
      try clear hfz41_4
      try clear hfz41_5
      try clear hfz41_6
      try clear hfz41_7
      try clear hfz41_8
      try clear hfz41_9
      try clear hfz47_0
      try clear hfz47_1
      try clear hfz47_10
      try clear hfz47_2
      try clear hfz47_3
      try clear hfz47_4
      try clear hfz47_5
      try clear hfz47_6
      try clear hfz47_7
      try clear hfz47_8
      try clear hfz47_9
      try clear hfz51_0
      try clear hfz51_1
      try clear hfz51_10
      try clear hfz51_2
      try clear hfz51_3
      try clear hfz51_4
      try clear hfz51_5
      try clear hfz51_6
      try clear hfz51_7
      try clear hfz51_8
      try clear hfz51_9
      try clear hfz57_0
      try clear hfz57_1
      try clear hfz57_10
      try clear hfz57_2
      try clear hfz57_3
      try clear hfz57_4
      try clear hfz57_5
      try clear hfz57_6
      try clear hfz57_7
      try clear hfz57_8
      try clear hfz57_9
      try clear hfz58_0
      try clear hfz58_1
      try clear hfz58_10
      try clear hfz58_2
      try clear hfz58_3
      try clear hfz58_4
      try clear hfz58_5
      try clear hfz58_6
      try clear hfz58_7
      try clear hfz58_8
      try clear hfz58_9
      obtain ⟨kq, x318000_6, x318001_6, x318002_6, x318003_6, x318004_6, x318005_6, x318006_6, x318007_6, x318008_6, x318009_6, x318010_6, HA, HJ6, BK317, HB⟩ := hcut
      cases kq with
      | zero => exact absurd HA.out (by simp [hawalalaw14_SagaMost.j2])
      | succ kj6 =>
        have H := HA.out
        clear HA
        simp only [hawalalaw14_SagaMost.j2] at H
        replace H := Option.bind_eq_some_iff.mp H
        obtain ⟨⟨t335, t336, t337, t338, t339, t340, t341, t342, t343, t344, t345⟩, A590, H⟩ := H
        replace H : ((saga_Most.f t335 t336 t337 t338 t339 t340 t341 t342 t343 t344 t345).bind fun t346 => (if t346 = 0 then ((saga_Turn.f x318000_6 x318001_6 x318002_6 x318003_6 x318004_6 x318005_6 x318006_6 x318007_6 x318008_6 x318009_6 x318010_6 9).bind fun bt347 => ((saga_Most.f bt347.1 bt347.2.1 bt347.2.2.1 bt347.2.2.2.1 bt347.2.2.2.2.1 bt347.2.2.2.2.2.1 bt347.2.2.2.2.2.2.1 bt347.2.2.2.2.2.2.2.1 bt347.2.2.2.2.2.2.2.2.1 bt347.2.2.2.2.2.2.2.2.2.1 bt347.2.2.2.2.2.2.2.2.2.2).bind fun t358 => (some (t358 == 1)))) else (some false))) = some r := H
        have A59 := Aside0.mk A590
        clear A590
        replace H := Option.bind_eq_some_iff.mp H
        obtain ⟨t346, A600, H⟩ := H
        replace H : (if t346 = 0 then ((saga_Turn.f x318000_6 x318001_6 x318002_6 x318003_6 x318004_6 x318005_6 x318006_6 x318007_6 x318008_6 x318009_6 x318010_6 9).bind fun bt347 => ((saga_Most.f bt347.1 bt347.2.1 bt347.2.2.1 bt347.2.2.2.1 bt347.2.2.2.2.1 bt347.2.2.2.2.2.1 bt347.2.2.2.2.2.2.1 bt347.2.2.2.2.2.2.2.1 bt347.2.2.2.2.2.2.2.2.1 bt347.2.2.2.2.2.2.2.2.2.1 bt347.2.2.2.2.2.2.2.2.2.2).bind fun t358 => (some (t358 == 1)))) else (some false)) = some r := H
        have A60 := Aside0.mk A600
        clear A600
        by_cases c61 : t346 = 0
        · rw [if_pos c61] at H
          have c61b0 : (t346 == 0) = true := beq_iff_eq.mpr c61
          have c61b1 : (t346 != 0) = false := bne_eq_false_iff_eq.mpr c61
          clear c61
          replace H := Option.bind_eq_some_iff.mp H
          obtain ⟨⟨t347, t348, t349, t350, t351, t352, t353, t354, t355, t356, t357⟩, A620, H⟩ := H
          replace H : ((saga_Most.f t347 t348 t349 t350 t351 t352 t353 t354 t355 t356 t357).bind fun t358 => (some (t358 == 1))) = some r := H
          have A62 := Aside0.mk A620
          clear A620
          replace H := Option.bind_eq_some_iff.mp H
          obtain ⟨t358, A630, H⟩ := H
          replace H : (some (t358 == 1)) = some r := H
          have A63 := Aside0.mk A630
          clear A630
          obtain rfl := Option.some.inj H
          have hcz64_0 : wc.cell? ⟨gb317, 0, none⟩ = some (.int .i64 x318000_6) := (blk_cell BK317.out 0).trans rfl
          have hcz64_1 : wc.cell? ⟨gb317, 1, none⟩ = some (.int .i64 x318001_6) := (blk_cell BK317.out 1).trans rfl
          have hcz64_2 : wc.cell? ⟨gb317, 2, none⟩ = some (.int .i64 x318002_6) := (blk_cell BK317.out 2).trans rfl
          have hcz64_3 : wc.cell? ⟨gb317, 3, none⟩ = some (.int .i64 x318003_6) := (blk_cell BK317.out 3).trans rfl
          have hcz64_4 : wc.cell? ⟨gb317, 4, none⟩ = some (.int .i64 x318004_6) := (blk_cell BK317.out 4).trans rfl
          have hcz64_5 : wc.cell? ⟨gb317, 5, none⟩ = some (.int .i64 x318005_6) := (blk_cell BK317.out 5).trans rfl
          have hcz64_6 : wc.cell? ⟨gb317, 6, none⟩ = some (.int .i64 x318006_6) := (blk_cell BK317.out 6).trans rfl
          have hcz64_7 : wc.cell? ⟨gb317, 7, none⟩ = some (.int .i64 x318007_6) := (blk_cell BK317.out 7).trans rfl
          have hcz64_8 : wc.cell? ⟨gb317, 8, none⟩ = some (.int .i64 x318008_6) := (blk_cell BK317.out 8).trans rfl
          have hcz64_9 : wc.cell? ⟨gb317, 9, none⟩ = some (.int .i64 x318009_6) := (blk_cell BK317.out 9).trans rfl
          have hcz64_10 : wc.cell? ⟨gb317, 10, none⟩ = some (.int .i64 x318010_6) := (blk_cell BK317.out 10).trans rfl
          have hfz64_0 := blk_frozen BK317.out 0
          have hfz64_1 := blk_frozen BK317.out 1
          have hfz64_2 := blk_frozen BK317.out 2
          have hfz64_3 := blk_frozen BK317.out 3
          have hfz64_4 := blk_frozen BK317.out 4
          have hfz64_5 := blk_frozen BK317.out 5
          have hfz64_6 := blk_frozen BK317.out 6
          have hfz64_7 := blk_frozen BK317.out 7
          have hfz64_8 := blk_frozen BK317.out 8
          have hfz64_9 := blk_frozen BK317.out 9
          have hfz64_10 := blk_frozen BK317.out 10
          go_wp2_with (first | ((with_reducible refine gate_callee (f := 14) rfl ?_); refine goesL_ (some 45) rfl rfl Try.func14 (by kernel_rfl) rfl #[.agg #[.int .i64 x318000_6, .int .i64 x318001_6, .int .i64 x318002_6, .int .i64 x318003_6, .int .i64 x318004_6, .int .i64 x318005_6, .int .i64 x318006_6, .int .i64 x318007_6, .int .i64 x318008_6, .int .i64 x318009_6, .int .i64 x318010_6]] rfl (by (try simp only [List.map_toArray, List.map_cons, List.map_nil]); first | done | rfl | (simp only [List.length_drop, List.length_take]; rfl)) ?_; (with_reducible refine (saga_End.calls x318000_6 x318001_6 x318002_6 x318003_6 x318004_6 x318005_6 x318006_6 x318007_6 x318008_6 x318009_6 x318010_6 t335 t336 t337 t338 t339 t340 t341 t342 t343 t344 t345 _ A59.out).mono ?_); rintro e w65 ⟨rfl, hb⟩; refine ⟨_, rfl, ?_⟩; have n0_ := Aside0.mk (blk_below (g := gb317) (o := .cells #[.int .i64 x318000_6, .int .i64 x318001_6, .int .i64 x318002_6, .int .i64 x318003_6, .int .i64 x318004_6, .int .i64 x318005_6, .int .i64 x318006_6, .int .i64 x318007_6, .int .i64 x318008_6, .int .i64 x318009_6, .int .i64 x318010_6] 30 (0, 0)) (by (with_reducible repeat (first | refine blk_drewN ?_ _ | refine blk_drew ?_ | refine blk_alloc ?_ _)); exact BK317.out) hb); have n1_ := Aside0.mk (below_step (by repeat (first | (with_reducible first | exact HB.out | apply below_alloc | apply pw_below_drewN | apply below_drew1 | refine below_set ?_ GE317.out) | exact HB.out)) hb); clear BK317; clear HB; have BK317 := n0_; have HB := n1_; clear n0_ n1_; (try clear hb); (try clear hb2); (try clear hk); (try clear hi)) | ((with_reducible refine gate_callee (f := 12) rfl ?_); refine goesL_ (some 46) rfl rfl Try.func12 (by kernel_rfl) rfl #[.agg #[.int .i64 t335, .int .i64 t336, .int .i64 t337, .int .i64 t338, .int .i64 t339, .int .i64 t340, .int .i64 t341, .int .i64 t342, .int .i64 t343, .int .i64 t344, .int .i64 t345]] rfl (by (try simp only [List.map_toArray, List.map_cons, List.map_nil]); first | done | rfl | (simp only [List.length_drop, List.length_take]; rfl)) ?_; (with_reducible refine (saga_Most.calls t335 t336 t337 t338 t339 t340 t341 t342 t343 t344 t345 t346 _ A60.out).mono ?_); rintro e w66 ⟨rfl, hb⟩; refine ⟨_, rfl, ?_⟩; have n0_ := Aside0.mk (blk_below (g := gb317) (o := .cells #[.int .i64 x318000_6, .int .i64 x318001_6, .int .i64 x318002_6, .int .i64 x318003_6, .int .i64 x318004_6, .int .i64 x318005_6, .int .i64 x318006_6, .int .i64 x318007_6, .int .i64 x318008_6, .int .i64 x318009_6, .int .i64 x318010_6] 30 (0, 0)) (by (with_reducible repeat (first | refine blk_drewN ?_ _ | refine blk_drew ?_ | refine blk_alloc ?_ _)); exact BK317.out) hb); have n1_ := Aside0.mk (below_step (by repeat (first | (with_reducible first | exact HB.out | apply below_alloc | apply pw_below_drewN | apply below_drew1 | refine below_set ?_ GE317.out) | exact HB.out)) hb); clear BK317; clear HB; have BK317 := n0_; have HB := n1_; clear n0_ n1_; (try clear hb); (try clear hb2); (try clear hk); (try clear hi); have hcz67_0 : w66.cell? ⟨gb317, 0, none⟩ = some (.int .i64 x318000_6) := (blk_cell BK317.out 0).trans rfl; have hcz67_1 : w66.cell? ⟨gb317, 1, none⟩ = some (.int .i64 x318001_6) := (blk_cell BK317.out 1).trans rfl; have hcz67_2 : w66.cell? ⟨gb317, 2, none⟩ = some (.int .i64 x318002_6) := (blk_cell BK317.out 2).trans rfl; have hcz67_3 : w66.cell? ⟨gb317, 3, none⟩ = some (.int .i64 x318003_6) := (blk_cell BK317.out 3).trans rfl; have hcz67_4 : w66.cell? ⟨gb317, 4, none⟩ = some (.int .i64 x318004_6) := (blk_cell BK317.out 4).trans rfl; have hcz67_5 : w66.cell? ⟨gb317, 5, none⟩ = some (.int .i64 x318005_6) := (blk_cell BK317.out 5).trans rfl; have hcz67_6 : w66.cell? ⟨gb317, 6, none⟩ = some (.int .i64 x318006_6) := (blk_cell BK317.out 6).trans rfl; have hcz67_7 : w66.cell? ⟨gb317, 7, none⟩ = some (.int .i64 x318007_6) := (blk_cell BK317.out 7).trans rfl; have hcz67_8 : w66.cell? ⟨gb317, 8, none⟩ = some (.int .i64 x318008_6) := (blk_cell BK317.out 8).trans rfl; have hcz67_9 : w66.cell? ⟨gb317, 9, none⟩ = some (.int .i64 x318009_6) := (blk_cell BK317.out 9).trans rfl; have hcz67_10 : w66.cell? ⟨gb317, 10, none⟩ = some (.int .i64 x318010_6) := (blk_cell BK317.out 10).trans rfl; have hfz67_0 := blk_frozen BK317.out 0; have hfz67_1 := blk_frozen BK317.out 1; have hfz67_2 := blk_frozen BK317.out 2; have hfz67_3 := blk_frozen BK317.out 3; have hfz67_4 := blk_frozen BK317.out 4; have hfz67_5 := blk_frozen BK317.out 5; have hfz67_6 := blk_frozen BK317.out 6; have hfz67_7 := blk_frozen BK317.out 7; have hfz67_8 := blk_frozen BK317.out 8; have hfz67_9 := blk_frozen BK317.out 9; have hfz67_10 := blk_frozen BK317.out 10) | (go_at_call 13; (with_reducible refine (saga_Turn.calls x318000_6 x318001_6 x318002_6 x318003_6 x318004_6 x318005_6 x318006_6 x318007_6 x318008_6 x318009_6 x318010_6 9 t347 t348 t349 t350 t351 t352 t353 t354 t355 t356 t357 _ A62.out).mono ?_); rintro e w68 ⟨rfl, hb⟩; have n0_ := Aside0.mk (blk_below (g := gb317) (o := .cells #[.int .i64 x318000_6, .int .i64 x318001_6, .int .i64 x318002_6, .int .i64 x318003_6, .int .i64 x318004_6, .int .i64 x318005_6, .int .i64 x318006_6, .int .i64 x318007_6, .int .i64 x318008_6, .int .i64 x318009_6, .int .i64 x318010_6] 30 (0, 0)) (by (with_reducible repeat (first | refine blk_drewN ?_ _ | refine blk_drew ?_ | refine blk_alloc ?_ _)); exact BK317.out) hb); have n1_ := Aside0.mk (below_step (by repeat (first | (with_reducible first | exact HB.out | apply below_alloc | apply pw_below_drewN | apply below_drew1 | refine below_set ?_ GE317.out) | exact HB.out)) hb); clear BK317; clear HB; have BK317 := n0_; have HB := n1_; clear n0_ n1_; (try clear hb); (try clear hb2); (try clear hk); (try clear hi)) | (go_at_call 12; (with_reducible refine (saga_Most.calls t347 t348 t349 t350 t351 t352 t353 t354 t355 t356 t357 t358 _ A63.out).mono ?_); rintro e w69 ⟨rfl, hb⟩; have n0_ := Aside0.mk (blk_below (g := gb317) (o := .cells #[.int .i64 x318000_6, .int .i64 x318001_6, .int .i64 x318002_6, .int .i64 x318003_6, .int .i64 x318004_6, .int .i64 x318005_6, .int .i64 x318006_6, .int .i64 x318007_6, .int .i64 x318008_6, .int .i64 x318009_6, .int .i64 x318010_6] 30 (0, 0)) (by (with_reducible repeat (first | refine blk_drewN ?_ _ | refine blk_drew ?_ | refine blk_alloc ?_ _)); exact BK317.out) hb); have n1_ := Aside0.mk (below_step (by repeat (first | (with_reducible first | exact HB.out | apply below_alloc | apply pw_below_drewN | apply below_drew1 | refine below_set ?_ GE317.out) | exact HB.out)) hb); clear BK317; clear HB; have BK317 := n0_; have HB := n1_; clear n0_ n1_; (try clear hb); (try clear hb2); (try clear hk); (try clear hi)))
          go_ret
          exact ⟨by first | rfl | (simp [errW_none, errW_some] <;> rfl) | (simp [*, errW_none, errW_some] <;> rfl), by repeat (first | (with_reducible first | exact HB.out | apply below_alloc | apply pw_below_drewN | apply below_drew1 | refine below_set ?_ GE317.out) | exact HB.out)⟩
        · rw [if_neg c61] at H
          have c61b0 : (t346 == 0) = false := beq_eq_false_iff_ne.mpr c61
          have c61b1 : (t346 != 0) = true := bne_iff_ne.mpr c61
          obtain rfl := Option.some.inj H
          have hcz70_0 : wc.cell? ⟨gb317, 0, none⟩ = some (.int .i64 x318000_6) := (blk_cell BK317.out 0).trans rfl
          have hcz70_1 : wc.cell? ⟨gb317, 1, none⟩ = some (.int .i64 x318001_6) := (blk_cell BK317.out 1).trans rfl
          have hcz70_2 : wc.cell? ⟨gb317, 2, none⟩ = some (.int .i64 x318002_6) := (blk_cell BK317.out 2).trans rfl
          have hcz70_3 : wc.cell? ⟨gb317, 3, none⟩ = some (.int .i64 x318003_6) := (blk_cell BK317.out 3).trans rfl
          have hcz70_4 : wc.cell? ⟨gb317, 4, none⟩ = some (.int .i64 x318004_6) := (blk_cell BK317.out 4).trans rfl
          have hcz70_5 : wc.cell? ⟨gb317, 5, none⟩ = some (.int .i64 x318005_6) := (blk_cell BK317.out 5).trans rfl
          have hcz70_6 : wc.cell? ⟨gb317, 6, none⟩ = some (.int .i64 x318006_6) := (blk_cell BK317.out 6).trans rfl
          have hcz70_7 : wc.cell? ⟨gb317, 7, none⟩ = some (.int .i64 x318007_6) := (blk_cell BK317.out 7).trans rfl
          have hcz70_8 : wc.cell? ⟨gb317, 8, none⟩ = some (.int .i64 x318008_6) := (blk_cell BK317.out 8).trans rfl
          have hcz70_9 : wc.cell? ⟨gb317, 9, none⟩ = some (.int .i64 x318009_6) := (blk_cell BK317.out 9).trans rfl
          have hcz70_10 : wc.cell? ⟨gb317, 10, none⟩ = some (.int .i64 x318010_6) := (blk_cell BK317.out 10).trans rfl
          have hfz70_0 := blk_frozen BK317.out 0
          have hfz70_1 := blk_frozen BK317.out 1
          have hfz70_2 := blk_frozen BK317.out 2
          have hfz70_3 := blk_frozen BK317.out 3
          have hfz70_4 := blk_frozen BK317.out 4
          have hfz70_5 := blk_frozen BK317.out 5
          have hfz70_6 := blk_frozen BK317.out 6
          have hfz70_7 := blk_frozen BK317.out 7
          have hfz70_8 := blk_frozen BK317.out 8
          have hfz70_9 := blk_frozen BK317.out 9
          have hfz70_10 := blk_frozen BK317.out 10
          go_wp2_with (first | ((with_reducible refine gate_callee (f := 14) rfl ?_); refine goesL_ (some 45) rfl rfl Try.func14 (by kernel_rfl) rfl #[.agg #[.int .i64 x318000_6, .int .i64 x318001_6, .int .i64 x318002_6, .int .i64 x318003_6, .int .i64 x318004_6, .int .i64 x318005_6, .int .i64 x318006_6, .int .i64 x318007_6, .int .i64 x318008_6, .int .i64 x318009_6, .int .i64 x318010_6]] rfl (by (try simp only [List.map_toArray, List.map_cons, List.map_nil]); first | done | rfl | (simp only [List.length_drop, List.length_take]; rfl)) ?_; (with_reducible refine (saga_End.calls x318000_6 x318001_6 x318002_6 x318003_6 x318004_6 x318005_6 x318006_6 x318007_6 x318008_6 x318009_6 x318010_6 t335 t336 t337 t338 t339 t340 t341 t342 t343 t344 t345 _ A59.out).mono ?_); rintro e w71 ⟨rfl, hb⟩; refine ⟨_, rfl, ?_⟩; have n0_ := Aside0.mk (blk_below (g := gb317) (o := .cells #[.int .i64 x318000_6, .int .i64 x318001_6, .int .i64 x318002_6, .int .i64 x318003_6, .int .i64 x318004_6, .int .i64 x318005_6, .int .i64 x318006_6, .int .i64 x318007_6, .int .i64 x318008_6, .int .i64 x318009_6, .int .i64 x318010_6] 30 (0, 0)) (by (with_reducible repeat (first | refine blk_drewN ?_ _ | refine blk_drew ?_ | refine blk_alloc ?_ _)); exact BK317.out) hb); have n1_ := Aside0.mk (below_step (by repeat (first | (with_reducible first | exact HB.out | apply below_alloc | apply pw_below_drewN | apply below_drew1 | refine below_set ?_ GE317.out) | exact HB.out)) hb); clear BK317; clear HB; have BK317 := n0_; have HB := n1_; clear n0_ n1_; (try clear hb); (try clear hb2); (try clear hk); (try clear hi)) | ((with_reducible refine gate_callee (f := 12) rfl ?_); refine goesL_ (some 46) rfl rfl Try.func12 (by kernel_rfl) rfl #[.agg #[.int .i64 t335, .int .i64 t336, .int .i64 t337, .int .i64 t338, .int .i64 t339, .int .i64 t340, .int .i64 t341, .int .i64 t342, .int .i64 t343, .int .i64 t344, .int .i64 t345]] rfl (by (try simp only [List.map_toArray, List.map_cons, List.map_nil]); first | done | rfl | (simp only [List.length_drop, List.length_take]; rfl)) ?_; (with_reducible refine (saga_Most.calls t335 t336 t337 t338 t339 t340 t341 t342 t343 t344 t345 t346 _ A60.out).mono ?_); rintro e w72 ⟨rfl, hb⟩; refine ⟨_, rfl, ?_⟩; have n0_ := Aside0.mk (blk_below (g := gb317) (o := .cells #[.int .i64 x318000_6, .int .i64 x318001_6, .int .i64 x318002_6, .int .i64 x318003_6, .int .i64 x318004_6, .int .i64 x318005_6, .int .i64 x318006_6, .int .i64 x318007_6, .int .i64 x318008_6, .int .i64 x318009_6, .int .i64 x318010_6] 30 (0, 0)) (by (with_reducible repeat (first | refine blk_drewN ?_ _ | refine blk_drew ?_ | refine blk_alloc ?_ _)); exact BK317.out) hb); have n1_ := Aside0.mk (below_step (by repeat (first | (with_reducible first | exact HB.out | apply below_alloc | apply pw_below_drewN | apply below_drew1 | refine below_set ?_ GE317.out) | exact HB.out)) hb); clear BK317; clear HB; have BK317 := n0_; have HB := n1_; clear n0_ n1_; (try clear hb); (try clear hb2); (try clear hk); (try clear hi)))
          go_ret
          exact ⟨by first | rfl | (simp [errW_none, errW_some] <;> rfl) | (simp [*, errW_none, errW_some] <;> rfl), by repeat (first | (with_reducible first | exact HB.out | apply below_alloc | apply pw_below_drewN | apply below_drew1 | refine below_set ?_ GE317.out) | exact HB.out)⟩
  · replace c5 := Bool.eq_false_iff.mpr c5
    subst c5
    have H1 : (some false) = some r := by rw [if_neg (show ¬ (false = true) by decide)] at H; exact H
    clear H
    have H := H1
    clear H1
    obtain rfl := Option.some.inj H
    go_enter Try.func6, Try.ntmps6
    go_wp2_with (first | ((with_reducible refine gate_callee (f := 7) rfl ?_); refine goesL_ (some 11) rfl rfl Try.func7 (by kernel_rfl) rfl #[] rfl (by (try simp only [List.map_toArray, List.map_cons, List.map_nil]); first | done | rfl | (simp only [List.length_drop, List.length_take]; rfl)) ?_; (with_reducible refine (hawalalaw14_awake.calls k  false _ A4.out).mono ?_); rintro e w73 ⟨rfl, hb⟩; refine ⟨_, rfl, ?_⟩; have n0_ := Aside0.mk (below_step (by repeat (first | (with_reducible first | exact HB.out | apply below_alloc | apply pw_below_drewN | apply below_drew1) | exact HB.out)) hb); clear HB; have HB := n0_; clear n0_; (try clear hb); (try clear hb2); (try clear hk); (try clear hi)))
    go_ret
    exact ⟨by first | rfl | (simp [errW_none, errW_some] <;> rfl) | (simp [*, errW_none, errW_some] <;> rfl), by repeat (first | (with_reducible first | exact HB.out | apply below_alloc | apply pw_below_drewN | apply below_drew1) | exact HB.out)⟩

/-- THE ONE PURE STATEMENT of hawalalaw14_SagaMost: yours. -/
def hawalalaw14_SagaMost.Pure : Prop := ∀ (a0 : Int) (l1 : List Bool) (l2 : List Bool), (Lit.int .u8 a0).wf = true → (l1.length ≤ maxLen ∧ l1.length * 1 ≤ 140737488351232 ∧ ∀ x_ ∈ l1, True) → (l2.length ≤ maxLen ∧ l2.length * 1 ≤ 140737488351232 ∧ ∀ x_ ∈ l2, True) → ∃ k, hawalalaw14_SagaMost.f k a0 l1 l2 = some true

end Go.Proofs.Ytinjmjgfhpojfaa.PAll
