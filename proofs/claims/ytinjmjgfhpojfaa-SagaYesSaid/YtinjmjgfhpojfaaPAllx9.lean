/- What each Go function computes, as a plain Lean function, and the proof that the machine comes to it; for every input. Laid by wip/tools of this session over the kit's print, with small turns of ours. Not trusted: Lean checks it. -/
import Derived.Test.YtinjmjgfhpojfaaPAllx0
import Derived.Test.YtinjmjgfhpojfaaPAllx2
import Derived.Test.YtinjmjgfhpojfaaPAllx3
import Derived.Test.YtinjmjgfhpojfaaPAllx5
import Derived.Test.YtinjmjgfhpojfaaPAllx8
namespace Go.Proofs.Ytinjmjgfhpojfaa.PAll
open Go.Proofs.YtinjmjgfhpojfaaW
open Go.RowKit Go.Proofs.YtinjmjgfhpojfaaW.PrintWords Go.Proofs.YtinjmjgfhpojfaaW.PrintLast Go.Proofs.YtinjmjgfhpojfaaW.PrintMore
attribute [local go_sem] max2_int min2_int max_two min_two max_three min_three max_four min_four   -- for this text's walks alone
set_option linter.unusedVariables false
set_option linter.unusedSimpArgs false

/-! ### hawalalaw14_SagaYes: function 4 -/
mutual
def hawalalaw14_SagaYes.l0 : Nat → Int → List Int → Int → Int → Int → Int → Int → Int → Int → Int → Int → Int → Int → Int → Option (Bool)
  | 0, _, _, _, _, _, _, _, _, _, _, _, _, _, _ => none
  | k + 1, x0, x1, x6, x213000, x213001, x213002, x213003, x213004, x213005, x213006, x213007, x213008, x213009, x213010 => if x6 < (wrap64 (Int.tmod x0 5)) then (if x6 < (x1.length : Int) then (if 0 ≤ x6 then (hawalalaw14_SagaYes.j1 k x0 x1 x6 (wrap64 (Int.tmod (rd x1 x6) 4)) x213000 x213001 x213002 x213003 x213004 x213005 x213006 x213007 x213008 x213009 x213010) else (none)) else (hawalalaw14_SagaYes.j1 k x0 x1 x6 0 x213000 x213001 x213002 x213003 x213004 x213005 x213006 x213007 x213008 x213009 x213010)) else ((saga_Ready.f x213000 x213001 x213002 x213003 x213004 x213005 x213006 x213007 x213008 x213009 x213010).bind fun t237 => (if t237 = true then (if x213008 = (wrap64 (Int.tmod x0 5)) then (if x213009 = 0 then ((saga_Most.f x213000 x213001 x213002 x213003 x213004 x213005 x213006 x213007 x213008 x213009 x213010).bind fun t238 => (some (t238 == 2))) else (some false)) else (some false)) else (some false)))
def hawalalaw14_SagaYes.j1 : Nat → Int → List Int → Int → Int → Int → Int → Int → Int → Int → Int → Int → Int → Int → Int → Int → Option (Bool)
  | 0, _, _, _, _, _, _, _, _, _, _, _, _, _, _, _ => none
  | k + 1, x0, x1, x6, x7, x213000, x213001, x213002, x213003, x213004, x213005, x213006, x213007, x213008, x213009, x213010 => hawalalaw14_SagaYes.l1 k x0 x1 x6 x7 0 x213000 x213001 x213002 x213003 x213004 x213005 x213006 x213007 x213008 x213009 x213010
def hawalalaw14_SagaYes.l1 : Nat → Int → List Int → Int → Int → Int → Int → Int → Int → Int → Int → Int → Int → Int → Int → Int → Int → Option (Bool)
  | 0, _, _, _, _, _, _, _, _, _, _, _, _, _, _, _, _ => none
  | k + 1, x0, x1, x6, x7, x8, x213000, x213001, x213002, x213003, x213004, x213005, x213006, x213007, x213008, x213009, x213010 => if x8 < x7 then ((saga_Ready.f x213000 x213001 x213002 x213003 x213004 x213005 x213006 x213007 x213008 x213009 x213010).bind fun t225 => (if t225 = true then (some false) else ((saga_Leg.f k x213000 x213001 x213002 x213003 x213004 x213005 x213006 x213007 x213008 x213009 x213010 false).bind fun bt226 => (hawalalaw14_SagaYes.l1 k x0 x1 x6 x7 (wrap64 (x8 + 1)) bt226.1 bt226.2.1 bt226.2.2.1 bt226.2.2.2.1 bt226.2.2.2.2.1 bt226.2.2.2.2.2.1 bt226.2.2.2.2.2.2.1 bt226.2.2.2.2.2.2.2.1 bt226.2.2.2.2.2.2.2.2.1 bt226.2.2.2.2.2.2.2.2.2.1 bt226.2.2.2.2.2.2.2.2.2.2)))) else ((saga_Leg.f k x213000 x213001 x213002 x213003 x213004 x213005 x213006 x213007 x213008 x213009 x213010 true).bind fun bt214 => (hawalalaw14_SagaYes.l0 k x0 x1 (wrap64 (x6 + 1)) bt214.1 bt214.2.1 bt214.2.2.1 bt214.2.2.2.1 bt214.2.2.2.2.1 bt214.2.2.2.2.2.1 bt214.2.2.2.2.2.2.1 bt214.2.2.2.2.2.2.2.1 bt214.2.2.2.2.2.2.2.2.1 bt214.2.2.2.2.2.2.2.2.2.1 bt214.2.2.2.2.2.2.2.2.2.2))
end
def hawalalaw14_SagaYes.f (k : Nat) (a0 : Int) (l1 : List Int) : Option (Bool) := (hawalalaw14_awake.f k).bind fun t200 => (if t200 = true then ((saga_Begin.f 0 0 0 0 0 (wrap64 (Int.tmod a0 5)) 0).bind fun bt201 => (hawalalaw14_SagaYes.l0 k a0 l1 0 bt201.1 bt201.2.1 bt201.2.2.1 bt201.2.2.2.1 bt201.2.2.2.2.1 bt201.2.2.2.2.2.1 bt201.2.2.2.2.2.2.1 bt201.2.2.2.2.2.2.2.1 bt201.2.2.2.2.2.2.2.2.1 bt201.2.2.2.2.2.2.2.2.2.1 bt201.2.2.2.2.2.2.2.2.2.2)) else (some false))
theorem hawalalaw14_SagaYes.mono_l : ∀ k, (∀ y0 y1 y2 y3 y4 y5 y6 y7 y8 y9 y10 y11 y12 y13, LeO (hawalalaw14_SagaYes.l0 k y0 y1 y2 y3 y4 y5 y6 y7 y8 y9 y10 y11 y12 y13) (hawalalaw14_SagaYes.l0 (k + 1) y0 y1 y2 y3 y4 y5 y6 y7 y8 y9 y10 y11 y12 y13)) ∧ (∀ y0 y1 y2 y3 y4 y5 y6 y7 y8 y9 y10 y11 y12 y13 y14, LeO (hawalalaw14_SagaYes.j1 k y0 y1 y2 y3 y4 y5 y6 y7 y8 y9 y10 y11 y12 y13 y14) (hawalalaw14_SagaYes.j1 (k + 1) y0 y1 y2 y3 y4 y5 y6 y7 y8 y9 y10 y11 y12 y13 y14)) ∧ (∀ y0 y1 y2 y3 y4 y5 y6 y7 y8 y9 y10 y11 y12 y13 y14 y15, LeO (hawalalaw14_SagaYes.l1 k y0 y1 y2 y3 y4 y5 y6 y7 y8 y9 y10 y11 y12 y13 y14 y15) (hawalalaw14_SagaYes.l1 (k + 1) y0 y1 y2 y3 y4 y5 y6 y7 y8 y9 y10 y11 y12 y13 y14 y15))
  | 0 => ⟨fun _ _ _ _ _ _ _ _ _ _ _ _ _ _ r h => by simp [hawalalaw14_SagaYes.l0] at h, fun _ _ _ _ _ _ _ _ _ _ _ _ _ _ _ r h => by simp [hawalalaw14_SagaYes.j1] at h, fun _ _ _ _ _ _ _ _ _ _ _ _ _ _ _ _ r h => by simp [hawalalaw14_SagaYes.l1] at h⟩
  | k + 1 => by
    obtain ⟨ih0, ih1, ih2⟩ := hawalalaw14_SagaYes.mono_l k
    refine ⟨?_, ?_, ?_⟩
    · intro y0 y1 y2 y3 y4 y5 y6 y7 y8 y9 y10 y11 y12 y13
      unfold hawalalaw14_SagaYes.l0
      repeat' first
      | (with_reducible exact ih0 _ _ _ _ _ _ _ _ _ _ _ _ _ _)
      | (with_reducible exact ih1 _ _ _ _ _ _ _ _ _ _ _ _ _ _ _)
      | (with_reducible exact ih2 _ _ _ _ _ _ _ _ _ _ _ _ _ _ _ _)
      | (with_reducible exact hawalalaw14_awake.mono _)
      | (with_reducible exact saga_Leg.mono _ _ _ _ _ _ _ _ _ _ _ _ _)
      | (with_reducible exact LeO.refl _)
      | (with_reducible exact LeO.none _)
      | (with_reducible refine LeO.ite ?_ ?_)
      | (with_reducible refine LeO.bind ?_ (fun _ => ?_))
      | exact ih0 _ _ _ _ _ _ _ _ _ _ _ _ _ _
      | exact ih1 _ _ _ _ _ _ _ _ _ _ _ _ _ _ _
      | exact ih2 _ _ _ _ _ _ _ _ _ _ _ _ _ _ _ _
      | exact hawalalaw14_awake.mono _
      | exact saga_Leg.mono _ _ _ _ _ _ _ _ _ _ _ _ _
      | exact LeO.none _
      | refine LeO.ite ?_ ?_
      | refine LeO.bind ?_ (fun _ => ?_)
    · intro y0 y1 y2 y3 y4 y5 y6 y7 y8 y9 y10 y11 y12 y13 y14
      unfold hawalalaw14_SagaYes.j1
      repeat' first
      | (with_reducible exact ih0 _ _ _ _ _ _ _ _ _ _ _ _ _ _)
      | (with_reducible exact ih1 _ _ _ _ _ _ _ _ _ _ _ _ _ _ _)
      | (with_reducible exact ih2 _ _ _ _ _ _ _ _ _ _ _ _ _ _ _ _)
      | (with_reducible exact hawalalaw14_awake.mono _)
      | (with_reducible exact saga_Leg.mono _ _ _ _ _ _ _ _ _ _ _ _ _)
      | (with_reducible exact LeO.refl _)
      | (with_reducible exact LeO.none _)
      | (with_reducible refine LeO.ite ?_ ?_)
      | (with_reducible refine LeO.bind ?_ (fun _ => ?_))
      | exact ih0 _ _ _ _ _ _ _ _ _ _ _ _ _ _
      | exact ih1 _ _ _ _ _ _ _ _ _ _ _ _ _ _ _
      | exact ih2 _ _ _ _ _ _ _ _ _ _ _ _ _ _ _ _
      | exact hawalalaw14_awake.mono _
      | exact saga_Leg.mono _ _ _ _ _ _ _ _ _ _ _ _ _
      | exact LeO.none _
      | refine LeO.ite ?_ ?_
      | refine LeO.bind ?_ (fun _ => ?_)
    · intro y0 y1 y2 y3 y4 y5 y6 y7 y8 y9 y10 y11 y12 y13 y14 y15
      unfold hawalalaw14_SagaYes.l1
      repeat' first
      | (with_reducible exact ih0 _ _ _ _ _ _ _ _ _ _ _ _ _ _)
      | (with_reducible exact ih1 _ _ _ _ _ _ _ _ _ _ _ _ _ _ _)
      | (with_reducible exact ih2 _ _ _ _ _ _ _ _ _ _ _ _ _ _ _ _)
      | (with_reducible exact hawalalaw14_awake.mono _)
      | (with_reducible exact saga_Leg.mono _ _ _ _ _ _ _ _ _ _ _ _ _)
      | (with_reducible exact LeO.refl _)
      | (with_reducible exact LeO.none _)
      | (with_reducible refine LeO.ite ?_ ?_)
      | (with_reducible refine LeO.bind ?_ (fun _ => ?_))
      | exact ih0 _ _ _ _ _ _ _ _ _ _ _ _ _ _
      | exact ih1 _ _ _ _ _ _ _ _ _ _ _ _ _ _ _
      | exact ih2 _ _ _ _ _ _ _ _ _ _ _ _ _ _ _ _
      | exact hawalalaw14_awake.mono _
      | exact saga_Leg.mono _ _ _ _ _ _ _ _ _ _ _ _ _
      | exact LeO.none _
      | refine LeO.ite ?_ ?_
      | refine LeO.bind ?_ (fun _ => ?_)
theorem hawalalaw14_SagaYes.mono : ∀ a0 a1 k, LeO (hawalalaw14_SagaYes.f k a0 a1) (hawalalaw14_SagaYes.f (k + 1) a0 a1) := by
  intro a0 a1 k
  obtain ⟨ih0, ih1, ih2⟩ := hawalalaw14_SagaYes.mono_l k
  unfold hawalalaw14_SagaYes.f
  repeat' first
      | (with_reducible exact ih0 _ _ _ _ _ _ _ _ _ _ _ _ _ _)
      | (with_reducible exact ih1 _ _ _ _ _ _ _ _ _ _ _ _ _ _ _)
      | (with_reducible exact ih2 _ _ _ _ _ _ _ _ _ _ _ _ _ _ _ _)
      | (with_reducible exact hawalalaw14_awake.mono _)
      | (with_reducible exact saga_Leg.mono _ _ _ _ _ _ _ _ _ _ _ _ _)
      | (with_reducible exact LeO.refl _)
      | (with_reducible exact LeO.none _)
      | (with_reducible refine LeO.ite ?_ ?_)
      | (with_reducible refine LeO.bind ?_ (fun _ => ?_))
      | exact ih0 _ _ _ _ _ _ _ _ _ _ _ _ _ _
      | exact ih1 _ _ _ _ _ _ _ _ _ _ _ _ _ _ _
      | exact ih2 _ _ _ _ _ _ _ _ _ _ _ _ _ _ _ _
      | exact hawalalaw14_awake.mono _
      | exact saga_Leg.mono _ _ _ _ _ _ _ _ _ _ _ _ _
      | exact LeO.none _
      | refine LeO.ite ?_ ?_
      | refine LeO.bind ?_ (fun _ => ?_)
set_option maxHeartbeats 8000000 in
set_option maxRecDepth 100000 in
theorem hawalalaw14_SagaYes.calls (k : Nat) (a0 : Int) (A1 : Option Addr) (c1 : Nat) (l1 : List Int) (r : Bool) (w : World) (hr1 : Kd.C (Kd.int .u8) w A1 l1.length l1) (hc1 : l1.length ≤ c1) (h : hawalalaw14_SagaYes.f k a0 l1 = some r) :
    Calls Try.prog 4 #[.int .u8 a0, .slice A1 l1.length c1] w fun e w' => e = .returned (.bool r) ∧ Below w.heap.size w w' := by
  have hu25 := Try.underlying25
  have hu30 := Try.underlying30
  have HR1 := Aside0.mk hr1
  have HC1 := Aside0.mk hc1
  clear hr1 hc1
  have HB := Aside0.mk (Below.refl w.heap.size w)
  have H : ((hawalalaw14_awake.f k).bind fun t200 => (if t200 = true then ((saga_Begin.f 0 0 0 0 0 (wrap64 (Int.tmod a0 5)) 0).bind fun bt201 => (hawalalaw14_SagaYes.l0 k a0 l1 0 bt201.1 bt201.2.1 bt201.2.2.1 bt201.2.2.2.1 bt201.2.2.2.2.1 bt201.2.2.2.2.2.1 bt201.2.2.2.2.2.2.1 bt201.2.2.2.2.2.2.2.1 bt201.2.2.2.2.2.2.2.2.1 bt201.2.2.2.2.2.2.2.2.2.1 bt201.2.2.2.2.2.2.2.2.2.2)) else (some false))) = some r := h
  clear h
  replace H := Option.bind_eq_some_iff.mp H
  obtain ⟨t200, A30, H⟩ := H
  replace H : (if t200 = true then ((saga_Begin.f 0 0 0 0 0 (wrap64 (Int.tmod a0 5)) 0).bind fun bt201 => (hawalalaw14_SagaYes.l0 k a0 l1 0 bt201.1 bt201.2.1 bt201.2.2.1 bt201.2.2.2.1 bt201.2.2.2.2.1 bt201.2.2.2.2.2.1 bt201.2.2.2.2.2.2.1 bt201.2.2.2.2.2.2.2.1 bt201.2.2.2.2.2.2.2.2.1 bt201.2.2.2.2.2.2.2.2.2.1 bt201.2.2.2.2.2.2.2.2.2.2)) else (some false)) = some r := H
  have A3 := Aside0.mk A30
  clear A30
  by_cases c4 : t200 = true
  · subst c4
    have H1 : ((saga_Begin.f 0 0 0 0 0 (wrap64 (Int.tmod a0 5)) 0).bind fun bt201 => (hawalalaw14_SagaYes.l0 k a0 l1 0 bt201.1 bt201.2.1 bt201.2.2.1 bt201.2.2.2.1 bt201.2.2.2.2.1 bt201.2.2.2.2.2.1 bt201.2.2.2.2.2.2.1 bt201.2.2.2.2.2.2.2.1 bt201.2.2.2.2.2.2.2.2.1 bt201.2.2.2.2.2.2.2.2.2.1 bt201.2.2.2.2.2.2.2.2.2.2)) = some r := by rw [if_pos rfl] at H; exact H
    clear H
    have H := H1
    clear H1
    replace H := Option.bind_eq_some_iff.mp H
    obtain ⟨⟨t201, t202, t203, t204, t205, t206, t207, t208, t209, t210, t211⟩, A50, H⟩ := H
    replace H : (hawalalaw14_SagaYes.l0 k a0 l1 0 t201 t202 t203 t204 t205 t206 t207 t208 t209 t210 t211) = some r := H
    have A5 := Aside0.mk A50
    clear A50
    have H' := Aside0.mk H
    clear H
    go_enter Try.func4, Try.ntmps4
    go_wp2_with (first | ((with_reducible refine gate_callee (f := 7) rfl ?_); refine goesL_ (some 9) rfl rfl Try.func7 (by kernel_rfl) rfl #[] rfl (by (try simp only [List.map_toArray, List.map_cons, List.map_nil]); first | done | rfl | (simp only [List.length_drop, List.length_take]; rfl)) ?_; (with_reducible refine (hawalalaw14_awake.calls k  true _ A3.out).mono ?_); rintro e w6 ⟨rfl, hb⟩; refine ⟨_, rfl, ?_⟩; have n0_ := Aside0.mk (below_step (by repeat (first | (with_reducible first | exact HB.out | apply below_alloc | apply pw_below_drewN | apply below_drew1) | exact HB.out)) hb); clear HB; have HB := n0_; clear n0_; (try clear hb); (try clear hb2); (try clear hk); (try clear hi)) | ((with_reducible refine gate_callee (f := 8) rfl ?_); refine goesL_ (some 15) rfl rfl Try.func8 (by kernel_rfl) rfl #[.agg #[.int .i64 0, .int .i64 0, .int .i64 0, .int .i64 0, .int .i64 0, .int .i64 (wrap64 (Int.tmod a0 5)), .int .i64 0]] rfl (by (try simp only [List.map_toArray, List.map_cons, List.map_nil]); first | done | rfl | (simp only [List.length_drop, List.length_take]; rfl)) ?_; (with_reducible refine (saga_Begin.calls 0 0 0 0 0 (wrap64 (Int.tmod a0 5)) 0 t201 t202 t203 t204 t205 t206 t207 t208 t209 t210 t211 _ A5.out).mono ?_); rintro e w7 ⟨rfl, hb⟩; refine ⟨_, rfl, ?_⟩; have n0_ := Aside0.mk (below_step (by repeat (first | (with_reducible first | exact HB.out | apply below_alloc | apply pw_below_drewN | apply below_drew1) | exact HB.out)) hb); clear HB; have HB := n0_; clear n0_; (try clear hb); (try clear hb2); (try clear hk); (try clear hi)) | ((with_reducible refine gate_dst (N := 5) rfl ?_); refine box_event ?hg (N := 5) ?hd (cs := #[.int .i64 0, .int .i64 0, .int .i64 0, .int .i64 0, .int .i64 0, .int .i64 0, .int .i64 0, .int .i64 0, .int .i64 0, .int .i64 0, .int .i64 0]) (t := 30) ?hr ?_; (case hd => rfl); (case hg => rfl); (case hr => first | (go_simp; done) | (go_simp; rfl)); intro gb212 hg w8 hbox hb; have n0_ := Aside0.mk (below_step (by repeat (first | (with_reducible first | exact HB.out | apply below_alloc | apply pw_below_drewN | apply below_drew1) | exact HB.out)) hb); have n1_ := Aside0.mk (hbox); have n2_ := Aside0.mk ((by rw [hg]; exact (below_size (by repeat (first | (with_reducible first | exact HB.out | apply below_alloc | apply pw_below_drewN | apply below_drew1) | exact HB.out))) : w.heap.size ≤ gb212)); have n3_ := Aside0.mk ((by rw [hg]; exact (below_size (by repeat (first | (with_reducible first | exact HB.out | apply below_alloc | apply pw_below_drewN | apply below_drew1) | exact HB.out))) : w.heap.size ≤ gb212)); clear HB; have HB := n0_; have BK212 := n1_; have GW212 := n2_; have GE212 := n3_; clear n0_ n1_ n2_ n3_; clear hb hbox hg; have hcz9_0 : w8.cell? ⟨gb212, 0, none⟩ = some (.int .i64 0) := (blk_cell BK212.out 0).trans rfl; have hcz9_1 : w8.cell? ⟨gb212, 1, none⟩ = some (.int .i64 0) := (blk_cell BK212.out 1).trans rfl; have hcz9_2 : w8.cell? ⟨gb212, 2, none⟩ = some (.int .i64 0) := (blk_cell BK212.out 2).trans rfl; have hcz9_3 : w8.cell? ⟨gb212, 3, none⟩ = some (.int .i64 0) := (blk_cell BK212.out 3).trans rfl; have hcz9_4 : w8.cell? ⟨gb212, 4, none⟩ = some (.int .i64 0) := (blk_cell BK212.out 4).trans rfl; have hcz9_5 : w8.cell? ⟨gb212, 5, none⟩ = some (.int .i64 0) := (blk_cell BK212.out 5).trans rfl; have hcz9_6 : w8.cell? ⟨gb212, 6, none⟩ = some (.int .i64 0) := (blk_cell BK212.out 6).trans rfl; have hcz9_7 : w8.cell? ⟨gb212, 7, none⟩ = some (.int .i64 0) := (blk_cell BK212.out 7).trans rfl; have hcz9_8 : w8.cell? ⟨gb212, 8, none⟩ = some (.int .i64 0) := (blk_cell BK212.out 8).trans rfl; have hcz9_9 : w8.cell? ⟨gb212, 9, none⟩ = some (.int .i64 0) := (blk_cell BK212.out 9).trans rfl; have hcz9_10 : w8.cell? ⟨gb212, 10, none⟩ = some (.int .i64 0) := (blk_cell BK212.out 10).trans rfl; have hfz9_0 := blk_frozen BK212.out 0; have hfz9_1 := blk_frozen BK212.out 1; have hfz9_2 := blk_frozen BK212.out 2; have hfz9_3 := blk_frozen BK212.out 3; have hfz9_4 := blk_frozen BK212.out 4; have hfz9_5 := blk_frozen BK212.out 5; have hfz9_6 := blk_frozen BK212.out 6; have hfz9_7 := blk_frozen BK212.out 7; have hfz9_8 := blk_frozen BK212.out 8; have hfz9_9 := blk_frozen BK212.out 9; have hfz9_10 := blk_frozen BK212.out 10))
    go_loopg [6] k (fun kq v6 w' => ∃ (x6_1 : Int) (x213000_1 : Int) (x213001_1 : Int) (x213002_1 : Int) (x213003_1 : Int) (x213004_1 : Int) (x213005_1 : Int) (x213006_1 : Int) (x213007_1 : Int) (x213008_1 : Int) (x213009_1 : Int) (x213010_1 : Int), v6 = .int .i64 x6_1 ∧ Aside0 (hawalalaw14_SagaYes.l0 kq a0 l1 x6_1 x213000_1 x213001_1 x213002_1 x213003_1 x213004_1 x213005_1 x213006_1 x213007_1 x213008_1 x213009_1 x213010_1 = some r) ∧ Aside0 (kq ≤ k) ∧ Aside0 (w'.heap[gb212]? = some (.cells #[.int .i64 x213000_1, .int .i64 x213001_1, .int .i64 x213002_1, .int .i64 x213003_1, .int .i64 x213004_1, .int .i64 x213005_1, .int .i64 x213006_1, .int .i64 x213007_1, .int .i64 x213008_1, .int .i64 x213009_1, .int .i64 x213010_1] 30 (0, 0))) ∧ Aside0 (Below w.heap.size w w'))
    case atStart => exact ⟨(0), (t201), (t202), (t203), (t204), (t205), (t206), (t207), (t208), (t209), (t210), (t211), (by first | rfl | (simp; done) | (simp [*]; done)), H', ⟨Nat.le_refl _⟩, ⟨by (with_reducible repeat (first | refine blk_drewN ?_ _ | refine blk_drew ?_ | refine blk_alloc ?_ _)); refine blk_put (cs := #[.int .i64 t201, .int .i64 t202, .int .i64 t203, .int .i64 t204, .int .i64 t205, .int .i64 t206, .int .i64 t207, .int .i64 t208, .int .i64 t209, .int .i64 t210, .int .i64 0]) ?_ 10 _ rfl; (with_reducible repeat (first | refine blk_drewN ?_ _ | refine blk_drew ?_ | refine blk_alloc ?_ _)); refine blk_put (cs := #[.int .i64 t201, .int .i64 t202, .int .i64 t203, .int .i64 t204, .int .i64 t205, .int .i64 t206, .int .i64 t207, .int .i64 t208, .int .i64 t209, .int .i64 0, .int .i64 0]) ?_ 9 _ rfl; (with_reducible repeat (first | refine blk_drewN ?_ _ | refine blk_drew ?_ | refine blk_alloc ?_ _)); refine blk_put (cs := #[.int .i64 t201, .int .i64 t202, .int .i64 t203, .int .i64 t204, .int .i64 t205, .int .i64 t206, .int .i64 t207, .int .i64 t208, .int .i64 0, .int .i64 0, .int .i64 0]) ?_ 8 _ rfl; (with_reducible repeat (first | refine blk_drewN ?_ _ | refine blk_drew ?_ | refine blk_alloc ?_ _)); refine blk_put (cs := #[.int .i64 t201, .int .i64 t202, .int .i64 t203, .int .i64 t204, .int .i64 t205, .int .i64 t206, .int .i64 t207, .int .i64 0, .int .i64 0, .int .i64 0, .int .i64 0]) ?_ 7 _ rfl; (with_reducible repeat (first | refine blk_drewN ?_ _ | refine blk_drew ?_ | refine blk_alloc ?_ _)); refine blk_put (cs := #[.int .i64 t201, .int .i64 t202, .int .i64 t203, .int .i64 t204, .int .i64 t205, .int .i64 t206, .int .i64 0, .int .i64 0, .int .i64 0, .int .i64 0, .int .i64 0]) ?_ 6 _ rfl; (with_reducible repeat (first | refine blk_drewN ?_ _ | refine blk_drew ?_ | refine blk_alloc ?_ _)); refine blk_put (cs := #[.int .i64 t201, .int .i64 t202, .int .i64 t203, .int .i64 t204, .int .i64 t205, .int .i64 0, .int .i64 0, .int .i64 0, .int .i64 0, .int .i64 0, .int .i64 0]) ?_ 5 _ rfl; (with_reducible repeat (first | refine blk_drewN ?_ _ | refine blk_drew ?_ | refine blk_alloc ?_ _)); refine blk_put (cs := #[.int .i64 t201, .int .i64 t202, .int .i64 t203, .int .i64 t204, .int .i64 0, .int .i64 0, .int .i64 0, .int .i64 0, .int .i64 0, .int .i64 0, .int .i64 0]) ?_ 4 _ rfl; (with_reducible repeat (first | refine blk_drewN ?_ _ | refine blk_drew ?_ | refine blk_alloc ?_ _)); refine blk_put (cs := #[.int .i64 t201, .int .i64 t202, .int .i64 t203, .int .i64 0, .int .i64 0, .int .i64 0, .int .i64 0, .int .i64 0, .int .i64 0, .int .i64 0, .int .i64 0]) ?_ 3 _ rfl; (with_reducible repeat (first | refine blk_drewN ?_ _ | refine blk_drew ?_ | refine blk_alloc ?_ _)); refine blk_put (cs := #[.int .i64 t201, .int .i64 t202, .int .i64 0, .int .i64 0, .int .i64 0, .int .i64 0, .int .i64 0, .int .i64 0, .int .i64 0, .int .i64 0, .int .i64 0]) ?_ 2 _ rfl; (with_reducible repeat (first | refine blk_drewN ?_ _ | refine blk_drew ?_ | refine blk_alloc ?_ _)); refine blk_put (cs := #[.int .i64 t201, .int .i64 0, .int .i64 0, .int .i64 0, .int .i64 0, .int .i64 0, .int .i64 0, .int .i64 0, .int .i64 0, .int .i64 0, .int .i64 0]) ?_ 1 _ rfl; (with_reducible repeat (first | refine blk_drewN ?_ _ | refine blk_drew ?_ | refine blk_alloc ?_ _)); refine blk_put (cs := #[.int .i64 0, .int .i64 0, .int .i64 0, .int .i64 0, .int .i64 0, .int .i64 0, .int .i64 0, .int .i64 0, .int .i64 0, .int .i64 0, .int .i64 0]) ?_ 0 _ rfl; (with_reducible repeat (first | refine blk_drewN ?_ _ | refine blk_drew ?_ | refine blk_alloc ?_ _)); exact BK212.out⟩, ⟨by repeat (first | (with_reducible first | exact HB.out | apply below_alloc | apply pw_below_drewN | apply below_drew1 | refine below_set ?_ GE212.out) | exact HB.out)⟩⟩
    case round =>
      clear H'
      try clear c1
      try clear p2
      try clear c4
      try clear p6
      try clear c7
      try clear c8
      try clear hcz9_0
      try clear hcz9_1
      try clear hcz9_10
      try clear hcz9_2
      try clear hcz9_3
      try clear hcz9_4
      try clear hcz9_5
      try clear hcz9_6
      try clear hcz9_7
      try clear hcz9_8
      try clear hcz9_9
      try clear hfz9_0
      try clear hfz9_1
      try clear hfz9_10
      try clear hfz9_2
      try clear hfz9_3
      try clear hfz9_4
      try clear hfz9_5
      try clear hfz9_6
      try clear hfz9_7
      try clear hfz9_8
      try clear hfz9_9
      obtain ⟨x6_1, x213000_1, x213001_1, x213002_1, x213003_1, x213004_1, x213005_1, x213006_1, x213007_1, x213008_1, x213009_1, x213010_1, rfl, HA, HK1, BK212, HB⟩ := hrel
      cases gk with
      | zero => exact absurd HA.out (by simp [hawalalaw14_SagaYes.l0])
      | succ k1 =>
        have H := HA.out
        clear HA
        simp only [hawalalaw14_SagaYes.l0] at H
        by_cases c10 : x6_1 < (wrap64 (Int.tmod a0 5))
        · rw [if_pos c10] at H
          have c10b0 : decide (x6_1 < (wrap64 (Int.tmod a0 5))) = true := decide_eq_true c10
          clear c10
          have HC11 := Aside0.mk H
          clear H
          go_upto_if 26 with (fail)
          go_cut [7] (fun v7 wc => ∃ (kq : Nat) (x7_10 : Int), v7 = .int .i64 x7_10 ∧ Aside0 (hawalalaw14_SagaYes.j1 kq a0 l1 x6_1 x7_10 x213000_1 x213001_1 x213002_1 x213003_1 x213004_1 x213005_1 x213006_1 x213007_1 x213008_1 x213009_1 x213010_1 = some r) ∧ Aside0 (kq ≤ k1) ∧ Aside0 (wc.heap[gb212]? = some (.cells #[.int .i64 x213000_1, .int .i64 x213001_1, .int .i64 x213002_1, .int .i64 x213003_1, .int .i64 x213004_1, .int .i64 x213005_1, .int .i64 x213006_1, .int .i64 x213007_1, .int .i64 x213008_1, .int .i64 x213009_1, .int .i64 x213010_1] 30 (0, 0))) ∧ Aside0 (Below w.heap.size w wc))
          case first =>
            have H := HC11.out
            clear HC11
            by_cases c12 : x6_1 < (l1.length : Int)
            · rw [if_pos c12] at H
              have c12b0 : decide (x6_1 < (l1.length : Int)) = true := decide_eq_true c12
              clear c12
              (first | rw [c12b0] | (simp only [i64_w, i32_w]; rw [c12b0]) | skip)
              by_cases c13 : 0 ≤ x6_1
              · rw [if_pos c13] at H
                have c13b0 : decide (0 ≤ x6_1) = true := decide_eq_true c13
                clear c13
                have H' := Aside0.mk H
                clear H
                have p213 : 0 ≤ (x6_1 : Int) := of_decide_eq_true (by first | (with_reducible assumption) | assumption)
                have q213 : x6_1 < (l1.length : Int) := of_decide_eq_true (by first | (with_reducible assumption) | assumption)
                obtain ⟨ad213, e213, hx213_0⟩ := Kd.at_int HR1.out x6_1 p213 q213
                cases e213
                replace hx213_0 := (HB.out.cell (World.block_lt_of_cell? w _ hx213_0)).trans hx213_0
                replace p213 := eq_true p213
                replace q213 := eq_true q213
                go_wp2
                go_meet
                case rel => exact ⟨_, (wrap64 (Int.tmod (rd l1 x6_1) 4)), (by first | rfl | (simp; done) | (simp [*]; done)), H', ⟨by have := HK1.out; first | omega | exact Nat.le_refl _⟩, ⟨by (with_reducible repeat (first | refine blk_drewN ?_ _ | refine blk_drew ?_ | refine blk_alloc ?_ _)); exact BK212.out⟩, ⟨by repeat (first | (with_reducible first | exact HB.out | apply below_alloc | apply pw_below_drewN | apply below_drew1 | refine below_set ?_ GE212.out) | exact HB.out)⟩⟩
              · rw [if_neg c13] at H
                exact absurd H (by simp)
            · rw [if_neg c12] at H
              have c12b0 : decide (x6_1 < (l1.length : Int)) = false := decide_eq_false c12
              clear c12
              (first | rw [c12b0] | (simp only [i64_w, i32_w]; rw [c12b0]) | skip)
              have H' := Aside0.mk H
              clear H
              go_wp2
              go_meet
              case rel => exact ⟨_, (0), (by first | rfl | (simp; done) | (simp [*]; done)), H', ⟨by have := HK1.out; first | omega | exact Nat.le_refl _⟩, ⟨by (with_reducible repeat (first | refine blk_drewN ?_ _ | refine blk_drew ?_ | refine blk_alloc ?_ _)); exact BK212.out⟩, ⟨by repeat (first | (with_reducible first | exact HB.out | apply below_alloc | apply pw_below_drewN | apply below_drew1 | refine below_set ?_ GE212.out) | exact HB.out)⟩⟩
          case rest =>
            clear HC11
            try clear c1
            try clear p2
            try clear q2
            try clear hx2
            try clear c4
            try clear p6
            try clear c7
            try clear c8
            try clear c10
            try clear c10b0
            try clear c12
            try clear c12b0
            try clear c13
            try clear c13b0
            try clear hcz9_0
            try clear hcz9_1
            try clear hcz9_10
            try clear hcz9_2
            try clear hcz9_3
            try clear hcz9_4
            try clear hcz9_5
            try clear hcz9_6
            try clear hcz9_7
            try clear hcz9_8
            try clear hcz9_9
            try clear hfz9_0
            try clear hfz9_1
            try clear hfz9_10
            try clear hfz9_2
            try clear hfz9_3
            try clear hfz9_4
            try clear hfz9_5
            try clear hfz9_6
            try clear hfz9_7
            try clear hfz9_8
            try clear hfz9_9
            try clear hx213_0
            try clear p2
            try clear p213
            try clear p6
            try clear q213
            obtain ⟨kq, x7_10, rfl, HA, HJ10, BK212, HB⟩ := hcut
            cases kq with
            | zero => exact absurd HA.out (by simp [hawalalaw14_SagaYes.j1])
            | succ kj10 =>
              have H := HA.out
              clear HA
              simp only [hawalalaw14_SagaYes.j1] at H
              have H' := Aside0.mk H
              clear H
              go_wp2
              go_loopg [8] kj10 (fun kq v8 w' => ∃ (x8_3 : Int) (x213000_3 : Int) (x213001_3 : Int) (x213002_3 : Int) (x213003_3 : Int) (x213004_3 : Int) (x213005_3 : Int) (x213006_3 : Int) (x213007_3 : Int) (x213008_3 : Int) (x213009_3 : Int) (x213010_3 : Int), v8 = .int .i64 x8_3 ∧ Aside0 (hawalalaw14_SagaYes.l1 kq a0 l1 x6_1 x7_10 x8_3 x213000_3 x213001_3 x213002_3 x213003_3 x213004_3 x213005_3 x213006_3 x213007_3 x213008_3 x213009_3 x213010_3 = some r) ∧ Aside0 (kq ≤ kj10) ∧ Aside0 (w'.heap[gb212]? = some (.cells #[.int .i64 x213000_3, .int .i64 x213001_3, .int .i64 x213002_3, .int .i64 x213003_3, .int .i64 x213004_3, .int .i64 x213005_3, .int .i64 x213006_3, .int .i64 x213007_3, .int .i64 x213008_3, .int .i64 x213009_3, .int .i64 x213010_3] 30 (0, 0))) ∧ Aside0 (Below w.heap.size w w'))
              case atStart => exact ⟨(0), (x213000_1), (x213001_1), (x213002_1), (x213003_1), (x213004_1), (x213005_1), (x213006_1), (x213007_1), (x213008_1), (x213009_1), (x213010_1), (by first | rfl | (simp; done) | (simp [*]; done)), H', ⟨Nat.le_refl _⟩, ⟨by (with_reducible repeat (first | refine blk_drewN ?_ _ | refine blk_drew ?_ | refine blk_alloc ?_ _)); exact BK212.out⟩, ⟨by repeat (first | (with_reducible first | exact HB.out | apply below_alloc | apply pw_below_drewN | apply below_drew1 | refine below_set ?_ GE212.out) | exact HB.out)⟩⟩
              case round =>
                clear H'
                try clear c1
                try clear p2
                try clear q2
                try clear hx2
                try clear c4
                try clear p6
                try clear c7
                try clear c8
                try clear c10
                try clear c10b0
                try clear c12
                try clear c12b0
                try clear c13
                try clear c13b0
                try clear hcz9_0
                try clear hcz9_1
                try clear hcz9_10
                try clear hcz9_2
                try clear hcz9_3
                try clear hcz9_4
                try clear hcz9_5
                try clear hcz9_6
                try clear hcz9_7
                try clear hcz9_8
                try clear hcz9_9
                try clear hfz9_0
                try clear hfz9_1
                try clear hfz9_10
                try clear hfz9_2
                try clear hfz9_3
                try clear hfz9_4
                try clear hfz9_5
                try clear hfz9_6
                try clear hfz9_7
                try clear hfz9_8
                try clear hfz9_9
                try clear hx213_0
                try clear p2
                try clear p213
                try clear p6
                try clear q2
                try clear q213
                obtain ⟨x8_3, x213000_3, x213001_3, x213002_3, x213003_3, x213004_3, x213005_3, x213006_3, x213007_3, x213008_3, x213009_3, x213010_3, rfl, HA, HK3, BK212, HB⟩ := hrel
                cases gk with
                | zero => exact absurd HA.out (by simp [hawalalaw14_SagaYes.l1])
                | succ k3 =>
                  have H := HA.out
                  clear HA
                  simp only [hawalalaw14_SagaYes.l1] at H
                  by_cases c14 : x8_3 < x7_10
                  · rw [if_pos c14] at H
                    have c14b0 : decide (x8_3 < x7_10) = true := decide_eq_true c14
                    clear c14
                    replace H := Option.bind_eq_some_iff.mp H
                    obtain ⟨t225, A150, H⟩ := H
                    replace H : (if t225 = true then (some false) else ((saga_Leg.f k3 x213000_3 x213001_3 x213002_3 x213003_3 x213004_3 x213005_3 x213006_3 x213007_3 x213008_3 x213009_3 x213010_3 false).bind fun bt226 => (hawalalaw14_SagaYes.l1 k3 a0 l1 x6_1 x7_10 (wrap64 (x8_3 + 1)) bt226.1 bt226.2.1 bt226.2.2.1 bt226.2.2.2.1 bt226.2.2.2.2.1 bt226.2.2.2.2.2.1 bt226.2.2.2.2.2.2.1 bt226.2.2.2.2.2.2.2.1 bt226.2.2.2.2.2.2.2.2.1 bt226.2.2.2.2.2.2.2.2.2.1 bt226.2.2.2.2.2.2.2.2.2.2))) = some r := H
                    have A15 := Aside0.mk A150
                    clear A150
                    by_cases c16 : t225 = true
                    · subst c16
                      have H1 : (some false) = some r := by rw [if_pos rfl] at H; exact H
                      clear H
                      have H := H1
                      clear H1
                      obtain rfl := Option.some.inj H
                      have hcz17_0 : wr.cell? ⟨gb212, 0, none⟩ = some (.int .i64 x213000_3) := (blk_cell BK212.out 0).trans rfl
                      have hcz17_1 : wr.cell? ⟨gb212, 1, none⟩ = some (.int .i64 x213001_3) := (blk_cell BK212.out 1).trans rfl
                      have hcz17_2 : wr.cell? ⟨gb212, 2, none⟩ = some (.int .i64 x213002_3) := (blk_cell BK212.out 2).trans rfl
                      have hcz17_3 : wr.cell? ⟨gb212, 3, none⟩ = some (.int .i64 x213003_3) := (blk_cell BK212.out 3).trans rfl
                      have hcz17_4 : wr.cell? ⟨gb212, 4, none⟩ = some (.int .i64 x213004_3) := (blk_cell BK212.out 4).trans rfl
                      have hcz17_5 : wr.cell? ⟨gb212, 5, none⟩ = some (.int .i64 x213005_3) := (blk_cell BK212.out 5).trans rfl
                      have hcz17_6 : wr.cell? ⟨gb212, 6, none⟩ = some (.int .i64 x213006_3) := (blk_cell BK212.out 6).trans rfl
                      have hcz17_7 : wr.cell? ⟨gb212, 7, none⟩ = some (.int .i64 x213007_3) := (blk_cell BK212.out 7).trans rfl
                      have hcz17_8 : wr.cell? ⟨gb212, 8, none⟩ = some (.int .i64 x213008_3) := (blk_cell BK212.out 8).trans rfl
                      have hcz17_9 : wr.cell? ⟨gb212, 9, none⟩ = some (.int .i64 x213009_3) := (blk_cell BK212.out 9).trans rfl
                      have hcz17_10 : wr.cell? ⟨gb212, 10, none⟩ = some (.int .i64 x213010_3) := (blk_cell BK212.out 10).trans rfl
                      have hfz17_0 := blk_frozen BK212.out 0
                      have hfz17_1 := blk_frozen BK212.out 1
                      have hfz17_2 := blk_frozen BK212.out 2
                      have hfz17_3 := blk_frozen BK212.out 3
                      have hfz17_4 := blk_frozen BK212.out 4
                      have hfz17_5 := blk_frozen BK212.out 5
                      have hfz17_6 := blk_frozen BK212.out 6
                      have hfz17_7 := blk_frozen BK212.out 7
                      have hfz17_8 := blk_frozen BK212.out 8
                      have hfz17_9 := blk_frozen BK212.out 9
                      have hfz17_10 := blk_frozen BK212.out 10
                      go_wp2_with (first | ((with_reducible refine gate_callee (f := 9) rfl ?_); refine goesL_ (some 39) rfl rfl Try.func9 (by kernel_rfl) rfl #[.agg #[.int .i64 x213000_3, .int .i64 x213001_3, .int .i64 x213002_3, .int .i64 x213003_3, .int .i64 x213004_3, .int .i64 x213005_3, .int .i64 x213006_3, .int .i64 x213007_3, .int .i64 x213008_3, .int .i64 x213009_3, .int .i64 x213010_3]] rfl (by (try simp only [List.map_toArray, List.map_cons, List.map_nil]); first | done | rfl | (simp only [List.length_drop, List.length_take]; rfl)) ?_; (with_reducible refine (saga_Ready.calls x213000_3 x213001_3 x213002_3 x213003_3 x213004_3 x213005_3 x213006_3 x213007_3 x213008_3 x213009_3 x213010_3 true _ A15.out).mono ?_); rintro e w18 ⟨rfl, hb⟩; refine ⟨_, rfl, ?_⟩; have n0_ := Aside0.mk (blk_below (g := gb212) (o := .cells #[.int .i64 x213000_3, .int .i64 x213001_3, .int .i64 x213002_3, .int .i64 x213003_3, .int .i64 x213004_3, .int .i64 x213005_3, .int .i64 x213006_3, .int .i64 x213007_3, .int .i64 x213008_3, .int .i64 x213009_3, .int .i64 x213010_3] 30 (0, 0)) (by (with_reducible repeat (first | refine blk_drewN ?_ _ | refine blk_drew ?_ | refine blk_alloc ?_ _)); exact BK212.out) hb); have n1_ := Aside0.mk (below_step (by repeat (first | (with_reducible first | exact HB.out | apply below_alloc | apply pw_below_drewN | apply below_drew1 | refine below_set ?_ GE212.out) | exact HB.out)) hb); clear BK212; clear HB; have BK212 := n0_; have HB := n1_; clear n0_ n1_; (try clear hb); (try clear hb2); (try clear hk); (try clear hi)))
                      go_ret
                      exact ⟨by first | rfl | (simp [errW_none, errW_some] <;> rfl) | (simp [*, errW_none, errW_some] <;> rfl), by repeat (first | (with_reducible first | exact HB.out | apply below_alloc | apply pw_below_drewN | apply below_drew1 | refine below_set ?_ GE212.out) | exact HB.out)⟩
                    · replace c16 := Bool.eq_false_iff.mpr c16
                      subst c16
                      have H1 : ((saga_Leg.f k3 x213000_3 x213001_3 x213002_3 x213003_3 x213004_3 x213005_3 x213006_3 x213007_3 x213008_3 x213009_3 x213010_3 false).bind fun bt226 => (hawalalaw14_SagaYes.l1 k3 a0 l1 x6_1 x7_10 (wrap64 (x8_3 + 1)) bt226.1 bt226.2.1 bt226.2.2.1 bt226.2.2.2.1 bt226.2.2.2.2.1 bt226.2.2.2.2.2.1 bt226.2.2.2.2.2.2.1 bt226.2.2.2.2.2.2.2.1 bt226.2.2.2.2.2.2.2.2.1 bt226.2.2.2.2.2.2.2.2.2.1 bt226.2.2.2.2.2.2.2.2.2.2)) = some r := by rw [if_neg (show ¬ (false = true) by decide)] at H; exact H
                      clear H
                      have H := H1
                      clear H1
                      replace H := Option.bind_eq_some_iff.mp H
                      obtain ⟨⟨t226, t227, t228, t229, t230, t231, t232, t233, t234, t235, t236⟩, A190, H⟩ := H
                      replace H : (hawalalaw14_SagaYes.l1 k3 a0 l1 x6_1 x7_10 (wrap64 (x8_3 + 1)) t226 t227 t228 t229 t230 t231 t232 t233 t234 t235 t236) = some r := H
                      have A19 := Aside0.mk A190
                      clear A190
                      have H' := Aside0.mk H
                      clear H
                      have hcz20_0 : wr.cell? ⟨gb212, 0, none⟩ = some (.int .i64 x213000_3) := (blk_cell BK212.out 0).trans rfl
                      have hcz20_1 : wr.cell? ⟨gb212, 1, none⟩ = some (.int .i64 x213001_3) := (blk_cell BK212.out 1).trans rfl
                      have hcz20_2 : wr.cell? ⟨gb212, 2, none⟩ = some (.int .i64 x213002_3) := (blk_cell BK212.out 2).trans rfl
                      have hcz20_3 : wr.cell? ⟨gb212, 3, none⟩ = some (.int .i64 x213003_3) := (blk_cell BK212.out 3).trans rfl
                      have hcz20_4 : wr.cell? ⟨gb212, 4, none⟩ = some (.int .i64 x213004_3) := (blk_cell BK212.out 4).trans rfl
                      have hcz20_5 : wr.cell? ⟨gb212, 5, none⟩ = some (.int .i64 x213005_3) := (blk_cell BK212.out 5).trans rfl
                      have hcz20_6 : wr.cell? ⟨gb212, 6, none⟩ = some (.int .i64 x213006_3) := (blk_cell BK212.out 6).trans rfl
                      have hcz20_7 : wr.cell? ⟨gb212, 7, none⟩ = some (.int .i64 x213007_3) := (blk_cell BK212.out 7).trans rfl
                      have hcz20_8 : wr.cell? ⟨gb212, 8, none⟩ = some (.int .i64 x213008_3) := (blk_cell BK212.out 8).trans rfl
                      have hcz20_9 : wr.cell? ⟨gb212, 9, none⟩ = some (.int .i64 x213009_3) := (blk_cell BK212.out 9).trans rfl
                      have hcz20_10 : wr.cell? ⟨gb212, 10, none⟩ = some (.int .i64 x213010_3) := (blk_cell BK212.out 10).trans rfl
                      have hfz20_0 := blk_frozen BK212.out 0
                      have hfz20_1 := blk_frozen BK212.out 1
                      have hfz20_2 := blk_frozen BK212.out 2
                      have hfz20_3 := blk_frozen BK212.out 3
                      have hfz20_4 := blk_frozen BK212.out 4
                      have hfz20_5 := blk_frozen BK212.out 5
                      have hfz20_6 := blk_frozen BK212.out 6
                      have hfz20_7 := blk_frozen BK212.out 7
                      have hfz20_8 := blk_frozen BK212.out 8
                      have hfz20_9 := blk_frozen BK212.out 9
                      have hfz20_10 := blk_frozen BK212.out 10
                      go_wp2_with (first | ((with_reducible refine gate_callee (f := 9) rfl ?_); refine goesL_ (some 39) rfl rfl Try.func9 (by kernel_rfl) rfl #[.agg #[.int .i64 x213000_3, .int .i64 x213001_3, .int .i64 x213002_3, .int .i64 x213003_3, .int .i64 x213004_3, .int .i64 x213005_3, .int .i64 x213006_3, .int .i64 x213007_3, .int .i64 x213008_3, .int .i64 x213009_3, .int .i64 x213010_3]] rfl (by (try simp only [List.map_toArray, List.map_cons, List.map_nil]); first | done | rfl | (simp only [List.length_drop, List.length_take]; rfl)) ?_; (with_reducible refine (saga_Ready.calls x213000_3 x213001_3 x213002_3 x213003_3 x213004_3 x213005_3 x213006_3 x213007_3 x213008_3 x213009_3 x213010_3 false _ A15.out).mono ?_); rintro e w21 ⟨rfl, hb⟩; refine ⟨_, rfl, ?_⟩; have n0_ := Aside0.mk (blk_below (g := gb212) (o := .cells #[.int .i64 x213000_3, .int .i64 x213001_3, .int .i64 x213002_3, .int .i64 x213003_3, .int .i64 x213004_3, .int .i64 x213005_3, .int .i64 x213006_3, .int .i64 x213007_3, .int .i64 x213008_3, .int .i64 x213009_3, .int .i64 x213010_3] 30 (0, 0)) (by (with_reducible repeat (first | refine blk_drewN ?_ _ | refine blk_drew ?_ | refine blk_alloc ?_ _)); exact BK212.out) hb); have n1_ := Aside0.mk (below_step (by repeat (first | (with_reducible first | exact HB.out | apply below_alloc | apply pw_below_drewN | apply below_drew1 | refine below_set ?_ GE212.out) | exact HB.out)) hb); clear BK212; clear HB; have BK212 := n0_; have HB := n1_; clear n0_ n1_; (try clear hb); (try clear hb2); (try clear hk); (try clear hi); have hcz22_0 : w21.cell? ⟨gb212, 0, none⟩ = some (.int .i64 x213000_3) := (blk_cell BK212.out 0).trans rfl; have hcz22_1 : w21.cell? ⟨gb212, 1, none⟩ = some (.int .i64 x213001_3) := (blk_cell BK212.out 1).trans rfl; have hcz22_2 : w21.cell? ⟨gb212, 2, none⟩ = some (.int .i64 x213002_3) := (blk_cell BK212.out 2).trans rfl; have hcz22_3 : w21.cell? ⟨gb212, 3, none⟩ = some (.int .i64 x213003_3) := (blk_cell BK212.out 3).trans rfl; have hcz22_4 : w21.cell? ⟨gb212, 4, none⟩ = some (.int .i64 x213004_3) := (blk_cell BK212.out 4).trans rfl; have hcz22_5 : w21.cell? ⟨gb212, 5, none⟩ = some (.int .i64 x213005_3) := (blk_cell BK212.out 5).trans rfl; have hcz22_6 : w21.cell? ⟨gb212, 6, none⟩ = some (.int .i64 x213006_3) := (blk_cell BK212.out 6).trans rfl; have hcz22_7 : w21.cell? ⟨gb212, 7, none⟩ = some (.int .i64 x213007_3) := (blk_cell BK212.out 7).trans rfl; have hcz22_8 : w21.cell? ⟨gb212, 8, none⟩ = some (.int .i64 x213008_3) := (blk_cell BK212.out 8).trans rfl; have hcz22_9 : w21.cell? ⟨gb212, 9, none⟩ = some (.int .i64 x213009_3) := (blk_cell BK212.out 9).trans rfl; have hcz22_10 : w21.cell? ⟨gb212, 10, none⟩ = some (.int .i64 x213010_3) := (blk_cell BK212.out 10).trans rfl; have hfz22_0 := blk_frozen BK212.out 0; have hfz22_1 := blk_frozen BK212.out 1; have hfz22_2 := blk_frozen BK212.out 2; have hfz22_3 := blk_frozen BK212.out 3; have hfz22_4 := blk_frozen BK212.out 4; have hfz22_5 := blk_frozen BK212.out 5; have hfz22_6 := blk_frozen BK212.out 6; have hfz22_7 := blk_frozen BK212.out 7; have hfz22_8 := blk_frozen BK212.out 8; have hfz22_9 := blk_frozen BK212.out 9; have hfz22_10 := blk_frozen BK212.out 10) | ((with_reducible refine gate_callee (f := 10) rfl ?_); refine goesL_ (some 41) rfl rfl Try.func10 (by kernel_rfl) rfl #[.agg #[.int .i64 x213000_3, .int .i64 x213001_3, .int .i64 x213002_3, .int .i64 x213003_3, .int .i64 x213004_3, .int .i64 x213005_3, .int .i64 x213006_3, .int .i64 x213007_3, .int .i64 x213008_3, .int .i64 x213009_3, .int .i64 x213010_3], .bool false] rfl (by (try simp only [List.map_toArray, List.map_cons, List.map_nil]); first | done | rfl | (simp only [List.length_drop, List.length_take]; rfl)) ?_; (with_reducible refine (saga_Leg.calls k3 x213000_3 x213001_3 x213002_3 x213003_3 x213004_3 x213005_3 x213006_3 x213007_3 x213008_3 x213009_3 x213010_3 false t226 t227 t228 t229 t230 t231 t232 t233 t234 t235 t236 _ A19.out).mono ?_); rintro e w23 ⟨rfl, hb⟩; refine ⟨_, rfl, ?_⟩; have n0_ := Aside0.mk (blk_below (g := gb212) (o := .cells #[.int .i64 x213000_3, .int .i64 x213001_3, .int .i64 x213002_3, .int .i64 x213003_3, .int .i64 x213004_3, .int .i64 x213005_3, .int .i64 x213006_3, .int .i64 x213007_3, .int .i64 x213008_3, .int .i64 x213009_3, .int .i64 x213010_3] 30 (0, 0)) (by (with_reducible repeat (first | refine blk_drewN ?_ _ | refine blk_drew ?_ | refine blk_alloc ?_ _)); exact BK212.out) hb); have n1_ := Aside0.mk (below_step (by repeat (first | (with_reducible first | exact HB.out | apply below_alloc | apply pw_below_drewN | apply below_drew1 | refine below_set ?_ GE212.out) | exact HB.out)) hb); clear BK212; clear HB; have BK212 := n0_; have HB := n1_; clear n0_ n1_; (try clear hb); (try clear hb2); (try clear hk); (try clear hi); have hcz24_0 : w23.cell? ⟨gb212, 0, none⟩ = some (.int .i64 x213000_3) := (blk_cell BK212.out 0).trans rfl; have hcz24_1 : w23.cell? ⟨gb212, 1, none⟩ = some (.int .i64 x213001_3) := (blk_cell BK212.out 1).trans rfl; have hcz24_2 : w23.cell? ⟨gb212, 2, none⟩ = some (.int .i64 x213002_3) := (blk_cell BK212.out 2).trans rfl; have hcz24_3 : w23.cell? ⟨gb212, 3, none⟩ = some (.int .i64 x213003_3) := (blk_cell BK212.out 3).trans rfl; have hcz24_4 : w23.cell? ⟨gb212, 4, none⟩ = some (.int .i64 x213004_3) := (blk_cell BK212.out 4).trans rfl; have hcz24_5 : w23.cell? ⟨gb212, 5, none⟩ = some (.int .i64 x213005_3) := (blk_cell BK212.out 5).trans rfl; have hcz24_6 : w23.cell? ⟨gb212, 6, none⟩ = some (.int .i64 x213006_3) := (blk_cell BK212.out 6).trans rfl; have hcz24_7 : w23.cell? ⟨gb212, 7, none⟩ = some (.int .i64 x213007_3) := (blk_cell BK212.out 7).trans rfl; have hcz24_8 : w23.cell? ⟨gb212, 8, none⟩ = some (.int .i64 x213008_3) := (blk_cell BK212.out 8).trans rfl; have hcz24_9 : w23.cell? ⟨gb212, 9, none⟩ = some (.int .i64 x213009_3) := (blk_cell BK212.out 9).trans rfl; have hcz24_10 : w23.cell? ⟨gb212, 10, none⟩ = some (.int .i64 x213010_3) := (blk_cell BK212.out 10).trans rfl; have hfz24_0 := blk_frozen BK212.out 0; have hfz24_1 := blk_frozen BK212.out 1; have hfz24_2 := blk_frozen BK212.out 2; have hfz24_3 := blk_frozen BK212.out 3; have hfz24_4 := blk_frozen BK212.out 4; have hfz24_5 := blk_frozen BK212.out 5; have hfz24_6 := blk_frozen BK212.out 6; have hfz24_7 := blk_frozen BK212.out 7; have hfz24_8 := blk_frozen BK212.out 8; have hfz24_9 := blk_frozen BK212.out 9; have hfz24_10 := blk_frozen BK212.out 10))
                      go_roundg k3
                      case measure => have := HK1.out; have := HJ10.out; have := HK3.out; omega
                      case rel => exact ⟨(wrap64 (x8_3 + 1)), (t226), (t227), (t228), (t229), (t230), (t231), (t232), (t233), (t234), (t235), (t236), (by first | rfl | (simp; done) | (simp [*]; done)), H', ⟨by have := HK1.out; have := HJ10.out; have := HK3.out; omega⟩, ⟨by (with_reducible repeat (first | refine blk_drewN ?_ _ | refine blk_drew ?_ | refine blk_alloc ?_ _)); refine blk_put (cs := #[.int .i64 t226, .int .i64 t227, .int .i64 t228, .int .i64 t229, .int .i64 t230, .int .i64 t231, .int .i64 t232, .int .i64 t233, .int .i64 t234, .int .i64 t235, .int .i64 x213010_3]) ?_ 10 _ rfl; (with_reducible repeat (first | refine blk_drewN ?_ _ | refine blk_drew ?_ | refine blk_alloc ?_ _)); refine blk_put (cs := #[.int .i64 t226, .int .i64 t227, .int .i64 t228, .int .i64 t229, .int .i64 t230, .int .i64 t231, .int .i64 t232, .int .i64 t233, .int .i64 t234, .int .i64 x213009_3, .int .i64 x213010_3]) ?_ 9 _ rfl; (with_reducible repeat (first | refine blk_drewN ?_ _ | refine blk_drew ?_ | refine blk_alloc ?_ _)); refine blk_put (cs := #[.int .i64 t226, .int .i64 t227, .int .i64 t228, .int .i64 t229, .int .i64 t230, .int .i64 t231, .int .i64 t232, .int .i64 t233, .int .i64 x213008_3, .int .i64 x213009_3, .int .i64 x213010_3]) ?_ 8 _ rfl; (with_reducible repeat (first | refine blk_drewN ?_ _ | refine blk_drew ?_ | refine blk_alloc ?_ _)); refine blk_put (cs := #[.int .i64 t226, .int .i64 t227, .int .i64 t228, .int .i64 t229, .int .i64 t230, .int .i64 t231, .int .i64 t232, .int .i64 x213007_3, .int .i64 x213008_3, .int .i64 x213009_3, .int .i64 x213010_3]) ?_ 7 _ rfl; (with_reducible repeat (first | refine blk_drewN ?_ _ | refine blk_drew ?_ | refine blk_alloc ?_ _)); refine blk_put (cs := #[.int .i64 t226, .int .i64 t227, .int .i64 t228, .int .i64 t229, .int .i64 t230, .int .i64 t231, .int .i64 x213006_3, .int .i64 x213007_3, .int .i64 x213008_3, .int .i64 x213009_3, .int .i64 x213010_3]) ?_ 6 _ rfl; (with_reducible repeat (first | refine blk_drewN ?_ _ | refine blk_drew ?_ | refine blk_alloc ?_ _)); refine blk_put (cs := #[.int .i64 t226, .int .i64 t227, .int .i64 t228, .int .i64 t229, .int .i64 t230, .int .i64 x213005_3, .int .i64 x213006_3, .int .i64 x213007_3, .int .i64 x213008_3, .int .i64 x213009_3, .int .i64 x213010_3]) ?_ 5 _ rfl; (with_reducible repeat (first | refine blk_drewN ?_ _ | refine blk_drew ?_ | refine blk_alloc ?_ _)); refine blk_put (cs := #[.int .i64 t226, .int .i64 t227, .int .i64 t228, .int .i64 t229, .int .i64 x213004_3, .int .i64 x213005_3, .int .i64 x213006_3, .int .i64 x213007_3, .int .i64 x213008_3, .int .i64 x213009_3, .int .i64 x213010_3]) ?_ 4 _ rfl; (with_reducible repeat (first | refine blk_drewN ?_ _ | refine blk_drew ?_ | refine blk_alloc ?_ _)); refine blk_put (cs := #[.int .i64 t226, .int .i64 t227, .int .i64 t228, .int .i64 x213003_3, .int .i64 x213004_3, .int .i64 x213005_3, .int .i64 x213006_3, .int .i64 x213007_3, .int .i64 x213008_3, .int .i64 x213009_3, .int .i64 x213010_3]) ?_ 3 _ rfl; (with_reducible repeat (first | refine blk_drewN ?_ _ | refine blk_drew ?_ | refine blk_alloc ?_ _)); refine blk_put (cs := #[.int .i64 t226, .int .i64 t227, .int .i64 x213002_3, .int .i64 x213003_3, .int .i64 x213004_3, .int .i64 x213005_3, .int .i64 x213006_3, .int .i64 x213007_3, .int .i64 x213008_3, .int .i64 x213009_3, .int .i64 x213010_3]) ?_ 2 _ rfl; (with_reducible repeat (first | refine blk_drewN ?_ _ | refine blk_drew ?_ | refine blk_alloc ?_ _)); refine blk_put (cs := #[.int .i64 t226, .int .i64 x213001_3, .int .i64 x213002_3, .int .i64 x213003_3, .int .i64 x213004_3, .int .i64 x213005_3, .int .i64 x213006_3, .int .i64 x213007_3, .int .i64 x213008_3, .int .i64 x213009_3, .int .i64 x213010_3]) ?_ 1 _ rfl; (with_reducible repeat (first | refine blk_drewN ?_ _ | refine blk_drew ?_ | refine blk_alloc ?_ _)); refine blk_put (cs := #[.int .i64 x213000_3, .int .i64 x213001_3, .int .i64 x213002_3, .int .i64 x213003_3, .int .i64 x213004_3, .int .i64 x213005_3, .int .i64 x213006_3, .int .i64 x213007_3, .int .i64 x213008_3, .int .i64 x213009_3, .int .i64 x213010_3]) ?_ 0 _ rfl; (with_reducible repeat (first | refine blk_drewN ?_ _ | refine blk_drew ?_ | refine blk_alloc ?_ _)); exact BK212.out⟩, ⟨by repeat (first | (with_reducible first | exact HB.out | apply below_alloc | apply pw_below_drewN | apply below_drew1 | refine below_set ?_ GE212.out) | exact HB.out)⟩⟩
                  · rw [if_neg c14] at H
                    have c14b0 : decide (x8_3 < x7_10) = false := decide_eq_false c14
                    clear c14
                    replace H := Option.bind_eq_some_iff.mp H
                    obtain ⟨⟨t214, t215, t216, t217, t218, t219, t220, t221, t222, t223, t224⟩, A250, H⟩ := H
                    replace H : (hawalalaw14_SagaYes.l0 k3 a0 l1 (wrap64 (x6_1 + 1)) t214 t215 t216 t217 t218 t219 t220 t221 t222 t223 t224) = some r := H
                    have A25 := Aside0.mk A250
                    clear A250
                    have H' := Aside0.mk H
                    clear H
                    have hcz26_0 : wr.cell? ⟨gb212, 0, none⟩ = some (.int .i64 x213000_3) := (blk_cell BK212.out 0).trans rfl
                    have hcz26_1 : wr.cell? ⟨gb212, 1, none⟩ = some (.int .i64 x213001_3) := (blk_cell BK212.out 1).trans rfl
                    have hcz26_2 : wr.cell? ⟨gb212, 2, none⟩ = some (.int .i64 x213002_3) := (blk_cell BK212.out 2).trans rfl
                    have hcz26_3 : wr.cell? ⟨gb212, 3, none⟩ = some (.int .i64 x213003_3) := (blk_cell BK212.out 3).trans rfl
                    have hcz26_4 : wr.cell? ⟨gb212, 4, none⟩ = some (.int .i64 x213004_3) := (blk_cell BK212.out 4).trans rfl
                    have hcz26_5 : wr.cell? ⟨gb212, 5, none⟩ = some (.int .i64 x213005_3) := (blk_cell BK212.out 5).trans rfl
                    have hcz26_6 : wr.cell? ⟨gb212, 6, none⟩ = some (.int .i64 x213006_3) := (blk_cell BK212.out 6).trans rfl
                    have hcz26_7 : wr.cell? ⟨gb212, 7, none⟩ = some (.int .i64 x213007_3) := (blk_cell BK212.out 7).trans rfl
                    have hcz26_8 : wr.cell? ⟨gb212, 8, none⟩ = some (.int .i64 x213008_3) := (blk_cell BK212.out 8).trans rfl
                    have hcz26_9 : wr.cell? ⟨gb212, 9, none⟩ = some (.int .i64 x213009_3) := (blk_cell BK212.out 9).trans rfl
                    have hcz26_10 : wr.cell? ⟨gb212, 10, none⟩ = some (.int .i64 x213010_3) := (blk_cell BK212.out 10).trans rfl
                    have hfz26_0 := blk_frozen BK212.out 0
                    have hfz26_1 := blk_frozen BK212.out 1
                    have hfz26_2 := blk_frozen BK212.out 2
                    have hfz26_3 := blk_frozen BK212.out 3
                    have hfz26_4 := blk_frozen BK212.out 4
                    have hfz26_5 := blk_frozen BK212.out 5
                    have hfz26_6 := blk_frozen BK212.out 6
                    have hfz26_7 := blk_frozen BK212.out 7
                    have hfz26_8 := blk_frozen BK212.out 8
                    have hfz26_9 := blk_frozen BK212.out 9
                    have hfz26_10 := blk_frozen BK212.out 10
                    go_wp2_with (first | ((with_reducible refine gate_callee (f := 10) rfl ?_); refine goesL_ (some 43) rfl rfl Try.func10 (by kernel_rfl) rfl #[.agg #[.int .i64 x213000_3, .int .i64 x213001_3, .int .i64 x213002_3, .int .i64 x213003_3, .int .i64 x213004_3, .int .i64 x213005_3, .int .i64 x213006_3, .int .i64 x213007_3, .int .i64 x213008_3, .int .i64 x213009_3, .int .i64 x213010_3], .bool true] rfl (by (try simp only [List.map_toArray, List.map_cons, List.map_nil]); first | done | rfl | (simp only [List.length_drop, List.length_take]; rfl)) ?_; (with_reducible refine (saga_Leg.calls k3 x213000_3 x213001_3 x213002_3 x213003_3 x213004_3 x213005_3 x213006_3 x213007_3 x213008_3 x213009_3 x213010_3 true t214 t215 t216 t217 t218 t219 t220 t221 t222 t223 t224 _ A25.out).mono ?_); rintro e w27 ⟨rfl, hb⟩; refine ⟨_, rfl, ?_⟩; have n0_ := Aside0.mk (blk_below (g := gb212) (o := .cells #[.int .i64 x213000_3, .int .i64 x213001_3, .int .i64 x213002_3, .int .i64 x213003_3, .int .i64 x213004_3, .int .i64 x213005_3, .int .i64 x213006_3, .int .i64 x213007_3, .int .i64 x213008_3, .int .i64 x213009_3, .int .i64 x213010_3] 30 (0, 0)) (by (with_reducible repeat (first | refine blk_drewN ?_ _ | refine blk_drew ?_ | refine blk_alloc ?_ _)); exact BK212.out) hb); have n1_ := Aside0.mk (below_step (by repeat (first | (with_reducible first | exact HB.out | apply below_alloc | apply pw_below_drewN | apply below_drew1 | refine below_set ?_ GE212.out) | exact HB.out)) hb); clear BK212; clear HB; have BK212 := n0_; have HB := n1_; clear n0_ n1_; (try clear hb); (try clear hb2); (try clear hk); (try clear hi); have hcz28_0 : w27.cell? ⟨gb212, 0, none⟩ = some (.int .i64 x213000_3) := (blk_cell BK212.out 0).trans rfl; have hcz28_1 : w27.cell? ⟨gb212, 1, none⟩ = some (.int .i64 x213001_3) := (blk_cell BK212.out 1).trans rfl; have hcz28_2 : w27.cell? ⟨gb212, 2, none⟩ = some (.int .i64 x213002_3) := (blk_cell BK212.out 2).trans rfl; have hcz28_3 : w27.cell? ⟨gb212, 3, none⟩ = some (.int .i64 x213003_3) := (blk_cell BK212.out 3).trans rfl; have hcz28_4 : w27.cell? ⟨gb212, 4, none⟩ = some (.int .i64 x213004_3) := (blk_cell BK212.out 4).trans rfl; have hcz28_5 : w27.cell? ⟨gb212, 5, none⟩ = some (.int .i64 x213005_3) := (blk_cell BK212.out 5).trans rfl; have hcz28_6 : w27.cell? ⟨gb212, 6, none⟩ = some (.int .i64 x213006_3) := (blk_cell BK212.out 6).trans rfl; have hcz28_7 : w27.cell? ⟨gb212, 7, none⟩ = some (.int .i64 x213007_3) := (blk_cell BK212.out 7).trans rfl; have hcz28_8 : w27.cell? ⟨gb212, 8, none⟩ = some (.int .i64 x213008_3) := (blk_cell BK212.out 8).trans rfl; have hcz28_9 : w27.cell? ⟨gb212, 9, none⟩ = some (.int .i64 x213009_3) := (blk_cell BK212.out 9).trans rfl; have hcz28_10 : w27.cell? ⟨gb212, 10, none⟩ = some (.int .i64 x213010_3) := (blk_cell BK212.out 10).trans rfl; have hfz28_0 := blk_frozen BK212.out 0; have hfz28_1 := blk_frozen BK212.out 1; have hfz28_2 := blk_frozen BK212.out 2; have hfz28_3 := blk_frozen BK212.out 3; have hfz28_4 := blk_frozen BK212.out 4; have hfz28_5 := blk_frozen BK212.out 5; have hfz28_6 := blk_frozen BK212.out 6; have hfz28_7 := blk_frozen BK212.out 7; have hfz28_8 := blk_frozen BK212.out 8; have hfz28_9 := blk_frozen BK212.out 9; have hfz28_10 := blk_frozen BK212.out 10))
                    go_roundg k3
                    case measure => have := HK1.out; have := HJ10.out; have := HK3.out; omega
                    case rel => exact ⟨(wrap64 (x6_1 + 1)), (t214), (t215), (t216), (t217), (t218), (t219), (t220), (t221), (t222), (t223), (t224), (by first | rfl | (simp; done) | (simp [*]; done)), H', ⟨by have := HK1.out; have := HJ10.out; have := HK3.out; omega⟩, ⟨by (with_reducible repeat (first | refine blk_drewN ?_ _ | refine blk_drew ?_ | refine blk_alloc ?_ _)); refine blk_put (cs := #[.int .i64 t214, .int .i64 t215, .int .i64 t216, .int .i64 t217, .int .i64 t218, .int .i64 t219, .int .i64 t220, .int .i64 t221, .int .i64 t222, .int .i64 t223, .int .i64 x213010_3]) ?_ 10 _ rfl; (with_reducible repeat (first | refine blk_drewN ?_ _ | refine blk_drew ?_ | refine blk_alloc ?_ _)); refine blk_put (cs := #[.int .i64 t214, .int .i64 t215, .int .i64 t216, .int .i64 t217, .int .i64 t218, .int .i64 t219, .int .i64 t220, .int .i64 t221, .int .i64 t222, .int .i64 x213009_3, .int .i64 x213010_3]) ?_ 9 _ rfl; (with_reducible repeat (first | refine blk_drewN ?_ _ | refine blk_drew ?_ | refine blk_alloc ?_ _)); refine blk_put (cs := #[.int .i64 t214, .int .i64 t215, .int .i64 t216, .int .i64 t217, .int .i64 t218, .int .i64 t219, .int .i64 t220, .int .i64 t221, .int .i64 x213008_3, .int .i64 x213009_3, .int .i64 x213010_3]) ?_ 8 _ rfl; (with_reducible repeat (first | refine blk_drewN ?_ _ | refine blk_drew ?_ | refine blk_alloc ?_ _)); refine blk_put (cs := #[.int .i64 t214, .int .i64 t215, .int .i64 t216, .int .i64 t217, .int .i64 t218, .int .i64 t219, .int .i64 t220, .int .i64 x213007_3, .int .i64 x213008_3, .int .i64 x213009_3, .int .i64 x213010_3]) ?_ 7 _ rfl; (with_reducible repeat (first | refine blk_drewN ?_ _ | refine blk_drew ?_ | refine blk_alloc ?_ _)); refine blk_put (cs := #[.int .i64 t214, .int .i64 t215, .int .i64 t216, .int .i64 t217, .int .i64 t218, .int .i64 t219, .int .i64 x213006_3, .int .i64 x213007_3, .int .i64 x213008_3, .int .i64 x213009_3, .int .i64 x213010_3]) ?_ 6 _ rfl; (with_reducible repeat (first | refine blk_drewN ?_ _ | refine blk_drew ?_ | refine blk_alloc ?_ _)); refine blk_put (cs := #[.int .i64 t214, .int .i64 t215, .int .i64 t216, .int .i64 t217, .int .i64 t218, .int .i64 x213005_3, .int .i64 x213006_3, .int .i64 x213007_3, .int .i64 x213008_3, .int .i64 x213009_3, .int .i64 x213010_3]) ?_ 5 _ rfl; (with_reducible repeat (first | refine blk_drewN ?_ _ | refine blk_drew ?_ | refine blk_alloc ?_ _)); refine blk_put (cs := #[.int .i64 t214, .int .i64 t215, .int .i64 t216, .int .i64 t217, .int .i64 x213004_3, .int .i64 x213005_3, .int .i64 x213006_3, .int .i64 x213007_3, .int .i64 x213008_3, .int .i64 x213009_3, .int .i64 x213010_3]) ?_ 4 _ rfl; (with_reducible repeat (first | refine blk_drewN ?_ _ | refine blk_drew ?_ | refine blk_alloc ?_ _)); refine blk_put (cs := #[.int .i64 t214, .int .i64 t215, .int .i64 t216, .int .i64 x213003_3, .int .i64 x213004_3, .int .i64 x213005_3, .int .i64 x213006_3, .int .i64 x213007_3, .int .i64 x213008_3, .int .i64 x213009_3, .int .i64 x213010_3]) ?_ 3 _ rfl; (with_reducible repeat (first | refine blk_drewN ?_ _ | refine blk_drew ?_ | refine blk_alloc ?_ _)); refine blk_put (cs := #[.int .i64 t214, .int .i64 t215, .int .i64 x213002_3, .int .i64 x213003_3, .int .i64 x213004_3, .int .i64 x213005_3, .int .i64 x213006_3, .int .i64 x213007_3, .int .i64 x213008_3, .int .i64 x213009_3, .int .i64 x213010_3]) ?_ 2 _ rfl; (with_reducible repeat (first | refine blk_drewN ?_ _ | refine blk_drew ?_ | refine blk_alloc ?_ _)); refine blk_put (cs := #[.int .i64 t214, .int .i64 x213001_3, .int .i64 x213002_3, .int .i64 x213003_3, .int .i64 x213004_3, .int .i64 x213005_3, .int .i64 x213006_3, .int .i64 x213007_3, .int .i64 x213008_3, .int .i64 x213009_3, .int .i64 x213010_3]) ?_ 1 _ rfl; (with_reducible repeat (first | refine blk_drewN ?_ _ | refine blk_drew ?_ | refine blk_alloc ?_ _)); refine blk_put (cs := #[.int .i64 x213000_3, .int .i64 x213001_3, .int .i64 x213002_3, .int .i64 x213003_3, .int .i64 x213004_3, .int .i64 x213005_3, .int .i64 x213006_3, .int .i64 x213007_3, .int .i64 x213008_3, .int .i64 x213009_3, .int .i64 x213010_3]) ?_ 0 _ rfl; (with_reducible repeat (first | refine blk_drewN ?_ _ | refine blk_drew ?_ | refine blk_alloc ?_ _)); exact BK212.out⟩, ⟨by repeat (first | (with_reducible first | exact HB.out | apply below_alloc | apply pw_below_drewN | apply below_drew1 | refine below_set ?_ GE212.out) | exact HB.out)⟩⟩
        · rw [if_neg c10] at H
          have c10b0 : decide (x6_1 < (wrap64 (Int.tmod a0 5))) = false := decide_eq_false c10
          clear c10
          replace H := Option.bind_eq_some_iff.mp H
          obtain ⟨t237, A290, H⟩ := H
          replace H : (if t237 = true then (if x213008_1 = (wrap64 (Int.tmod a0 5)) then (if x213009_1 = 0 then ((saga_Most.f x213000_1 x213001_1 x213002_1 x213003_1 x213004_1 x213005_1 x213006_1 x213007_1 x213008_1 x213009_1 x213010_1).bind fun t238 => (some (t238 == 2))) else (some false)) else (some false)) else (some false)) = some r := H
          have A29 := Aside0.mk A290
          clear A290
          by_cases c30 : t237 = true
          · subst c30
            have H1 : (if x213008_1 = (wrap64 (Int.tmod a0 5)) then (if x213009_1 = 0 then ((saga_Most.f x213000_1 x213001_1 x213002_1 x213003_1 x213004_1 x213005_1 x213006_1 x213007_1 x213008_1 x213009_1 x213010_1).bind fun t238 => (some (t238 == 2))) else (some false)) else (some false)) = some r := by rw [if_pos rfl] at H; exact H
            clear H
            have H := H1
            clear H1
            by_cases c31 : x213008_1 = (wrap64 (Int.tmod a0 5))
            · rw [if_pos c31] at H
              have c31b0 : (x213008_1 == (wrap64 (Int.tmod a0 5))) = true := beq_iff_eq.mpr c31
              have c31b1 : (x213008_1 != (wrap64 (Int.tmod a0 5))) = false := bne_eq_false_iff_eq.mpr c31
              clear c31
              by_cases c32 : x213009_1 = 0
              · rw [if_pos c32] at H
                have c32b0 : (x213009_1 == 0) = true := beq_iff_eq.mpr c32
                have c32b1 : (x213009_1 != 0) = false := bne_eq_false_iff_eq.mpr c32
                clear c32
                replace H := Option.bind_eq_some_iff.mp H
                obtain ⟨t238, A330, H⟩ := H
                replace H : (some (t238 == 2)) = some r := H
                have A33 := Aside0.mk A330
                clear A330
                obtain rfl := Option.some.inj H
                have hcz34_0 : wr.cell? ⟨gb212, 0, none⟩ = some (.int .i64 x213000_1) := (blk_cell BK212.out 0).trans rfl
                have hcz34_1 : wr.cell? ⟨gb212, 1, none⟩ = some (.int .i64 x213001_1) := (blk_cell BK212.out 1).trans rfl
                have hcz34_2 : wr.cell? ⟨gb212, 2, none⟩ = some (.int .i64 x213002_1) := (blk_cell BK212.out 2).trans rfl
                have hcz34_3 : wr.cell? ⟨gb212, 3, none⟩ = some (.int .i64 x213003_1) := (blk_cell BK212.out 3).trans rfl
                have hcz34_4 : wr.cell? ⟨gb212, 4, none⟩ = some (.int .i64 x213004_1) := (blk_cell BK212.out 4).trans rfl
                have hcz34_5 : wr.cell? ⟨gb212, 5, none⟩ = some (.int .i64 x213005_1) := (blk_cell BK212.out 5).trans rfl
                have hcz34_6 : wr.cell? ⟨gb212, 6, none⟩ = some (.int .i64 x213006_1) := (blk_cell BK212.out 6).trans rfl
                have hcz34_7 : wr.cell? ⟨gb212, 7, none⟩ = some (.int .i64 x213007_1) := (blk_cell BK212.out 7).trans rfl
                have hcz34_8 : wr.cell? ⟨gb212, 8, none⟩ = some (.int .i64 x213008_1) := (blk_cell BK212.out 8).trans rfl
                have hcz34_9 : wr.cell? ⟨gb212, 9, none⟩ = some (.int .i64 x213009_1) := (blk_cell BK212.out 9).trans rfl
                have hcz34_10 : wr.cell? ⟨gb212, 10, none⟩ = some (.int .i64 x213010_1) := (blk_cell BK212.out 10).trans rfl
                have hfz34_0 := blk_frozen BK212.out 0
                have hfz34_1 := blk_frozen BK212.out 1
                have hfz34_2 := blk_frozen BK212.out 2
                have hfz34_3 := blk_frozen BK212.out 3
                have hfz34_4 := blk_frozen BK212.out 4
                have hfz34_5 := blk_frozen BK212.out 5
                have hfz34_6 := blk_frozen BK212.out 6
                have hfz34_7 := blk_frozen BK212.out 7
                have hfz34_8 := blk_frozen BK212.out 8
                have hfz34_9 := blk_frozen BK212.out 9
                have hfz34_10 := blk_frozen BK212.out 10
                go_wp2_with (first | ((with_reducible refine gate_callee (f := 9) rfl ?_); refine goesL_ (some 45) rfl rfl Try.func9 (by kernel_rfl) rfl #[.agg #[.int .i64 x213000_1, .int .i64 x213001_1, .int .i64 x213002_1, .int .i64 x213003_1, .int .i64 x213004_1, .int .i64 x213005_1, .int .i64 x213006_1, .int .i64 x213007_1, .int .i64 x213008_1, .int .i64 x213009_1, .int .i64 x213010_1]] rfl (by (try simp only [List.map_toArray, List.map_cons, List.map_nil]); first | done | rfl | (simp only [List.length_drop, List.length_take]; rfl)) ?_; (with_reducible refine (saga_Ready.calls x213000_1 x213001_1 x213002_1 x213003_1 x213004_1 x213005_1 x213006_1 x213007_1 x213008_1 x213009_1 x213010_1 true _ A29.out).mono ?_); rintro e w35 ⟨rfl, hb⟩; refine ⟨_, rfl, ?_⟩; have n0_ := Aside0.mk (blk_below (g := gb212) (o := .cells #[.int .i64 x213000_1, .int .i64 x213001_1, .int .i64 x213002_1, .int .i64 x213003_1, .int .i64 x213004_1, .int .i64 x213005_1, .int .i64 x213006_1, .int .i64 x213007_1, .int .i64 x213008_1, .int .i64 x213009_1, .int .i64 x213010_1] 30 (0, 0)) (by (with_reducible repeat (first | refine blk_drewN ?_ _ | refine blk_drew ?_ | refine blk_alloc ?_ _)); exact BK212.out) hb); have n1_ := Aside0.mk (below_step (by repeat (first | (with_reducible first | exact HB.out | apply below_alloc | apply pw_below_drewN | apply below_drew1 | refine below_set ?_ GE212.out) | exact HB.out)) hb); clear BK212; clear HB; have BK212 := n0_; have HB := n1_; clear n0_ n1_; (try clear hb); (try clear hb2); (try clear hk); (try clear hi); have hcz36_0 : w35.cell? ⟨gb212, 0, none⟩ = some (.int .i64 x213000_1) := (blk_cell BK212.out 0).trans rfl; have hcz36_1 : w35.cell? ⟨gb212, 1, none⟩ = some (.int .i64 x213001_1) := (blk_cell BK212.out 1).trans rfl; have hcz36_2 : w35.cell? ⟨gb212, 2, none⟩ = some (.int .i64 x213002_1) := (blk_cell BK212.out 2).trans rfl; have hcz36_3 : w35.cell? ⟨gb212, 3, none⟩ = some (.int .i64 x213003_1) := (blk_cell BK212.out 3).trans rfl; have hcz36_4 : w35.cell? ⟨gb212, 4, none⟩ = some (.int .i64 x213004_1) := (blk_cell BK212.out 4).trans rfl; have hcz36_5 : w35.cell? ⟨gb212, 5, none⟩ = some (.int .i64 x213005_1) := (blk_cell BK212.out 5).trans rfl; have hcz36_6 : w35.cell? ⟨gb212, 6, none⟩ = some (.int .i64 x213006_1) := (blk_cell BK212.out 6).trans rfl; have hcz36_7 : w35.cell? ⟨gb212, 7, none⟩ = some (.int .i64 x213007_1) := (blk_cell BK212.out 7).trans rfl; have hcz36_8 : w35.cell? ⟨gb212, 8, none⟩ = some (.int .i64 x213008_1) := (blk_cell BK212.out 8).trans rfl; have hcz36_9 : w35.cell? ⟨gb212, 9, none⟩ = some (.int .i64 x213009_1) := (blk_cell BK212.out 9).trans rfl; have hcz36_10 : w35.cell? ⟨gb212, 10, none⟩ = some (.int .i64 x213010_1) := (blk_cell BK212.out 10).trans rfl; have hfz36_0 := blk_frozen BK212.out 0; have hfz36_1 := blk_frozen BK212.out 1; have hfz36_2 := blk_frozen BK212.out 2; have hfz36_3 := blk_frozen BK212.out 3; have hfz36_4 := blk_frozen BK212.out 4; have hfz36_5 := blk_frozen BK212.out 5; have hfz36_6 := blk_frozen BK212.out 6; have hfz36_7 := blk_frozen BK212.out 7; have hfz36_8 := blk_frozen BK212.out 8; have hfz36_9 := blk_frozen BK212.out 9; have hfz36_10 := blk_frozen BK212.out 10) | (go_at_call 12; (with_reducible refine (saga_Most.calls x213000_1 x213001_1 x213002_1 x213003_1 x213004_1 x213005_1 x213006_1 x213007_1 x213008_1 x213009_1 x213010_1 t238 _ A33.out).mono ?_); rintro e w37 ⟨rfl, hb⟩; have n0_ := Aside0.mk (blk_below (g := gb212) (o := .cells #[.int .i64 x213000_1, .int .i64 x213001_1, .int .i64 x213002_1, .int .i64 x213003_1, .int .i64 x213004_1, .int .i64 x213005_1, .int .i64 x213006_1, .int .i64 x213007_1, .int .i64 x213008_1, .int .i64 x213009_1, .int .i64 x213010_1] 30 (0, 0)) (by (with_reducible repeat (first | refine blk_drewN ?_ _ | refine blk_drew ?_ | refine blk_alloc ?_ _)); exact BK212.out) hb); have n1_ := Aside0.mk (below_step (by repeat (first | (with_reducible first | exact HB.out | apply below_alloc | apply pw_below_drewN | apply below_drew1 | refine below_set ?_ GE212.out) | exact HB.out)) hb); clear BK212; clear HB; have BK212 := n0_; have HB := n1_; clear n0_ n1_; (try clear hb); (try clear hb2); (try clear hk); (try clear hi)))
                go_ret
                exact ⟨by first | rfl | (simp [errW_none, errW_some] <;> rfl) | (simp [*, errW_none, errW_some] <;> rfl), by repeat (first | (with_reducible first | exact HB.out | apply below_alloc | apply pw_below_drewN | apply below_drew1 | refine below_set ?_ GE212.out) | exact HB.out)⟩
              · rw [if_neg c32] at H
                have c32b0 : (x213009_1 == 0) = false := beq_eq_false_iff_ne.mpr c32
                have c32b1 : (x213009_1 != 0) = true := bne_iff_ne.mpr c32
                obtain rfl := Option.some.inj H
                have hcz38_0 : wr.cell? ⟨gb212, 0, none⟩ = some (.int .i64 x213000_1) := (blk_cell BK212.out 0).trans rfl
                have hcz38_1 : wr.cell? ⟨gb212, 1, none⟩ = some (.int .i64 x213001_1) := (blk_cell BK212.out 1).trans rfl
                have hcz38_2 : wr.cell? ⟨gb212, 2, none⟩ = some (.int .i64 x213002_1) := (blk_cell BK212.out 2).trans rfl
                have hcz38_3 : wr.cell? ⟨gb212, 3, none⟩ = some (.int .i64 x213003_1) := (blk_cell BK212.out 3).trans rfl
                have hcz38_4 : wr.cell? ⟨gb212, 4, none⟩ = some (.int .i64 x213004_1) := (blk_cell BK212.out 4).trans rfl
                have hcz38_5 : wr.cell? ⟨gb212, 5, none⟩ = some (.int .i64 x213005_1) := (blk_cell BK212.out 5).trans rfl
                have hcz38_6 : wr.cell? ⟨gb212, 6, none⟩ = some (.int .i64 x213006_1) := (blk_cell BK212.out 6).trans rfl
                have hcz38_7 : wr.cell? ⟨gb212, 7, none⟩ = some (.int .i64 x213007_1) := (blk_cell BK212.out 7).trans rfl
                have hcz38_8 : wr.cell? ⟨gb212, 8, none⟩ = some (.int .i64 x213008_1) := (blk_cell BK212.out 8).trans rfl
                have hcz38_9 : wr.cell? ⟨gb212, 9, none⟩ = some (.int .i64 x213009_1) := (blk_cell BK212.out 9).trans rfl
                have hcz38_10 : wr.cell? ⟨gb212, 10, none⟩ = some (.int .i64 x213010_1) := (blk_cell BK212.out 10).trans rfl
                have hfz38_0 := blk_frozen BK212.out 0
                have hfz38_1 := blk_frozen BK212.out 1
                have hfz38_2 := blk_frozen BK212.out 2
                have hfz38_3 := blk_frozen BK212.out 3
                have hfz38_4 := blk_frozen BK212.out 4
                have hfz38_5 := blk_frozen BK212.out 5
                have hfz38_6 := blk_frozen BK212.out 6
                have hfz38_7 := blk_frozen BK212.out 7
                have hfz38_8 := blk_frozen BK212.out 8
                have hfz38_9 := blk_frozen BK212.out 9
                have hfz38_10 := blk_frozen BK212.out 10
                go_wp2_with (first | ((with_reducible refine gate_callee (f := 9) rfl ?_); refine goesL_ (some 45) rfl rfl Try.func9 (by kernel_rfl) rfl #[.agg #[.int .i64 x213000_1, .int .i64 x213001_1, .int .i64 x213002_1, .int .i64 x213003_1, .int .i64 x213004_1, .int .i64 x213005_1, .int .i64 x213006_1, .int .i64 x213007_1, .int .i64 x213008_1, .int .i64 x213009_1, .int .i64 x213010_1]] rfl (by (try simp only [List.map_toArray, List.map_cons, List.map_nil]); first | done | rfl | (simp only [List.length_drop, List.length_take]; rfl)) ?_; (with_reducible refine (saga_Ready.calls x213000_1 x213001_1 x213002_1 x213003_1 x213004_1 x213005_1 x213006_1 x213007_1 x213008_1 x213009_1 x213010_1 true _ A29.out).mono ?_); rintro e w39 ⟨rfl, hb⟩; refine ⟨_, rfl, ?_⟩; have n0_ := Aside0.mk (blk_below (g := gb212) (o := .cells #[.int .i64 x213000_1, .int .i64 x213001_1, .int .i64 x213002_1, .int .i64 x213003_1, .int .i64 x213004_1, .int .i64 x213005_1, .int .i64 x213006_1, .int .i64 x213007_1, .int .i64 x213008_1, .int .i64 x213009_1, .int .i64 x213010_1] 30 (0, 0)) (by (with_reducible repeat (first | refine blk_drewN ?_ _ | refine blk_drew ?_ | refine blk_alloc ?_ _)); exact BK212.out) hb); have n1_ := Aside0.mk (below_step (by repeat (first | (with_reducible first | exact HB.out | apply below_alloc | apply pw_below_drewN | apply below_drew1 | refine below_set ?_ GE212.out) | exact HB.out)) hb); clear BK212; clear HB; have BK212 := n0_; have HB := n1_; clear n0_ n1_; (try clear hb); (try clear hb2); (try clear hk); (try clear hi); have hcz40_0 : w39.cell? ⟨gb212, 0, none⟩ = some (.int .i64 x213000_1) := (blk_cell BK212.out 0).trans rfl; have hcz40_1 : w39.cell? ⟨gb212, 1, none⟩ = some (.int .i64 x213001_1) := (blk_cell BK212.out 1).trans rfl; have hcz40_2 : w39.cell? ⟨gb212, 2, none⟩ = some (.int .i64 x213002_1) := (blk_cell BK212.out 2).trans rfl; have hcz40_3 : w39.cell? ⟨gb212, 3, none⟩ = some (.int .i64 x213003_1) := (blk_cell BK212.out 3).trans rfl; have hcz40_4 : w39.cell? ⟨gb212, 4, none⟩ = some (.int .i64 x213004_1) := (blk_cell BK212.out 4).trans rfl; have hcz40_5 : w39.cell? ⟨gb212, 5, none⟩ = some (.int .i64 x213005_1) := (blk_cell BK212.out 5).trans rfl; have hcz40_6 : w39.cell? ⟨gb212, 6, none⟩ = some (.int .i64 x213006_1) := (blk_cell BK212.out 6).trans rfl; have hcz40_7 : w39.cell? ⟨gb212, 7, none⟩ = some (.int .i64 x213007_1) := (blk_cell BK212.out 7).trans rfl; have hcz40_8 : w39.cell? ⟨gb212, 8, none⟩ = some (.int .i64 x213008_1) := (blk_cell BK212.out 8).trans rfl; have hcz40_9 : w39.cell? ⟨gb212, 9, none⟩ = some (.int .i64 x213009_1) := (blk_cell BK212.out 9).trans rfl; have hcz40_10 : w39.cell? ⟨gb212, 10, none⟩ = some (.int .i64 x213010_1) := (blk_cell BK212.out 10).trans rfl; have hfz40_0 := blk_frozen BK212.out 0; have hfz40_1 := blk_frozen BK212.out 1; have hfz40_2 := blk_frozen BK212.out 2; have hfz40_3 := blk_frozen BK212.out 3; have hfz40_4 := blk_frozen BK212.out 4; have hfz40_5 := blk_frozen BK212.out 5; have hfz40_6 := blk_frozen BK212.out 6; have hfz40_7 := blk_frozen BK212.out 7; have hfz40_8 := blk_frozen BK212.out 8; have hfz40_9 := blk_frozen BK212.out 9; have hfz40_10 := blk_frozen BK212.out 10))
                go_ret
                exact ⟨by first | rfl | (simp [errW_none, errW_some] <;> rfl) | (simp [*, errW_none, errW_some] <;> rfl), by repeat (first | (with_reducible first | exact HB.out | apply below_alloc | apply pw_below_drewN | apply below_drew1 | refine below_set ?_ GE212.out) | exact HB.out)⟩
            · rw [if_neg c31] at H
              have c31b0 : (x213008_1 == (wrap64 (Int.tmod a0 5))) = false := beq_eq_false_iff_ne.mpr c31
              have c31b1 : (x213008_1 != (wrap64 (Int.tmod a0 5))) = true := bne_iff_ne.mpr c31
              obtain rfl := Option.some.inj H
              have hcz41_0 : wr.cell? ⟨gb212, 0, none⟩ = some (.int .i64 x213000_1) := (blk_cell BK212.out 0).trans rfl
              have hcz41_1 : wr.cell? ⟨gb212, 1, none⟩ = some (.int .i64 x213001_1) := (blk_cell BK212.out 1).trans rfl
              have hcz41_2 : wr.cell? ⟨gb212, 2, none⟩ = some (.int .i64 x213002_1) := (blk_cell BK212.out 2).trans rfl
              have hcz41_3 : wr.cell? ⟨gb212, 3, none⟩ = some (.int .i64 x213003_1) := (blk_cell BK212.out 3).trans rfl
              have hcz41_4 : wr.cell? ⟨gb212, 4, none⟩ = some (.int .i64 x213004_1) := (blk_cell BK212.out 4).trans rfl
              have hcz41_5 : wr.cell? ⟨gb212, 5, none⟩ = some (.int .i64 x213005_1) := (blk_cell BK212.out 5).trans rfl
              have hcz41_6 : wr.cell? ⟨gb212, 6, none⟩ = some (.int .i64 x213006_1) := (blk_cell BK212.out 6).trans rfl
              have hcz41_7 : wr.cell? ⟨gb212, 7, none⟩ = some (.int .i64 x213007_1) := (blk_cell BK212.out 7).trans rfl
              have hcz41_8 : wr.cell? ⟨gb212, 8, none⟩ = some (.int .i64 x213008_1) := (blk_cell BK212.out 8).trans rfl
              have hcz41_9 : wr.cell? ⟨gb212, 9, none⟩ = some (.int .i64 x213009_1) := (blk_cell BK212.out 9).trans rfl
              have hcz41_10 : wr.cell? ⟨gb212, 10, none⟩ = some (.int .i64 x213010_1) := (blk_cell BK212.out 10).trans rfl
              have hfz41_0 := blk_frozen BK212.out 0
              have hfz41_1 := blk_frozen BK212.out 1
              have hfz41_2 := blk_frozen BK212.out 2
              have hfz41_3 := blk_frozen BK212.out 3
              have hfz41_4 := blk_frozen BK212.out 4
              have hfz41_5 := blk_frozen BK212.out 5
              have hfz41_6 := blk_frozen BK212.out 6
              have hfz41_7 := blk_frozen BK212.out 7
              have hfz41_8 := blk_frozen BK212.out 8
              have hfz41_9 := blk_frozen BK212.out 9
              have hfz41_10 := blk_frozen BK212.out 10
              go_wp2_with (first | ((with_reducible refine gate_callee (f := 9) rfl ?_); refine goesL_ (some 45) rfl rfl Try.func9 (by kernel_rfl) rfl #[.agg #[.int .i64 x213000_1, .int .i64 x213001_1, .int .i64 x213002_1, .int .i64 x213003_1, .int .i64 x213004_1, .int .i64 x213005_1, .int .i64 x213006_1, .int .i64 x213007_1, .int .i64 x213008_1, .int .i64 x213009_1, .int .i64 x213010_1]] rfl (by (try simp only [List.map_toArray, List.map_cons, List.map_nil]); first | done | rfl | (simp only [List.length_drop, List.length_take]; rfl)) ?_; (with_reducible refine (saga_Ready.calls x213000_1 x213001_1 x213002_1 x213003_1 x213004_1 x213005_1 x213006_1 x213007_1 x213008_1 x213009_1 x213010_1 true _ A29.out).mono ?_); rintro e w42 ⟨rfl, hb⟩; refine ⟨_, rfl, ?_⟩; have n0_ := Aside0.mk (blk_below (g := gb212) (o := .cells #[.int .i64 x213000_1, .int .i64 x213001_1, .int .i64 x213002_1, .int .i64 x213003_1, .int .i64 x213004_1, .int .i64 x213005_1, .int .i64 x213006_1, .int .i64 x213007_1, .int .i64 x213008_1, .int .i64 x213009_1, .int .i64 x213010_1] 30 (0, 0)) (by (with_reducible repeat (first | refine blk_drewN ?_ _ | refine blk_drew ?_ | refine blk_alloc ?_ _)); exact BK212.out) hb); have n1_ := Aside0.mk (below_step (by repeat (first | (with_reducible first | exact HB.out | apply below_alloc | apply pw_below_drewN | apply below_drew1 | refine below_set ?_ GE212.out) | exact HB.out)) hb); clear BK212; clear HB; have BK212 := n0_; have HB := n1_; clear n0_ n1_; (try clear hb); (try clear hb2); (try clear hk); (try clear hi); have hcz43_0 : w42.cell? ⟨gb212, 0, none⟩ = some (.int .i64 x213000_1) := (blk_cell BK212.out 0).trans rfl; have hcz43_1 : w42.cell? ⟨gb212, 1, none⟩ = some (.int .i64 x213001_1) := (blk_cell BK212.out 1).trans rfl; have hcz43_2 : w42.cell? ⟨gb212, 2, none⟩ = some (.int .i64 x213002_1) := (blk_cell BK212.out 2).trans rfl; have hcz43_3 : w42.cell? ⟨gb212, 3, none⟩ = some (.int .i64 x213003_1) := (blk_cell BK212.out 3).trans rfl; have hcz43_4 : w42.cell? ⟨gb212, 4, none⟩ = some (.int .i64 x213004_1) := (blk_cell BK212.out 4).trans rfl; have hcz43_5 : w42.cell? ⟨gb212, 5, none⟩ = some (.int .i64 x213005_1) := (blk_cell BK212.out 5).trans rfl; have hcz43_6 : w42.cell? ⟨gb212, 6, none⟩ = some (.int .i64 x213006_1) := (blk_cell BK212.out 6).trans rfl; have hcz43_7 : w42.cell? ⟨gb212, 7, none⟩ = some (.int .i64 x213007_1) := (blk_cell BK212.out 7).trans rfl; have hcz43_8 : w42.cell? ⟨gb212, 8, none⟩ = some (.int .i64 x213008_1) := (blk_cell BK212.out 8).trans rfl; have hcz43_9 : w42.cell? ⟨gb212, 9, none⟩ = some (.int .i64 x213009_1) := (blk_cell BK212.out 9).trans rfl; have hcz43_10 : w42.cell? ⟨gb212, 10, none⟩ = some (.int .i64 x213010_1) := (blk_cell BK212.out 10).trans rfl; have hfz43_0 := blk_frozen BK212.out 0; have hfz43_1 := blk_frozen BK212.out 1; have hfz43_2 := blk_frozen BK212.out 2; have hfz43_3 := blk_frozen BK212.out 3; have hfz43_4 := blk_frozen BK212.out 4; have hfz43_5 := blk_frozen BK212.out 5; have hfz43_6 := blk_frozen BK212.out 6; have hfz43_7 := blk_frozen BK212.out 7; have hfz43_8 := blk_frozen BK212.out 8; have hfz43_9 := blk_frozen BK212.out 9; have hfz43_10 := blk_frozen BK212.out 10))
              go_ret
              exact ⟨by first | rfl | (simp [errW_none, errW_some] <;> rfl) | (simp [*, errW_none, errW_some] <;> rfl), by repeat (first | (with_reducible first | exact HB.out | apply below_alloc | apply pw_below_drewN | apply below_drew1 | refine below_set ?_ GE212.out) | exact HB.out)⟩
          · replace c30 := Bool.eq_false_iff.mpr c30
            subst c30
            have H1 : (some false) = some r := by rw [if_neg (show ¬ (false = true) by decide)] at H; exact H
            clear H
            have H := H1
            clear H1
            obtain rfl := Option.some.inj H
            have hcz44_0 : wr.cell? ⟨gb212, 0, none⟩ = some (.int .i64 x213000_1) := (blk_cell BK212.out 0).trans rfl
            have hcz44_1 : wr.cell? ⟨gb212, 1, none⟩ = some (.int .i64 x213001_1) := (blk_cell BK212.out 1).trans rfl
            have hcz44_2 : wr.cell? ⟨gb212, 2, none⟩ = some (.int .i64 x213002_1) := (blk_cell BK212.out 2).trans rfl
            have hcz44_3 : wr.cell? ⟨gb212, 3, none⟩ = some (.int .i64 x213003_1) := (blk_cell BK212.out 3).trans rfl
            have hcz44_4 : wr.cell? ⟨gb212, 4, none⟩ = some (.int .i64 x213004_1) := (blk_cell BK212.out 4).trans rfl
            have hcz44_5 : wr.cell? ⟨gb212, 5, none⟩ = some (.int .i64 x213005_1) := (blk_cell BK212.out 5).trans rfl
            have hcz44_6 : wr.cell? ⟨gb212, 6, none⟩ = some (.int .i64 x213006_1) := (blk_cell BK212.out 6).trans rfl
            have hcz44_7 : wr.cell? ⟨gb212, 7, none⟩ = some (.int .i64 x213007_1) := (blk_cell BK212.out 7).trans rfl
            have hcz44_8 : wr.cell? ⟨gb212, 8, none⟩ = some (.int .i64 x213008_1) := (blk_cell BK212.out 8).trans rfl
            have hcz44_9 : wr.cell? ⟨gb212, 9, none⟩ = some (.int .i64 x213009_1) := (blk_cell BK212.out 9).trans rfl
            have hcz44_10 : wr.cell? ⟨gb212, 10, none⟩ = some (.int .i64 x213010_1) := (blk_cell BK212.out 10).trans rfl
            have hfz44_0 := blk_frozen BK212.out 0
            have hfz44_1 := blk_frozen BK212.out 1
            have hfz44_2 := blk_frozen BK212.out 2
            have hfz44_3 := blk_frozen BK212.out 3
            have hfz44_4 := blk_frozen BK212.out 4
            have hfz44_5 := blk_frozen BK212.out 5
            have hfz44_6 := blk_frozen BK212.out 6
            have hfz44_7 := blk_frozen BK212.out 7
            have hfz44_8 := blk_frozen BK212.out 8
            have hfz44_9 := blk_frozen BK212.out 9
            have hfz44_10 := blk_frozen BK212.out 10
            go_wp2_with (first | ((with_reducible refine gate_callee (f := 9) rfl ?_); refine goesL_ (some 45) rfl rfl Try.func9 (by kernel_rfl) rfl #[.agg #[.int .i64 x213000_1, .int .i64 x213001_1, .int .i64 x213002_1, .int .i64 x213003_1, .int .i64 x213004_1, .int .i64 x213005_1, .int .i64 x213006_1, .int .i64 x213007_1, .int .i64 x213008_1, .int .i64 x213009_1, .int .i64 x213010_1]] rfl (by (try simp only [List.map_toArray, List.map_cons, List.map_nil]); first | done | rfl | (simp only [List.length_drop, List.length_take]; rfl)) ?_; (with_reducible refine (saga_Ready.calls x213000_1 x213001_1 x213002_1 x213003_1 x213004_1 x213005_1 x213006_1 x213007_1 x213008_1 x213009_1 x213010_1 false _ A29.out).mono ?_); rintro e w45 ⟨rfl, hb⟩; refine ⟨_, rfl, ?_⟩; have n0_ := Aside0.mk (blk_below (g := gb212) (o := .cells #[.int .i64 x213000_1, .int .i64 x213001_1, .int .i64 x213002_1, .int .i64 x213003_1, .int .i64 x213004_1, .int .i64 x213005_1, .int .i64 x213006_1, .int .i64 x213007_1, .int .i64 x213008_1, .int .i64 x213009_1, .int .i64 x213010_1] 30 (0, 0)) (by (with_reducible repeat (first | refine blk_drewN ?_ _ | refine blk_drew ?_ | refine blk_alloc ?_ _)); exact BK212.out) hb); have n1_ := Aside0.mk (below_step (by repeat (first | (with_reducible first | exact HB.out | apply below_alloc | apply pw_below_drewN | apply below_drew1 | refine below_set ?_ GE212.out) | exact HB.out)) hb); clear BK212; clear HB; have BK212 := n0_; have HB := n1_; clear n0_ n1_; (try clear hb); (try clear hb2); (try clear hk); (try clear hi)))
            go_ret
            exact ⟨by first | rfl | (simp [errW_none, errW_some] <;> rfl) | (simp [*, errW_none, errW_some] <;> rfl), by repeat (first | (with_reducible first | exact HB.out | apply below_alloc | apply pw_below_drewN | apply below_drew1 | refine below_set ?_ GE212.out) | exact HB.out)⟩
  · replace c4 := Bool.eq_false_iff.mpr c4
    subst c4
    have H1 : (some false) = some r := by rw [if_neg (show ¬ (false = true) by decide)] at H; exact H
    clear H
    have H := H1
    clear H1
    obtain rfl := Option.some.inj H
    go_enter Try.func4, Try.ntmps4
    go_wp2_with (first | ((with_reducible refine gate_callee (f := 7) rfl ?_); refine goesL_ (some 9) rfl rfl Try.func7 (by kernel_rfl) rfl #[] rfl (by (try simp only [List.map_toArray, List.map_cons, List.map_nil]); first | done | rfl | (simp only [List.length_drop, List.length_take]; rfl)) ?_; (with_reducible refine (hawalalaw14_awake.calls k  false _ A3.out).mono ?_); rintro e w46 ⟨rfl, hb⟩; refine ⟨_, rfl, ?_⟩; have n0_ := Aside0.mk (below_step (by repeat (first | (with_reducible first | exact HB.out | apply below_alloc | apply pw_below_drewN | apply below_drew1) | exact HB.out)) hb); clear HB; have HB := n0_; clear n0_; (try clear hb); (try clear hb2); (try clear hk); (try clear hi)))
    go_ret
    exact ⟨by first | rfl | (simp [errW_none, errW_some] <;> rfl) | (simp [*, errW_none, errW_some] <;> rfl), by repeat (first | (with_reducible first | exact HB.out | apply below_alloc | apply pw_below_drewN | apply below_drew1) | exact HB.out)⟩

/-- THE ONE PURE STATEMENT of hawalalaw14_SagaYes: yours. -/
def hawalalaw14_SagaYes.Pure : Prop := ∀ (a0 : Int) (l1 : List Int), (Lit.int .u8 a0).wf = true → (l1.length ≤ maxLen ∧ l1.length * 1 ≤ 140737488351232 ∧ ∀ x_ ∈ l1, (Lit.int .u8 x_).wf = true) → ∃ k, hawalalaw14_SagaYes.f k a0 l1 = some true

end Go.Proofs.Ytinjmjgfhpojfaa.PAll
