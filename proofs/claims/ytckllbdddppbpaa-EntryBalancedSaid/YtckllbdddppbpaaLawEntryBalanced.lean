/- Proved: the given statement EntryBalanced, out of its pure law and the engine's soundness. Conditions: the statement's own, no more. -/
import Derived.Test.YtckllbdddppbpaaRows
import Derived.Test.YtckllbdddppbpaaPEnb
import Derived.WalkKit
import Derived.ProofKit
import Derived.OpenShut
import Derived.ShutString
import Derived.ChangeOld
import Derived.Below
import Derived.SizedLaws
import Derived.Lib.SmallJoins
namespace Go.Proofs.Ytckllbdddppbpaa.entryBalanced
open Go.ChangeShapes Go.WideShapes Go.ChangeAt Go.RowKit Go.Joins Go.Eng
open Go.ChangeMaps (open_string shut_string)
theorem own : ownKnob Try.prog.godebug = none := by kernel_rfl
theorem laidOut : laidOutB Try.prog = true := by kernel_rfl
set_option maxRecDepth 100000 in
theorem lifted (os : Os) (started : os.Started) (H : Type) (enc : TypeId × Value → H) :
    ReturnsInHanded {} Try.checked os 3 .any (Rows.entryBalancedSpec.pre6 enc Try.prog Try.f3 Rows.entryBalancedRow.domain false) (Rows.entryBalancedSpec.post enc Try.prog Try.f3 false true false false) := by
  refine returnsInHanded_of_change_sized (C := Try.checked) own started (by kernel_rfl) Try.func3
    (ChangeSpec.witness6 (enc := enc) (C := Try.checked) false ⟨#[], #[.agg #[.slice none 0 0, .slice none 0 0, .slice none 0 0], .slice none 0 0, .int .u8 0, .int .i8 0, .slice none 0 0], []⟩ 8 (by kernel_rfl) (by kernel_rfl) (by kernel_rfl) (by kernel_rfl)) ?_
  intro W base args ds gs before hval0 hW hcnd hsz0 _
  have hsz : (DataW.weightsEach Try.prog (Try.f3.params.toList ++ Rows.entryBalancedSpec.plain.varTypes Try.prog) (ds ++ gs)).all (· ≤ reachBytes) = true := hsz0
  have hval : ∀ (j : Nat) t v, Try.f3.params[j]? = some t → args[j]? = some v → Value.okWide Try.prog W .any base t v := hval0
  have hW' := hW
  obtain ⟨p, q, hA0, hV, rfl, hfz, hnd⟩ := hW
  have hA : DataW.TrodAll enc Try.prog W 0 (fun _ => true) true Try.f3.params.toList args.toList ds p := hA0
  rw [Try.params3] at hA hval hsz
  obtain ⟨v0, vs0, d0, ds0, p0, q0, hargs, rfl, rfl, h0, r0⟩ := trodAll_cons hA
  obtain ⟨v1, vs1, d1, ds1, p1, q1, rfl, rfl, rfl, h1, r1⟩ := trodAll_cons r0
  obtain ⟨v2, vs2, d2, ds2, p2, q2, rfl, rfl, rfl, h2, r2⟩ := trodAll_cons r1
  obtain ⟨v3, vs3, d3, ds3, p3, q3, rfl, rfl, rfl, h3, r3⟩ := trodAll_cons r2
  obtain ⟨v4, vs4, d4, ds4, p4, q4, rfl, rfl, rfl, h4, r4⟩ := trodAll_cons r3
  obtain ⟨rfl, rfl, rfl⟩ := trodAll_nil r4
  obtain rfl : args = #[v0, v1, v2, v3, v4] := by cases args; simp_all
  obtain ⟨rfl, rfl⟩ := trodVars_none hV
  obtain ⟨cs0, rfl, _⟩ := okWide_struct Try.underlying25 (hval 0 25 v0 rfl rfl)
  have k0 := h0
  have lt0 : ∀ x ∈ p0, x.block < W.heap.size := by obtain ⟨m, hm⟩ := k0; exact DataW.trod_lt m _ _ _ hm
  obtain ⟨y0, hy0, ok0⟩ : ∃ y_ : ((.strct (.prod (.slice (.int .u8)) (.prod (.slice (.int .u32)) (.slice (.int .u8))))) : K).T, RepT Go.Eng.Enb.A.te W (allB W) ((.strct (.prod (.slice (.int .u8)) (.prod (.slice (.int .u32)) (.slice (.int .u8))))) : K) y_ (Value.cells (.agg cs0)).toList ∧ ((((y_).1 : List ((.int .u8) : K).T).length * 1 ≤ 140737488351232 ∧ ∀ x_ ∈ ((y_).1 : List ((.int .u8) : K).T), (Lit.int .u8 x_).wf = true) ∧ (((y_).2.1 : List ((.int .u32) : K).T).length * 4 ≤ 140737488351232 ∧ ∀ x_ ∈ ((y_).2.1 : List ((.int .u32) : K).T), (Lit.int .u32 x_).wf = true) ∧ (((y_).2.2 : List ((.int .u8) : K).T).length * 1 ≤ 140737488351232 ∧ ∀ x_ ∈ ((y_).2.2 : List ((.int .u8) : K).T), (Lit.int .u8 x_).wf = true)) := by
    obtain ⟨fuel, hf⟩ := h0
    exact (opnT_struct Try.underlying25 rfl (by kernel_rfl) (flT_cons rfl (by kernel_rfl) (opnT_slice (b := 1) Try.underlying22 (opnT_int Try.underlying5) (by kernel_rfl) (by decide) (by kernel_rfl)) (flT_cons rfl (by kernel_rfl) (opnT_slice (b := 4) Try.underlying23 (opnT_int Try.underlying51) (by kernel_rfl) (by decide) (by kernel_rfl)) (flT_one rfl (by kernel_rfl) (opnT_slice (b := 1) Try.underlying22 (opnT_int Try.underlying5) (by kernel_rfl) (by decide) (by kernel_rfl)))))) H enc fuel _ _ hf (fun n_ hn_ => by simpa using List.all_eq_true.1 hsz n_ (DataW.weights_mem_each (j := 0) (t := 25) rfl rfl n_ hn_))
  obtain ⟨a1, len1, cap1, rfl⟩ := okWide_slice Try.underlying26 (hval 1 26 v1 rfl rfl)
  have k1 := h1
  have lt1 : ∀ x ∈ p1, x.block < W.heap.size := by obtain ⟨m, hm⟩ := k1; exact DataW.trod_lt m _ _ _ hm
  obtain ⟨y1, hy1, ok1⟩ : ∃ y_ : ((.slice (.strct (.prod (.int .u8) (.int .i32)))) : K).T, RepT Go.Eng.Enb.A.te W (allB W) ((.slice (.strct (.prod (.int .u8) (.int .i32)))) : K) y_ (Value.cells (.slice a1 len1 cap1)).toList ∧ ((y_ : List ((.strct (.prod (.int .u8) (.int .i32))) : K).T).length * 8 ≤ 140737488351232 ∧ ∀ x_ ∈ (y_ : List ((.strct (.prod (.int .u8) (.int .i32))) : K).T), ((Lit.int .u8 (x_).1).wf = true) ∧ ((Lit.int .i32 (x_).2).wf = true)) := by
    obtain ⟨fuel, hf⟩ := h1
    exact (opnT_slice (b := 8) Try.underlying26 (opnT_struct Try.underlying54 rfl (by kernel_rfl) (flT_cons rfl (by kernel_rfl) (opnT_int Try.underlying5) (flT_one rfl (by kernel_rfl) (opnT_int Try.underlying21)))) (by kernel_rfl) (by decide) (by kernel_rfl)) H enc fuel _ _ hf (fun n_ hn_ => by simpa using List.all_eq_true.1 hsz n_ (DataW.weights_mem_each (j := 1) (t := 26) rfl rfl n_ hn_))
  obtain ⟨y2, rfl, rfl, rfl, ok2⟩ := open_int Try.underlying5 (hval 2 5 v2 rfl rfl) h2
  obtain ⟨y3, rfl, rfl, rfl, ok3⟩ := open_int Try.underlying27 (hval 3 27 v3 rfl rfl) h3
  obtain ⟨a4, len4, cap4, rfl⟩ := okWide_slice Try.underlying28 (hval 4 28 v4 rfl rfl)
  have k4 := h4
  have lt4 : ∀ x ∈ p4, x.block < W.heap.size := by obtain ⟨m, hm⟩ := k4; exact DataW.trod_lt m _ _ _ hm
  obtain ⟨y4, hy4, ok4⟩ : ∃ y_ : ((.slice (.strct (.prod (.int .i64) (.int .i64)))) : K).T, RepT Go.Eng.Enb.A.te W (allB W) ((.slice (.strct (.prod (.int .i64) (.int .i64)))) : K) y_ (Value.cells (.slice a4 len4 cap4)).toList ∧ ((y_ : List ((.strct (.prod (.int .i64) (.int .i64))) : K).T).length * 16 ≤ 140737488351232 ∧ ∀ x_ ∈ (y_ : List ((.strct (.prod (.int .i64) (.int .i64))) : K).T), ((Lit.int .i64 (x_).1).wf = true) ∧ ((Lit.int .i64 (x_).2).wf = true)) := by
    obtain ⟨fuel, hf⟩ := h4
    exact (opnT_slice (b := 16) Try.underlying28 (opnT_struct Try.underlying35 rfl (by kernel_rfl) (flT_cons rfl (by kernel_rfl) (opnT_int Try.underlying3) (flT_one rfl (by kernel_rfl) (opnT_int Try.underlying3)))) (by kernel_rfl) (by decide) (by kernel_rfl)) H enc fuel _ _ hf (fun n_ hn_ => by simpa using List.all_eq_true.1 hsz n_ (DataW.weights_mem_each (j := 4) (t := 28) rfl rfl n_ hn_))
  clear hA0 hval0 hsz0 hsz
  obtain ⟨fuel_, hE_⟩ := Go.Eng.Enb.EntryBalanced y0 y1 y2 y3 y4 (Go.Eng.Enb.okBook_of y0 ok0) (Go.Eng.Enb.okPs_of y1 ok1) (wf_u8 ok2) (wf_i8 ok3) (Go.Eng.Enb.okE_of y4 ok4)
  have h : Go.Eng.Enb.CF fuel_ ⟨[(false, .bool)], []⟩ 3 [inj ((.strct (.prod (.slice (.int .u8)) (.prod (.slice (.int .u32)) (.slice (.int .u8))))) : K) y0, inj ((.slice (.strct (.prod (.int .u8) (.int .i32)))) : K) y1, inj ((.int .u8) : K) y2, inj ((.int .i8) : K) y3, inj ((.slice (.strct (.prod (.int .i64) (.int .i64)))) : K) y4] = some true := hE_ fuel_ (Nat.le_refl _)
  have hX : SoundX Try.prog Go.Eng.Enb.A.te (fun _ => none) (fun _ _ _ => none) := fun sg f args rr hr => by cases hr
  have hpl : ∀ z_ ∈ [inj ((.strct (.prod (.slice (.int .u8)) (.prod (.slice (.int .u32)) (.slice (.int .u8))))) : K) y0, inj ((.slice (.strct (.prod (.int .u8) (.int .i32)))) : K) y1, inj ((.int .u8) : K) y2, inj ((.int .i8) : K) y3, inj ((.slice (.strct (.prod (.int .i64) (.int .i64)))) : K) y4], (∀ k_ xs_, z_ = AV.val false [.mv k_ xs_] → False) ∧ (∀ k_ x_, z_ = AV.val false [.io k_ x_] → False) := by
    intro z_ ha
    simp only [List.mem_cons, List.not_mem_nil, or_false] at ha
    rcases ha with rfl | rfl | rfl | rfl | rfl
    · exact plain_inj _ _
    · exact plain_inj _ _
    · exact plain_inj _ _
    · exact plain_inj _ _
    · exact plain_inj _ _
  refine (law_calls (w := W) (vs := #[_, _, _, _, _]) (callF_ok (A := Go.Eng.Enb.A) hX (by kernel_rfl) fuel_) h hpl (fun b o hb => by cases hb) ⟨repV_arg hy0 (fun _ => ⟨_, rfl⟩) (fun h => by cases h), ⟨repV_arg hy1 (fun h => by cases h) (fun _ => rfl), ⟨repV_one ⟨rfl, okI_wf ok2⟩, ⟨repV_one ⟨rfl, okI_wf ok3⟩, ⟨repV_arg hy4 (fun h => by cases h) (fun _ => rfl), trivial⟩⟩⟩⟩⟩).mono ?_
  rintro e W' ⟨he, bel⟩
  subst he
  exact ⟨_, rfl, _, _, _, [], _, [], hW', trodAll_mk1 (shut_bool Try.underlying4 _), (trodAll_cons_mk (Below.trod laidOut (by kernel_rfl) (of_decide_eq_true (by kernel_rfl)) k0 bel lt0) (trodAll_cons_mk (Below.trod laidOut (by kernel_rfl) (of_decide_eq_true (by kernel_rfl)) k1 bel lt1) (trodAll_cons_mk (shut_int Try.underlying5 ok2) (trodAll_cons_mk (shut_int Try.underlying27 ok3) (trodAll_cons_mk (Below.trod laidOut (by kernel_rfl) (of_decide_eq_true (by kernel_rfl)) k4 bel lt4) trodAll_mk0))))), rfl, bel.frame _, fun h => by cases h⟩
theorem over : Rows.entryBalancedRow.holds Try.pinned (OpenSpec.ofChange Rows.entryBalancedSpec) :=
  OpenClaim.holds_of_wide 3 Try.f3 rfl rfl rfl rfl rfl rfl rfl ⟨rfl, rfl, rfl, rfl, rfl⟩ rfl rfl rfl rfl rfl (by kernel_rfl) Try.func3 (by kernel_rfl)
    (of_decide_eq_true (by kernel_rfl)) (by unfold Func.isWrapper; first | (rw [if_pos (by decide +kernel)]; kernel_rfl) | (rw [if_neg (by decide +kernel)]; exact ⟨rfl, rfl⟩))
    (fun os started H enc _ => lifted os started H enc)
theorem proved : Rows.EntryBalancedSaid := over
#print axioms proved
end Go.Proofs.Ytckllbdddppbpaa.entryBalanced
namespace Go.Proofs.Ytckllbdddppbpaa
/-- Under a short name, for the claim. -/
theorem entryBalanced_holds : Rows.EntryBalancedSaid := entryBalanced.proved
end Go.Proofs.Ytckllbdddppbpaa
