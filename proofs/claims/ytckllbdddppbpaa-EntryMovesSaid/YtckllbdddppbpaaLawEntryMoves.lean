/- Proved: the given statement EntryMoves, out of its pure law and the engine's soundness. Conditions: the statement's own, no more. -/
import Derived.Test.YtckllbdddppbpaaRows
import Derived.Test.YtckllbdddppbpaaPEnb
import Derived.WalkKit
import Derived.ProofKit
import Derived.OpenShut
import Derived.ShutString
import Derived.ChangeOld
import Derived.Below
import Derived.SizedLaws
import Derived.Lib.SmallJoins
namespace Go.Proofs.Ytckllbdddppbpaa.entryMoves
open Go.ChangeShapes Go.WideShapes Go.ChangeAt Go.RowKit Go.Joins Go.Eng
open Go.ChangeMaps (open_string shut_string)
theorem own : ownKnob Try.prog.godebug = none := by kernel_rfl
theorem laidOut : laidOutB Try.prog = true := by kernel_rfl
set_option maxRecDepth 100000 in
theorem lifted (os : Os) (started : os.Started) (H : Type) (enc : TypeId × Value → H) :
    ReturnsInHanded {} Try.checked os 4 .any (Rows.entryMovesSpec.pre6 enc Try.prog Try.f4 Rows.entryMovesRow.domain false) (Rows.entryMovesSpec.post enc Try.prog Try.f4 false true false false) := by
  refine returnsInHanded_of_change_sized (C := Try.checked) own started (by kernel_rfl) Try.func4
    (ChangeSpec.witness6 (enc := enc) (C := Try.checked) false ⟨#[], #[.agg #[.slice none 0 0, .slice none 0 0, .slice none 0 0], .int .u8 0, .int .u8 0, .int .u16 0], []⟩ 8 (by kernel_rfl) (by kernel_rfl) (by kernel_rfl) (by kernel_rfl)) ?_
  intro W base args ds gs before hval0 hW hcnd hsz0 _
  have hsz : (DataW.weightsEach Try.prog (Try.f4.params.toList ++ Rows.entryMovesSpec.plain.varTypes Try.prog) (ds ++ gs)).all (· ≤ reachBytes) = true := hsz0
  have hval : ∀ (j : Nat) t v, Try.f4.params[j]? = some t → args[j]? = some v → Value.okWide Try.prog W .any base t v := hval0
  have hW' := hW
  obtain ⟨p, q, hA0, hV, rfl, hfz, hnd⟩ := hW
  have hA : DataW.TrodAll enc Try.prog W 0 (fun _ => true) true Try.f4.params.toList args.toList ds p := hA0
  rw [Try.params4] at hA hval hsz
  obtain ⟨v0, vs0, d0, ds0, p0, q0, hargs, rfl, rfl, h0, r0⟩ := trodAll_cons hA
  obtain ⟨v1, vs1, d1, ds1, p1, q1, rfl, rfl, rfl, h1, r1⟩ := trodAll_cons r0
  obtain ⟨v2, vs2, d2, ds2, p2, q2, rfl, rfl, rfl, h2, r2⟩ := trodAll_cons r1
  obtain ⟨v3, vs3, d3, ds3, p3, q3, rfl, rfl, rfl, h3, r3⟩ := trodAll_cons r2
  obtain ⟨rfl, rfl, rfl⟩ := trodAll_nil r3
  obtain rfl : args = #[v0, v1, v2, v3] := by cases args; simp_all
  obtain ⟨rfl, rfl⟩ := trodVars_none hV
  obtain ⟨cs0, rfl, _⟩ := okWide_struct Try.underlying25 (hval 0 25 v0 rfl rfl)
  have k0 := h0
  have lt0 : ∀ x ∈ p0, x.block < W.heap.size := by obtain ⟨m, hm⟩ := k0; exact DataW.trod_lt m _ _ _ hm
  obtain ⟨y0, hy0, ok0⟩ : ∃ y_ : ((.strct (.prod (.slice (.int .u8)) (.prod (.slice (.int .u32)) (.slice (.int .u8))))) : K).T, RepT Go.Eng.Enb.A.te W (allB W) ((.strct (.prod (.slice (.int .u8)) (.prod (.slice (.int .u32)) (.slice (.int .u8))))) : K) y_ (Value.cells (.agg cs0)).toList ∧ ((((y_).1 : List ((.int .u8) : K).T).length * 1 ≤ 140737488351232 ∧ ∀ x_ ∈ ((y_).1 : List ((.int .u8) : K).T), (Lit.int .u8 x_).wf = true) ∧ (((y_).2.1 : List ((.int .u32) : K).T).length * 4 ≤ 140737488351232 ∧ ∀ x_ ∈ ((y_).2.1 : List ((.int .u32) : K).T), (Lit.int .u32 x_).wf = true) ∧ (((y_).2.2 : List ((.int .u8) : K).T).length * 1 ≤ 140737488351232 ∧ ∀ x_ ∈ ((y_).2.2 : List ((.int .u8) : K).T), (Lit.int .u8 x_).wf = true)) := by
    obtain ⟨fuel, hf⟩ := h0
    exact (opnT_struct Try.underlying25 rfl (by kernel_rfl) (flT_cons rfl (by kernel_rfl) (opnT_slice (b := 1) Try.underlying22 (opnT_int Try.underlying5) (by kernel_rfl) (by decide) (by kernel_rfl)) (flT_cons rfl (by kernel_rfl) (opnT_slice (b := 4) Try.underlying23 (opnT_int Try.underlying51) (by kernel_rfl) (by decide) (by kernel_rfl)) (flT_one rfl (by kernel_rfl) (opnT_slice (b := 1) Try.underlying22 (opnT_int Try.underlying5) (by kernel_rfl) (by decide) (by kernel_rfl)))))) H enc fuel _ _ hf (fun n_ hn_ => by simpa using List.all_eq_true.1 hsz n_ (DataW.weights_mem_each (j := 0) (t := 25) rfl rfl n_ hn_))
  obtain ⟨y1, rfl, rfl, rfl, ok1⟩ := open_int Try.underlying5 (hval 1 5 v1 rfl rfl) h1
  obtain ⟨y2, rfl, rfl, rfl, ok2⟩ := open_int Try.underlying5 (hval 2 5 v2 rfl rfl) h2
  obtain ⟨y3, rfl, rfl, rfl, ok3⟩ := open_int Try.underlying37 (hval 3 37 v3 rfl rfl) h3
  clear hA0 hval0 hsz0 hsz
  obtain ⟨fuel_, hE_⟩ := Go.Eng.Enb.EntryMoves y0 y1 y2 y3 (Go.Eng.Enb.okBook_of y0 ok0) (wf_u8 ok1) (wf_u8 ok2) (wf_u16 ok3)
  have h : Go.Eng.Enb.CF fuel_ ⟨[(false, .bool)], []⟩ 4 [inj ((.strct (.prod (.slice (.int .u8)) (.prod (.slice (.int .u32)) (.slice (.int .u8))))) : K) y0, inj ((.int .u8) : K) y1, inj ((.int .u8) : K) y2, inj ((.int .u16) : K) y3] = some true := hE_ fuel_ (Nat.le_refl _)
  have hX : SoundX Try.prog Go.Eng.Enb.A.te (fun _ => none) (fun _ _ _ => none) := fun sg f args rr hr => by cases hr
  have hpl : ∀ z_ ∈ [inj ((.strct (.prod (.slice (.int .u8)) (.prod (.slice (.int .u32)) (.slice (.int .u8))))) : K) y0, inj ((.int .u8) : K) y1, inj ((.int .u8) : K) y2, inj ((.int .u16) : K) y3], (∀ k_ xs_, z_ = AV.val false [.mv k_ xs_] → False) ∧ (∀ k_ x_, z_ = AV.val false [.io k_ x_] → False) := by
    intro z_ ha
    simp only [List.mem_cons, List.not_mem_nil, or_false] at ha
    rcases ha with rfl | rfl | rfl | rfl
    · exact plain_inj _ _
    · exact plain_inj _ _
    · exact plain_inj _ _
    · exact plain_inj _ _
  refine (law_calls (w := W) (vs := #[_, _, _, _]) (callF_ok (A := Go.Eng.Enb.A) hX (by kernel_rfl) fuel_) h hpl (fun b o hb => by cases hb) ⟨repV_arg hy0 (fun _ => ⟨_, rfl⟩) (fun h => by cases h), ⟨repV_one ⟨rfl, okI_wf ok1⟩, ⟨repV_one ⟨rfl, okI_wf ok2⟩, ⟨repV_one ⟨rfl, okI_wf ok3⟩, trivial⟩⟩⟩⟩).mono ?_
  rintro e W' ⟨he, bel⟩
  subst he
  exact ⟨_, rfl, _, _, _, [], _, [], hW', trodAll_mk1 (shut_bool Try.underlying4 _), (trodAll_cons_mk (Below.trod laidOut (by kernel_rfl) (of_decide_eq_true (by kernel_rfl)) k0 bel lt0) (trodAll_cons_mk (shut_int Try.underlying5 ok1) (trodAll_cons_mk (shut_int Try.underlying5 ok2) (trodAll_cons_mk (shut_int Try.underlying37 ok3) trodAll_mk0)))), rfl, bel.frame _, fun h => by cases h⟩
theorem over : Rows.entryMovesRow.holds Try.pinned (OpenSpec.ofChange Rows.entryMovesSpec) :=
  OpenClaim.holds_of_wide 4 Try.f4 rfl rfl rfl rfl rfl rfl rfl ⟨rfl, rfl, rfl, rfl, rfl⟩ rfl rfl rfl rfl rfl (by kernel_rfl) Try.func4 (by kernel_rfl)
    (of_decide_eq_true (by kernel_rfl)) (by unfold Func.isWrapper; first | (rw [if_pos (by decide +kernel)]; kernel_rfl) | (rw [if_neg (by decide +kernel)]; exact ⟨rfl, rfl⟩))
    (fun os started H enc _ => lifted os started H enc)
theorem proved : Rows.EntryMovesSaid := over
#print axioms proved
end Go.Proofs.Ytckllbdddppbpaa.entryMoves
namespace Go.Proofs.Ytckllbdddppbpaa
/-- Under a short name, for the claim. -/
theorem entryMoves_holds : Rows.EntryMovesSaid := entryMoves.proved
end Go.Proofs.Ytckllbdddppbpaa
