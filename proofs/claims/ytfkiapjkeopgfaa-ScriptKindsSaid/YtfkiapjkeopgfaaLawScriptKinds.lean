/- Proved: the given statement ScriptKinds, out of its pure law and the engine's soundness. Conditions: the statement's own, no more. -/
import Derived.Test.YtfkiapjkeopgfaaRows
import Derived.Test.YtfkiapjkeopgfaaPScr
import Derived.WalkKit
import Derived.ProofKit
import Derived.OpenShut
import Derived.ShutString
import Derived.ChangeOld
import Derived.Below
import Derived.SizedLaws
import Derived.Lib.SmallJoins
namespace Go.Proofs.Ytfkiapjkeopgfaa.scriptKinds
open Go.ChangeShapes Go.WideShapes Go.ChangeAt Go.RowKit Go.Joins Go.Eng
open Go.ChangeMaps (open_string shut_string)
theorem own : ownKnob Try.prog.godebug = none := by kernel_rfl
theorem laidOut : laidOutB Try.prog = true := by kernel_rfl
set_option maxRecDepth 100000 in
theorem lifted (os : Os) (started : os.Started) (H : Type) (enc : TypeId × Value → H) :
    ReturnsInHanded {} Try.checked os 5 .any (Rows.scriptKindsSpec.pre6 enc Try.prog Try.f5 Rows.scriptKindsRow.domain false) (Rows.scriptKindsSpec.post enc Try.prog Try.f5 false true false false) := by
  refine returnsInHanded_of_change_sized (C := Try.checked) own started (by kernel_rfl) Try.func5
    (ChangeSpec.witness6 (enc := enc) (C := Try.checked) false ⟨#[], #[.int .u8 0, .int .u8 0], []⟩ 8 (by kernel_rfl) (by kernel_rfl) (by kernel_rfl) (by kernel_rfl)) ?_
  intro W base args ds gs before hval0 hW hcnd hsz0 _
  have hsz : (DataW.weightsEach Try.prog (Try.f5.params.toList ++ Rows.scriptKindsSpec.plain.varTypes Try.prog) (ds ++ gs)).all (· ≤ reachBytes) = true := hsz0
  have hval : ∀ (j : Nat) t v, Try.f5.params[j]? = some t → args[j]? = some v → Value.okWide Try.prog W .any base t v := hval0
  have hW' := hW
  obtain ⟨p, q, hA0, hV, rfl, hfz, hnd⟩ := hW
  have hA : DataW.TrodAll enc Try.prog W 0 (fun _ => true) true Try.f5.params.toList args.toList ds p := hA0
  rw [Try.params5] at hA hval hsz
  obtain ⟨v0, vs0, d0, ds0, p0, q0, hargs, rfl, rfl, h0, r0⟩ := trodAll_cons hA
  obtain ⟨v1, vs1, d1, ds1, p1, q1, rfl, rfl, rfl, h1, r1⟩ := trodAll_cons r0
  obtain ⟨rfl, rfl, rfl⟩ := trodAll_nil r1
  obtain rfl : args = #[v0, v1] := by cases args; simp_all
  obtain ⟨rfl, rfl⟩ := trodVars_none hV
  obtain ⟨y0, rfl, rfl, rfl, ok0⟩ := open_int Try.underlying5 (hval 0 5 v0 rfl rfl) h0
  obtain ⟨y1, rfl, rfl, rfl, ok1⟩ := open_int Try.underlying5 (hval 1 5 v1 rfl rfl) h1
  clear hA0 hval0 hsz0 hsz
  obtain ⟨fuel_, hE_⟩ := Go.Eng.Scr.ScriptKinds y0 y1 (wf_u8 ok0) (wf_u8 ok1)
  have h : Go.Eng.Scr.CF fuel_ ⟨[(false, .bool)], []⟩ 5 [inj ((.int .u8) : K) y0, inj ((.int .u8) : K) y1] = some true := hE_ fuel_ (Nat.le_refl _)
  have hX : SoundX Try.prog Go.Eng.Scr.A.te (fun _ => none) (fun _ _ _ => none) := fun sg f args rr hr => by cases hr
  have hpl : ∀ z_ ∈ [inj ((.int .u8) : K) y0, inj ((.int .u8) : K) y1], (∀ k_ xs_, z_ = AV.val false [.mv k_ xs_] → False) ∧ (∀ k_ x_, z_ = AV.val false [.io k_ x_] → False) := by
    intro z_ ha
    simp only [List.mem_cons, List.not_mem_nil, or_false] at ha
    rcases ha with rfl | rfl
    · exact plain_inj _ _
    · exact plain_inj _ _
  refine (law_calls (w := W) (vs := #[_, _]) (callF_ok (A := Go.Eng.Scr.A) hX (by kernel_rfl) fuel_) h hpl (fun b o hb => by cases hb) ⟨repV_one ⟨rfl, okI_wf ok0⟩, ⟨repV_one ⟨rfl, okI_wf ok1⟩, trivial⟩⟩).mono ?_
  rintro e W' ⟨he, bel⟩
  subst he
  exact ⟨_, rfl, _, _, _, [], _, [], hW', trodAll_mk1 (shut_bool Try.underlying4 _), (trodAll_cons_mk (shut_int Try.underlying5 ok0) (trodAll_cons_mk (shut_int Try.underlying5 ok1) trodAll_mk0)), rfl, bel.frame _, fun h => by cases h⟩
theorem over : Rows.scriptKindsRow.holds Try.pinned (OpenSpec.ofChange Rows.scriptKindsSpec) :=
  OpenClaim.holds_of_wide 5 Try.f5 rfl rfl rfl rfl rfl rfl rfl ⟨rfl, rfl, rfl, rfl, rfl⟩ rfl rfl rfl rfl rfl (by kernel_rfl) Try.func5 (by kernel_rfl)
    (of_decide_eq_true (by kernel_rfl)) (by unfold Func.isWrapper; first | (rw [if_pos (by decide +kernel)]; kernel_rfl) | (rw [if_neg (by decide +kernel)]; exact ⟨rfl, rfl⟩))
    (fun os started H enc _ => lifted os started H enc)
theorem proved : Rows.ScriptKindsSaid := over
#print axioms proved
end Go.Proofs.Ytfkiapjkeopgfaa.scriptKinds
namespace Go.Proofs.Ytfkiapjkeopgfaa
/-- Under a short name, for the claim. -/
theorem scriptKinds_holds : Rows.ScriptKindsSaid := scriptKinds.proved
end Go.Proofs.Ytfkiapjkeopgfaa
