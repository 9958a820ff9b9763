/- Proved: the given statement VarintTwo, out of its pure law and the engine's soundness. Conditions: the statement's own, no more. -/
import Derived.Test.YtfbbcdkbgnmmcaaRows
import Derived.Test.YtfbbcdkbgnmmcaaPVnt
import Derived.WalkKit
import Derived.ProofKit
import Derived.OpenShut
import Derived.ShutString
import Derived.ChangeOld
import Derived.Below
import Derived.SizedLaws
import Derived.Lib.SmallJoins
namespace Go.Proofs.Ytfbbcdkbgnmmcaa.varintTwo
open Go.ChangeShapes Go.WideShapes Go.ChangeAt Go.RowKit Go.Joins Go.Eng
open Go.ChangeMaps (open_string shut_string)
theorem own : ownKnob Try.prog.godebug = none := by kernel_rfl
theorem laidOut : laidOutB Try.prog = true := by kernel_rfl
set_option maxRecDepth 100000 in
theorem lifted (os : Os) (started : os.Started) (H : Type) (enc : TypeId × Value → H) :
    ReturnsInHanded {} Try.checked os 3 .any (Rows.varintTwoSpec.pre6 enc Try.prog Try.f3 Rows.varintTwoRow.domain false) (Rows.varintTwoSpec.post enc Try.prog Try.f3 false true false false) := by
  refine returnsInHanded_of_change_sized (C := Try.checked) own started (by kernel_rfl) Try.func3
    (ChangeSpec.witness6 (enc := enc) (C := Try.checked) false ⟨#[], #[.int .i64 0, .int .i64 0], []⟩ 8 (by kernel_rfl) (by kernel_rfl) (by kernel_rfl) (by kernel_rfl)) ?_
  intro W base args ds gs before hval0 hW hcnd hsz0 _
  have hsz : (DataW.weightsEach Try.prog (Try.f3.params.toList ++ Rows.varintTwoSpec.plain.varTypes Try.prog) (ds ++ gs)).all (· ≤ reachBytes) = true := hsz0
  have hval : ∀ (j : Nat) t v, Try.f3.params[j]? = some t → args[j]? = some v → Value.okWide Try.prog W .any base t v := hval0
  have hW' := hW
  obtain ⟨p, q, hA0, hV, rfl, hfz, hnd⟩ := hW
  have hA : DataW.TrodAll enc Try.prog W 0 (fun _ => true) true Try.f3.params.toList args.toList ds p := hA0
  rw [Try.params3] at hA hval hsz
  obtain ⟨v0, vs0, d0, ds0, p0, q0, hargs, rfl, rfl, h0, r0⟩ := trodAll_cons hA
  obtain ⟨v1, vs1, d1, ds1, p1, q1, rfl, rfl, rfl, h1, r1⟩ := trodAll_cons r0
  obtain ⟨rfl, rfl, rfl⟩ := trodAll_nil r1
  obtain rfl : args = #[v0, v1] := by cases args; simp_all
  obtain ⟨rfl, rfl⟩ := trodVars_none hV
  obtain ⟨y0, rfl, rfl, rfl, ok0⟩ := open_int Try.underlying3 (hval 0 3 v0 rfl rfl) h0
  obtain ⟨y1, rfl, rfl, rfl, ok1⟩ := open_int Try.underlying3 (hval 1 3 v1 rfl rfl) h1
  clear hA0 hval0 hsz0 hsz
  obtain ⟨fuel_, hE_⟩ := Go.Eng.Vnt.VarintTwo y0 y1 (wf_i64 ok0) (wf_i64 ok1)
  have h : Go.Eng.Vnt.CF fuel_ ⟨[(false, .bool)], []⟩ 3 [inj ((.int .i64) : K) y0, inj ((.int .i64) : K) y1] = some true := hE_ fuel_ (Nat.le_refl _)
  have hX : SoundX Try.prog Go.Eng.Vnt.A.te (fun _ => none) (fun _ _ _ => none) := fun sg f args rr hr => by cases hr
  have hpl : ∀ z_ ∈ [inj ((.int .i64) : K) y0, inj ((.int .i64) : K) y1], (∀ k_ xs_, z_ = AV.val false [.mv k_ xs_] → False) ∧ (∀ k_ x_, z_ = AV.val false [.io k_ x_] → False) := by
    intro z_ ha
    simp only [List.mem_cons, List.not_mem_nil, or_false] at ha
    rcases ha with rfl | rfl
    · exact plain_inj _ _
    · exact plain_inj _ _
  refine (law_calls (w := W) (vs := #[_, _]) (callF_ok (A := Go.Eng.Vnt.A) hX (by kernel_rfl) fuel_) h hpl (fun b o hb => by cases hb) ⟨repV_one ⟨rfl, okI_wf ok0⟩, ⟨repV_one ⟨rfl, okI_wf ok1⟩, trivial⟩⟩).mono ?_
  rintro e W' ⟨he, bel⟩
  subst he
  exact ⟨_, rfl, _, _, _, [], _, [], hW', trodAll_mk1 (shut_bool Try.underlying4 _), (trodAll_cons_mk (shut_int Try.underlying3 ok0) (trodAll_cons_mk (shut_int Try.underlying3 ok1) trodAll_mk0)), rfl, bel.frame _, fun h => by cases h⟩
theorem over : Rows.varintTwoRow.holds Try.pinned (OpenSpec.ofChange Rows.varintTwoSpec) :=
  OpenClaim.holds_of_wide 3 Try.f3 rfl rfl rfl rfl rfl rfl rfl ⟨rfl, rfl, rfl, rfl, rfl⟩ rfl rfl rfl rfl rfl (by kernel_rfl) Try.func3 (by kernel_rfl)
    (of_decide_eq_true (by kernel_rfl)) (by unfold Func.isWrapper; first | (rw [if_pos (by decide +kernel)]; kernel_rfl) | (rw [if_neg (by decide +kernel)]; exact ⟨rfl, rfl⟩))
    (fun os started H enc _ => lifted os started H enc)
theorem proved : Rows.VarintTwoSaid := over
#print axioms proved
end Go.Proofs.Ytfbbcdkbgnmmcaa.varintTwo
namespace Go.Proofs.Ytfbbcdkbgnmmcaa
/-- Under a short name, for the claim. -/
theorem varintTwo_holds : Rows.VarintTwoSaid := varintTwo.proved
end Go.Proofs.Ytfbbcdkbgnmmcaa
