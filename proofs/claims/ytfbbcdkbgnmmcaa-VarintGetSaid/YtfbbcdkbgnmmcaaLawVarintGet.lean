/- Proved: the given statement VarintGetSaid, out of its pure statement and the walks. Conditions: the statement's own, no more. Laid by wip/tools of this session. -/
import Derived.Test.YtfbbcdkbgnmmcaaRows
import Derived.Test.YtfbbcdkbgnmmcaaPAllx7
import Derived.Test.YtfbbcdkbgnmmcaaPureVarintGet
import Derived.Test.YtfbbcdkbgnmmcaaWOpn
import Derived.WalkKit
import Derived.ProofKit
import Derived.OpenShut
import Derived.ShutString
import Derived.ChangeOld
import Derived.Below
import Derived.SizedLaws
import Derived.Lib.SmallJoins
namespace Go.Proofs.Ytfbbcdkbgnmmcaa.varintGet
open Go.ChangeShapes Go.WideShapes Go.ChangeAt Go.RowKit Go.Joins
open Go.ChangeMaps (open_string shut_string)
open Go.Proofs.Ytfbbcdkbgnmmcaa.PAll Go.Proofs.YtfbbcdkbgnmmcaaW Go.Proofs.YtfbbcdkbgnmmcaaW.Opn Go.Proofs.YtfbbcdkbgnmmcaaW.PrintWords
theorem own : ownKnob Try.prog.godebug = none := by kernel_rfl
theorem laidOut : laidOutB Try.prog = true := by kernel_rfl

set_option maxRecDepth 100000 in
theorem lifted (os : Os) (started : os.Started) (H : Type) (enc : TypeId × Value → H) :
    ReturnsInHanded {} Try.checked os 5 .any (Rows.varintGetSpec.pre6 enc Try.prog Try.f5 Rows.varintGetRow.domain false) (Rows.varintGetSpec.post enc Try.prog Try.f5 false true false false) := by
  refine returnsInHanded_of_change_sized (C := Try.checked) own started (by kernel_rfl) Try.func5
    (ChangeSpec.witness6 (enc := enc) (C := Try.checked) false ⟨#[], #[.slice none 0 0], []⟩ 8 (by kernel_rfl) (by kernel_rfl) (by kernel_rfl) (by kernel_rfl)) ?_
  intro W base args ds gs before hval0 hW hcnd hsz0 _
  have hsz : (DataW.weightsEach Try.prog (Try.f5.params.toList ++ Rows.varintGetSpec.plain.varTypes Try.prog) (ds ++ gs)).all (· ≤ reachBytes) = true := hsz0
  have hval : ∀ (j : Nat) t v, Try.f5.params[j]? = some t → args[j]? = some v → Value.okWide Try.prog W .any base t v := hval0
  have hW' := hW
  obtain ⟨p, q, hA0, hV, rfl, hfz, hnd⟩ := hW
  have hA : DataW.TrodAll enc Try.prog W 0 (fun _ => true) true Try.f5.params.toList args.toList ds p := hA0
  rw [Try.params5] at hA hval hsz
  obtain ⟨v0, vs0, d0, ds0, p0, q0, hargs, rfl, rfl, h0, r0⟩ := trodAll_cons hA
  obtain ⟨rfl, rfl, rfl⟩ := trodAll_nil r0
  obtain rfl : args = #[v0] := by cases args; simp_all
  obtain ⟨rfl, rfl⟩ := trodVars_none hV
  obtain ⟨a0, len0, cap0, rfl⟩ := okWide_slice Try.underlying23 (hval 0 23 v0 rfl rfl)
  have k0 := h0
  have lt0 : ∀ x ∈ p0, x.block < W.heap.size := by obtain ⟨m, hm⟩ := k0; exact DataW.trod_lt m _ _ _ hm
  obtain ⟨l0, hy0, ok0⟩ : ∃ y_ : List Int, (Kd.slice 5 (Kd.int .u8)).K W y_ [.slice a0 len0 cap0] ∧ ((y_.length ≤ maxLen ∧ y_.length * 1 ≤ 140737488351232 ∧ ∀ x_ ∈ y_, (Lit.int .u8 x_).wf = true)) := by
    obtain ⟨fuel, hf⟩ := h0
    exact (opn_slice (b := 1) Try.underlying23 (opn_int Try.underlying5) (by kernel_rfl) (by kernel_rfl)) H enc fuel _ _ hf (fun n_ hn_ => by simpa using List.all_eq_true.1 hsz n_ (DataW.weights_mem_each (j := 0) (t := 23) rfl rfl n_ hn_))
  obtain ⟨A0, c0, e0, hl0, hC0⟩ := hy0
  obtain ⟨rfl, rfl, rfl⟩ : a0 = A0 ∧ len0 = l0.length ∧ cap0 = c0 := by simpa using e0
  clear hA0 hval0 hsz0 hsz
  obtain ⟨k, h⟩ := Pure.VarintGet l0 ok0
  refine (hawalalaw02_VarintGet.calls (r := true) (w := W) (k := k) (hr0 := hC0) (hc0 := hl0) (h := h)).mono ?_
  rintro e W' ⟨he, bel0⟩
  have bel : Below W.heap.size W W' := bel0
  subst he
  exact ⟨_, rfl, _, _, _, [], _, [], hW', trodAll_mk1 (shut_bool Try.underlying4 _), (trodAll_cons_mk (Below.trod laidOut (by kernel_rfl) (of_decide_eq_true (by kernel_rfl)) k0 bel lt0) trodAll_mk0), rfl, bel.frame _, fun h => by cases h⟩
theorem over : Rows.varintGetRow.holds Try.pinned (OpenSpec.ofChange Rows.varintGetSpec) :=
  OpenClaim.holds_of_wide 5 Try.f5 rfl rfl rfl rfl rfl rfl rfl ⟨rfl, rfl, rfl, rfl, rfl⟩ rfl rfl rfl rfl rfl (by kernel_rfl) Try.func5 (by kernel_rfl)
    (of_decide_eq_true (by kernel_rfl)) (by unfold Func.isWrapper; first | (rw [if_pos (by decide +kernel)]; kernel_rfl) | (rw [if_neg (by decide +kernel)]; exact ⟨rfl, rfl⟩))
    (fun os started H enc _ => lifted os started H enc)
theorem proved : Rows.VarintGetSaid := over
#print axioms proved
end Go.Proofs.Ytfbbcdkbgnmmcaa.varintGet
namespace Go.Proofs.Ytfbbcdkbgnmmcaa
/-- The row, under a short name, for the claim. -/
theorem varintGet_holds : Rows.VarintGetSaid := varintGet.proved
end Go.Proofs.Ytfbbcdkbgnmmcaa
