/- Proved: the given statement VarintSmall, out of its pure law and the engine's soundness. Conditions: the statement's own, no more. -/
import Derived.Test.YtfbbcdkbgnmmcaaRows
import Derived.Test.YtfbbcdkbgnmmcaaPVnt
import Derived.WalkKit
import Derived.ProofKit
import Derived.OpenShut
import Derived.ShutString
import Derived.ChangeOld
import Derived.Below
import Derived.SizedLaws
import Derived.Lib.SmallJoins
namespace Go.Proofs.Ytfbbcdkbgnmmcaa.varintSmall
open Go.ChangeShapes Go.WideShapes Go.ChangeAt Go.RowKit Go.Joins Go.Eng
open Go.ChangeMaps (open_string shut_string)
theorem own : ownKnob Try.prog.godebug = none := by kernel_rfl
theorem laidOut : laidOutB Try.prog = true := by kernel_rfl
set_option maxRecDepth 100000 in
theorem lifted (os : Os) (started : os.Started) (H : Type) (enc : TypeId × Value → H) :
    ReturnsInHanded {} Try.checked os 6 .any (Rows.varintSmallSpec.pre6 enc Try.prog Try.f6 Rows.varintSmallRow.domain false) (Rows.varintSmallSpec.post enc Try.prog Try.f6 false true false false) := by
  refine returnsInHanded_of_change_sized (C := Try.checked) own started (by kernel_rfl) Try.func6
    (ChangeSpec.witness6 (enc := enc) (C := Try.checked) false ⟨#[], #[.int .i8 0, .slice none 0 0], []⟩ 8 (by kernel_rfl) (by kernel_rfl) (by kernel_rfl) (by kernel_rfl)) ?_
  intro W base args ds gs before hval0 hW hcnd hsz0 _
  have hsz : (DataW.weightsEach Try.prog (Try.f6.params.toList ++ Rows.varintSmallSpec.plain.varTypes Try.prog) (ds ++ gs)).all (· ≤ reachBytes) = true := hsz0
  have hval : ∀ (j : Nat) t v, Try.f6.params[j]? = some t → args[j]? = some v → Value.okWide Try.prog W .any base t v := hval0
  have hW' := hW
  obtain ⟨p, q, hA0, hV, rfl, hfz, hnd⟩ := hW
  have hA : DataW.TrodAll enc Try.prog W 0 (fun _ => true) true Try.f6.params.toList args.toList ds p := hA0
  rw [Try.params6] at hA hval hsz
  obtain ⟨v0, vs0, d0, ds0, p0, q0, hargs, rfl, rfl, h0, r0⟩ := trodAll_cons hA
  obtain ⟨v1, vs1, d1, ds1, p1, q1, rfl, rfl, rfl, h1, r1⟩ := trodAll_cons r0
  obtain ⟨rfl, rfl, rfl⟩ := trodAll_nil r1
  obtain rfl : args = #[v0, v1] := by cases args; simp_all
  obtain ⟨rfl, rfl⟩ := trodVars_none hV
  obtain ⟨y0, rfl, rfl, rfl, ok0⟩ := open_int Try.underlying33 (hval 0 33 v0 rfl rfl) h0
  obtain ⟨a1, len1, cap1, rfl⟩ := okWide_slice Try.underlying23 (hval 1 23 v1 rfl rfl)
  have k1 := h1
  have lt1 : ∀ x ∈ p1, x.block < W.heap.size := by obtain ⟨m, hm⟩ := k1; exact DataW.trod_lt m _ _ _ hm
  obtain ⟨y1, hy1, ok1⟩ : ∃ y_ : ((.slice (.int .u8)) : K).T, RepT Go.Eng.Vnt.A.te W (allB W) ((.slice (.int .u8)) : K) y_ (Value.cells (.slice a1 len1 cap1)).toList ∧ ((y_ : List ((.int .u8) : K).T).length * 1 ≤ 140737488351232 ∧ ∀ x_ ∈ (y_ : List ((.int .u8) : K).T), (Lit.int .u8 x_).wf = true) := by
    obtain ⟨fuel, hf⟩ := h1
    exact (opnT_slice (b := 1) Try.underlying23 (opnT_int Try.underlying5) (by kernel_rfl) (by decide) (by kernel_rfl)) H enc fuel _ _ hf (fun n_ hn_ => by simpa using List.all_eq_true.1 hsz n_ (DataW.weights_mem_each (j := 1) (t := 23) rfl rfl n_ hn_))
  clear hA0 hval0 hsz0 hsz
  obtain ⟨fuel_, hE_⟩ := Go.Eng.Vnt.VarintSmall y0 y1 (wf_i8 ok0) (Go.Eng.Vnt.okB_of y1 ok1).1 (Go.Eng.Vnt.okB_of y1 ok1).2
  have h : Go.Eng.Vnt.CF fuel_ ⟨[(false, .bool)], []⟩ 6 [inj ((.int .i8) : K) y0, inj ((.slice (.int .u8)) : K) y1] = some true := hE_ fuel_ (Nat.le_refl _)
  have hX : SoundX Try.prog Go.Eng.Vnt.A.te (fun _ => none) (fun _ _ _ => none) := fun sg f args rr hr => by cases hr
  have hpl : ∀ z_ ∈ [inj ((.int .i8) : K) y0, inj ((.slice (.int .u8)) : K) y1], (∀ k_ xs_, z_ = AV.val false [.mv k_ xs_] → False) ∧ (∀ k_ x_, z_ = AV.val false [.io k_ x_] → False) := by
    intro z_ ha
    simp only [List.mem_cons, List.not_mem_nil, or_false] at ha
    rcases ha with rfl | rfl
    · exact plain_inj _ _
    · exact plain_inj _ _
  refine (law_calls (w := W) (vs := #[_, _]) (callF_ok (A := Go.Eng.Vnt.A) hX (by kernel_rfl) fuel_) h hpl (fun b o hb => by cases hb) ⟨repV_one ⟨rfl, okI_wf ok0⟩, ⟨repV_arg hy1 (fun h => by cases h) (fun _ => rfl), trivial⟩⟩).mono ?_
  rintro e W' ⟨he, bel⟩
  subst he
  exact ⟨_, rfl, _, _, _, [], _, [], hW', trodAll_mk1 (shut_bool Try.underlying4 _), (trodAll_cons_mk (shut_int Try.underlying33 ok0) (trodAll_cons_mk (Below.trod laidOut (by kernel_rfl) (of_decide_eq_true (by kernel_rfl)) k1 bel lt1) trodAll_mk0)), rfl, bel.frame _, fun h => by cases h⟩
theorem over : Rows.varintSmallRow.holds Try.pinned (OpenSpec.ofChange Rows.varintSmallSpec) :=
  OpenClaim.holds_of_wide 6 Try.f6 rfl rfl rfl rfl rfl rfl rfl ⟨rfl, rfl, rfl, rfl, rfl⟩ rfl rfl rfl rfl rfl (by kernel_rfl) Try.func6 (by kernel_rfl)
    (of_decide_eq_true (by kernel_rfl)) (by unfold Func.isWrapper; first | (rw [if_pos (by decide +kernel)]; kernel_rfl) | (rw [if_neg (by decide +kernel)]; exact ⟨rfl, rfl⟩))
    (fun os started H enc _ => lifted os started H enc)
theorem proved : Rows.VarintSmallSaid := over
#print axioms proved
end Go.Proofs.Ytfbbcdkbgnmmcaa.varintSmall
namespace Go.Proofs.Ytfbbcdkbgnmmcaa
/-- Under a short name, for the claim. -/
theorem varintSmall_holds : Rows.VarintSmallSaid := varintSmall.proved
end Go.Proofs.Ytfbbcdkbgnmmcaa
