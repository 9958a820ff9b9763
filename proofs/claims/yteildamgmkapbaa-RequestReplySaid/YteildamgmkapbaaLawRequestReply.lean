/- Proved: the given statement RequestReply, out of its pure law and the engine's soundness. Conditions: the statement's own, no more. -/
import Derived.Test.YteildamgmkapbaaRows
import Derived.Test.YteildamgmkapbaaPReq
import Derived.WalkKit
import Derived.ProofKit
import Derived.OpenShut
import Derived.ShutString
import Derived.ChangeOld
import Derived.Below
import Derived.SizedLaws
import Derived.Lib.SmallJoins
namespace Go.Proofs.Yteildamgmkapbaa.requestReply
open Go.ChangeShapes Go.WideShapes Go.ChangeAt Go.RowKit Go.Joins Go.Eng
open Go.ChangeMaps (open_string shut_string)
theorem own : ownKnob Try.prog.godebug = none := by kernel_rfl
theorem laidOut : laidOutB Try.prog = true := by kernel_rfl
set_option maxRecDepth 100000 in
theorem lifted (os : Os) (started : os.Started) (H : Type) (enc : TypeId × Value → H) :
    ReturnsInHanded {} Try.checked os 8 .any (Rows.requestReplySpec.pre6 enc Try.prog Try.f8 Rows.requestReplyRow.domain false) (Rows.requestReplySpec.post enc Try.prog Try.f8 false true false false) := by
  refine returnsInHanded_of_change_sized (C := Try.checked) own started (by kernel_rfl) Try.func8
    (ChangeSpec.witness6 (enc := enc) (C := Try.checked) false ⟨#[], #[.int .i64 0, .int .i64 0, .slice none 0 0, .slice none 0 0], []⟩ 8 (by kernel_rfl) (by kernel_rfl) (by kernel_rfl) (by kernel_rfl)) ?_
  intro W base args ds gs before hval0 hW hcnd hsz0 _
  have hsz : (DataW.weightsEach Try.prog (Try.f8.params.toList ++ Rows.requestReplySpec.plain.varTypes Try.prog) (ds ++ gs)).all (· ≤ reachBytes) = true := hsz0
  have hval : ∀ (j : Nat) t v, Try.f8.params[j]? = some t → args[j]? = some v → Value.okWide Try.prog W .any base t v := hval0
  have hW' := hW
  obtain ⟨p, q, hA0, hV, rfl, hfz, hnd⟩ := hW
  have hA : DataW.TrodAll enc Try.prog W 0 (fun _ => true) true Try.f8.params.toList args.toList ds p := hA0
  rw [Try.params8] at hA hval hsz
  obtain ⟨v0, vs0, d0, ds0, p0, q0, hargs, rfl, rfl, h0, r0⟩ := trodAll_cons hA
  obtain ⟨v1, vs1, d1, ds1, p1, q1, rfl, rfl, rfl, h1, r1⟩ := trodAll_cons r0
  obtain ⟨v2, vs2, d2, ds2, p2, q2, rfl, rfl, rfl, h2, r2⟩ := trodAll_cons r1
  obtain ⟨v3, vs3, d3, ds3, p3, q3, rfl, rfl, rfl, h3, r3⟩ := trodAll_cons r2
  obtain ⟨rfl, rfl, rfl⟩ := trodAll_nil r3
  obtain rfl : args = #[v0, v1, v2, v3] := by cases args; simp_all
  obtain ⟨rfl, rfl⟩ := trodVars_none hV
  obtain ⟨y0, rfl, rfl, rfl, ok0⟩ := open_int Try.underlying3 (hval 0 3 v0 rfl rfl) h0
  obtain ⟨y1, rfl, rfl, rfl, ok1⟩ := open_int Try.underlying3 (hval 1 3 v1 rfl rfl) h1
  obtain ⟨a2, len2, cap2, rfl⟩ := okWide_slice Try.underlying28 (hval 2 28 v2 rfl rfl)
  have k2 := h2
  have lt2 : ∀ x ∈ p2, x.block < W.heap.size := by obtain ⟨m, hm⟩ := k2; exact DataW.trod_lt m _ _ _ hm
  obtain ⟨y2, hy2, ok2⟩ : ∃ y_ : ((.slice (.int .u8)) : K).T, RepT Go.Eng.Req.A.te W (allB W) ((.slice (.int .u8)) : K) y_ (Value.cells (.slice a2 len2 cap2)).toList ∧ ((y_ : List ((.int .u8) : K).T).length * 1 ≤ 140737488351232 ∧ ∀ x_ ∈ (y_ : List ((.int .u8) : K).T), (Lit.int .u8 x_).wf = true) := by
    obtain ⟨fuel, hf⟩ := h2
    exact (opnT_slice (b := 1) Try.underlying28 (opnT_int Try.underlying5) (by kernel_rfl) (by decide) (by kernel_rfl)) H enc fuel _ _ hf (fun n_ hn_ => by simpa using List.all_eq_true.1 hsz n_ (DataW.weights_mem_each (j := 2) (t := 28) rfl rfl n_ hn_))
  obtain ⟨a3, len3, cap3, rfl⟩ := okWide_slice Try.underlying28 (hval 3 28 v3 rfl rfl)
  have k3 := h3
  have lt3 : ∀ x ∈ p3, x.block < W.heap.size := by obtain ⟨m, hm⟩ := k3; exact DataW.trod_lt m _ _ _ hm
  obtain ⟨y3, hy3, ok3⟩ : ∃ y_ : ((.slice (.int .u8)) : K).T, RepT Go.Eng.Req.A.te W (allB W) ((.slice (.int .u8)) : K) y_ (Value.cells (.slice a3 len3 cap3)).toList ∧ ((y_ : List ((.int .u8) : K).T).length * 1 ≤ 140737488351232 ∧ ∀ x_ ∈ (y_ : List ((.int .u8) : K).T), (Lit.int .u8 x_).wf = true) := by
    obtain ⟨fuel, hf⟩ := h3
    exact (opnT_slice (b := 1) Try.underlying28 (opnT_int Try.underlying5) (by kernel_rfl) (by decide) (by kernel_rfl)) H enc fuel _ _ hf (fun n_ hn_ => by simpa using List.all_eq_true.1 hsz n_ (DataW.weights_mem_each (j := 3) (t := 28) rfl rfl n_ hn_))
  clear hA0 hval0 hsz0 hsz
  obtain ⟨fuel_, hE_⟩ := Go.Eng.Req.RequestReply y0 y1 y2 y3 (Go.Eng.Req.okP_of y0 y1 ok0 ok1) (Go.Eng.Req.okB_of y2 ok2).1 (Go.Eng.Req.okB_of y2 ok2).2 (Go.Eng.Req.okB_of y3 ok3).1 (Go.Eng.Req.okB_of y3 ok3).2
  have h : Go.Eng.Req.CF fuel_ ⟨[(false, .bool)], []⟩ 8 [inj ((.int .i64) : K) y0, inj ((.int .i64) : K) y1, inj ((.slice (.int .u8)) : K) y2, inj ((.slice (.int .u8)) : K) y3] = some true := hE_ fuel_ (Nat.le_refl _)
  have hX : SoundX Try.prog Go.Eng.Req.A.te (fun _ => none) (fun _ _ _ => none) := fun sg f args rr hr => by cases hr
  have hpl : ∀ z_ ∈ [inj ((.int .i64) : K) y0, inj ((.int .i64) : K) y1, inj ((.slice (.int .u8)) : K) y2, inj ((.slice (.int .u8)) : K) y3], (∀ k_ xs_, z_ = AV.val false [.mv k_ xs_] → False) ∧ (∀ k_ x_, z_ = AV.val false [.io k_ x_] → False) := by
    intro z_ ha
    simp only [List.mem_cons, List.not_mem_nil, or_false] at ha
    rcases ha with rfl | rfl | rfl | rfl
    · exact plain_inj _ _
    · exact plain_inj _ _
    · exact plain_inj _ _
    · exact plain_inj _ _
  refine (law_calls (w := W) (vs := #[_, _, _, _]) (callF_ok (A := Go.Eng.Req.A) hX (by kernel_rfl) fuel_) h hpl (fun b o hb => by cases hb) ⟨repV_one ⟨rfl, okI_wf ok0⟩, ⟨repV_one ⟨rfl, okI_wf ok1⟩, ⟨repV_arg hy2 (fun h => by cases h) (fun _ => rfl), ⟨repV_arg hy3 (fun h => by cases h) (fun _ => rfl), trivial⟩⟩⟩⟩).mono ?_
  rintro e W' ⟨he, bel⟩
  subst he
  exact ⟨_, rfl, _, _, _, [], _, [], hW', trodAll_mk1 (shut_bool Try.underlying4 _), (trodAll_cons_mk (shut_int Try.underlying3 ok0) (trodAll_cons_mk (shut_int Try.underlying3 ok1) (trodAll_cons_mk (Below.trod laidOut (by kernel_rfl) (of_decide_eq_true (by kernel_rfl)) k2 bel lt2) (trodAll_cons_mk (Below.trod laidOut (by kernel_rfl) (of_decide_eq_true (by kernel_rfl)) k3 bel lt3) trodAll_mk0)))), rfl, bel.frame _, fun h => by cases h⟩
theorem over : Rows.requestReplyRow.holds Try.pinned (OpenSpec.ofChange Rows.requestReplySpec) :=
  OpenClaim.holds_of_wide 8 Try.f8 rfl rfl rfl rfl rfl rfl rfl ⟨rfl, rfl, rfl, rfl, rfl⟩ rfl rfl rfl rfl rfl (by kernel_rfl) Try.func8 (by kernel_rfl)
    (of_decide_eq_true (by kernel_rfl)) (by unfold Func.isWrapper; first | (rw [if_pos (by decide +kernel)]; kernel_rfl) | (rw [if_neg (by decide +kernel)]; exact ⟨rfl, rfl⟩))
    (fun os started H enc _ => lifted os started H enc)
theorem proved : Rows.RequestReplySaid := over
#print axioms proved
end Go.Proofs.Yteildamgmkapbaa.requestReply
namespace Go.Proofs.Yteildamgmkapbaa
/-- Under a short name, for the claim. -/
theorem requestReply_holds : Rows.RequestReplySaid := requestReply.proved
end Go.Proofs.Yteildamgmkapbaa
