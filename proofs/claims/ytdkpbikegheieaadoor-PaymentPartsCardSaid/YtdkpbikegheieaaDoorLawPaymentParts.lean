/- Proved: the given statement PaymentParts, out of its pure law and the engine's soundness. Conditions: the statement's own, no more. -/
import Derived.Test.YtdkpbikegheieaaDoorRows
import Derived.Test.YtdkpbikegheieaaDoorPPay
import Derived.Test.YtdkpbikegheieaaDoorWLaid
import Derived.Test.YtdkpbikegheieaaDoorTie
import Derived.Test.YtdkpbikegheieaaDoorCards
import Derived.SevenTiedAt
import Derived.WalkKit
import Derived.ProofKit
import Derived.OpenShut
import Derived.ShutString
import Derived.ChangeOld
import Derived.Below
import Derived.SizedLaws
import Derived.Lib.SmallJoins
namespace Go.Proofs.YtdkpbikegheieaaDoor.paymentParts
open Go.ChangeShapes Go.WideShapes Go.ChangeAt Go.RowKit Go.Joins Go.Eng
open Go.ChangeMaps (open_string shut_string)
open Go.Proofs.YtdkpbikegheieaaDoorW
theorem own : ownKnob Tryd.prog.godebug = none := by kernel_rfl
theorem laidOut : laidOutB Tryd.prog = true := by kernel_rfl
set_option maxRecDepth 100000 in
theorem lifted (os : Os) (started : os.Started) (H : Type) (enc : TypeId × Value → H) :
    ReturnsInHanded {} Tryd.checked os 4 .any (fun w args => (Rows.paymentPartsSpec.pre enc Tryd.prog Tryd.f4 [] false w args ∧ laidMetH Tryd.prog [("errors.errorType", Rows.laid_errors_errorType)] w) ∧ sizedMet enc Tryd.prog Tryd.f4 (OpenSpec.ofChange Rows.paymentPartsSpec) false w args) (Rows.paymentPartsSpec.post enc Tryd.prog Tryd.f4 false true false false) := by
  refine returnsInHanded_of_change_and (C := Tryd.checked) (X := fun w _ => laidMetH Tryd.prog [("errors.errorType", Rows.laid_errors_errorType)] w) (fun _ _ _ hh h => h.of_heap hh) own started (by kernel_rfl) Tryd.func4
    (ChangeSpec.witness_at (enc := enc) (C := Tryd.checked) (os := os) (X := fun w _ => laidMetH Tryd.prog [("errors.errorType", Rows.laid_errors_errorType)] w) false (Laid.laidWorld os) #[.agg #[.int .u8 0, .int .u8 0, .int .u8 0, .int .u8 0, .int .u8 0, .int .u8 0, .int .u8 0, .bool false], .int .u8 0, .int .u8 0, .int .u8 0] 8 rfl (by kernel_rfl) (by kernel_rfl) (by kernel_rfl) (by kernel_rfl) (by kernel_rfl) (Laid.laidWorld_met os _)) ?_
  intro W base args ds gs before hval0 hW hcnd hsz0 hL _
  have hg : As.GH W := Laid.handle_of_laid hL
  have hsz : (DataW.weightsEach Tryd.prog (Tryd.f4.params.toList ++ Rows.paymentPartsSpec.plain.varTypes Tryd.prog) (ds ++ gs)).all (· ≤ reachBytes) = true := hsz0
  have hval : ∀ (j : Nat) t v, Tryd.f4.params[j]? = some t → args[j]? = some v → Value.okWide Tryd.prog W .any base t v := hval0
  have hW' := hW
  obtain ⟨p, q, hA0, hV, rfl, hfz, hnd⟩ := hW
  have hA : DataW.TrodAll enc Tryd.prog W 0 (fun _ => true) true Tryd.f4.params.toList args.toList ds p := hA0
  rw [Tryd.params4] at hA hval hsz
  obtain ⟨v0, vs0, d0, ds0, p0, q0, hargs, rfl, rfl, h0, r0⟩ := trodAll_cons hA
  obtain ⟨v1, vs1, d1, ds1, p1, q1, rfl, rfl, rfl, h1, r1⟩ := trodAll_cons r0
  obtain ⟨v2, vs2, d2, ds2, p2, q2, rfl, rfl, rfl, h2, r2⟩ := trodAll_cons r1
  obtain ⟨v3, vs3, d3, ds3, p3, q3, rfl, rfl, rfl, h3, r3⟩ := trodAll_cons r2
  obtain ⟨rfl, rfl, rfl⟩ := trodAll_nil r3
  obtain rfl : args = #[v0, v1, v2, v3] := by cases args; simp_all
  obtain ⟨rfl, rfl⟩ := trodVars_none hV
  obtain ⟨cs0, rfl, _⟩ := okWide_struct Tryd.underlying23 (hval 0 23 v0 rfl rfl)
  have k0 := h0
  have lt0 : ∀ x ∈ p0, x.block < W.heap.size := by obtain ⟨m, hm⟩ := k0; exact DataW.trod_lt m _ _ _ hm
  obtain ⟨y0, hy0, ok0⟩ : ∃ y_ : ((.strct (.prod (.int .u8) (.prod (.int .u8) (.prod (.int .u8) (.prod (.int .u8) (.prod (.int .u8) (.prod (.int .u8) (.prod (.int .u8) .bool)))))))) : K).T, RepT Go.Eng.Pay.A.te W (allB W) ((.strct (.prod (.int .u8) (.prod (.int .u8) (.prod (.int .u8) (.prod (.int .u8) (.prod (.int .u8) (.prod (.int .u8) (.prod (.int .u8) .bool)))))))) : K) y_ (Value.cells (.agg cs0)).toList ∧ (((Lit.int .u8 (y_).1).wf = true) ∧ ((Lit.int .u8 (y_).2.1).wf = true) ∧ ((Lit.int .u8 (y_).2.2.1).wf = true) ∧ ((Lit.int .u8 (y_).2.2.2.1).wf = true) ∧ ((Lit.int .u8 (y_).2.2.2.2.1).wf = true) ∧ ((Lit.int .u8 (y_).2.2.2.2.2.1).wf = true) ∧ ((Lit.int .u8 (y_).2.2.2.2.2.2.1).wf = true) ∧ (True)) := by
    obtain ⟨fuel, hf⟩ := h0
    exact (opnT_struct Tryd.underlying23 rfl (by kernel_rfl) (flT_cons rfl (by kernel_rfl) (opnT_int Tryd.underlying5) (flT_cons rfl (by kernel_rfl) (opnT_int Tryd.underlying5) (flT_cons rfl (by kernel_rfl) (opnT_int Tryd.underlying5) (flT_cons rfl (by kernel_rfl) (opnT_int Tryd.underlying5) (flT_cons rfl (by kernel_rfl) (opnT_int Tryd.underlying5) (flT_cons rfl (by kernel_rfl) (opnT_int Tryd.underlying5) (flT_cons rfl (by kernel_rfl) (opnT_int Tryd.underlying5) (flT_one rfl (by kernel_rfl) (opnT_bool Tryd.underlying4)))))))))) H enc fuel _ _ hf (fun n_ hn_ => by simpa using List.all_eq_true.1 hsz n_ (DataW.weights_mem_each (j := 0) (t := 23) rfl rfl n_ hn_))
  obtain ⟨q1, q2, q3, q4, q5, q6, q7, b⟩ := y0
  obtain ⟨y1, rfl, rfl, rfl, ok1⟩ := open_int Tryd.underlying5 (hval 1 5 v1 rfl rfl) h1
  obtain ⟨y2, rfl, rfl, rfl, ok2⟩ := open_int Tryd.underlying5 (hval 2 5 v2 rfl rfl) h2
  obtain ⟨y3, rfl, rfl, rfl, ok3⟩ := open_int Tryd.underlying5 (hval 3 5 v3 rfl rfl) h3
  clear hA0 hval0 hsz0 hsz
  have h : Go.Eng.Pay.CF 6 ⟨[(false, .bool)], []⟩ 4 [inj ((.strct (.prod (.int .u8) (.prod (.int .u8) (.prod (.int .u8) (.prod (.int .u8) (.prod (.int .u8) (.prod (.int .u8) (.prod (.int .u8) .bool)))))))) : K) ((q1, q2, q3, q4, q5, q6, q7, b) : ((.strct (.prod (.int .u8) (.prod (.int .u8) (.prod (.int .u8) (.prod (.int .u8) (.prod (.int .u8) (.prod (.int .u8) (.prod (.int .u8) .bool)))))))) : K).T), inj ((.int .u8) : K) y1, inj ((.int .u8) : K) y2, inj ((.int .u8) : K) y3] = some true := by obtain ⟨o1, o2, o3, o4, o5, o6, o7, _⟩ := ok0; exact Go.Eng.Pay.PaymentParts y1 y2 y3 q1 q2 q3 q4 q5 q6 q7 b (okU_of o1) (okU_of o2) (okU_of o3) (okU_of o4) (okU_of o5) (okU_of o6) (okU_of o7) (okU_of ok1) (okU_of ok2) (okU_of ok3)
  have hgw : ∀ (w : World) (Sb : Nat → Prop), Glob (GlOf W) Sb w → As.GH w := by
    intro w Sb hG
    have hg0 := hg
    unfold As.GH at hg0 ⊢
    cases hq : W.heap[0]? with
    | none => unfold World.cell? at hg0; simp only [hq] at hg0; cases hg0
    | some o =>
      rw [← hg0]
      exact World.cell?_of_block (a := ⟨0, 0, none⟩) ((hG 0 o (by unfold GlOf; rw [if_pos rfl]; exact hq)).2.trans hq.symm)
  have hX : SoundX Tryd.prog Go.Eng.Pay.A.te (GlOf W) (XNum 13) := xnum_ok ⟨_, Tryd.func13, by kernel_rfl, by kernel_rfl⟩ fun w Sb e hG => by
    cases e with
    | none => exact As.number_nil w
    | some c => exact As.number_some c w (hgw w Sb hG)
  have hpl : ∀ z_ ∈ [inj ((.strct (.prod (.int .u8) (.prod (.int .u8) (.prod (.int .u8) (.prod (.int .u8) (.prod (.int .u8) (.prod (.int .u8) (.prod (.int .u8) .bool)))))))) : K) ((q1, q2, q3, q4, q5, q6, q7, b) : ((.strct (.prod (.int .u8) (.prod (.int .u8) (.prod (.int .u8) (.prod (.int .u8) (.prod (.int .u8) (.prod (.int .u8) (.prod (.int .u8) .bool)))))))) : K).T), inj ((.int .u8) : K) y1, inj ((.int .u8) : K) y2, inj ((.int .u8) : K) y3], (∀ k_ xs_, z_ = AV.val false [.mv k_ xs_] → False) ∧ (∀ k_ x_, z_ = AV.val false [.io k_ x_] → False) := by
    intro z_ ha
    simp only [List.mem_cons, List.not_mem_nil, or_false] at ha
    rcases ha with rfl | rfl | rfl | rfl
    · exact plain_inj _ _
    · exact plain_inj _ _
    · exact plain_inj _ _
    · exact plain_inj _ _
  refine (law_calls (w := W) (vs := #[_, _, _, _]) (callF_ok (A := Go.Eng.Pay.A) hX (by kernel_rfl) 6) h hpl (fun b o hb => by unfold GlOf at hb; split at hb; (rename_i e; subst e; exact hb); (cases hb)) ⟨repV_arg hy0 (fun _ => ⟨_, rfl⟩) (fun h => by cases h), ⟨repV_one ⟨rfl, okI_wf ok1⟩, ⟨repV_one ⟨rfl, okI_wf ok2⟩, ⟨repV_one ⟨rfl, okI_wf ok3⟩, trivial⟩⟩⟩⟩).mono ?_
  rintro e W' ⟨he, bel⟩
  subst he
  exact ⟨_, rfl, _, _, _, [], _, [], hW', trodAll_mk1 (shut_bool Tryd.underlying4 _), (trodAll_cons_mk (Below.trod laidOut (by kernel_rfl) (of_decide_eq_true (by kernel_rfl)) k0 bel lt0) (trodAll_cons_mk (shut_int Tryd.underlying5 ok1) (trodAll_cons_mk (shut_int Tryd.underlying5 ok2) (trodAll_cons_mk (shut_int Tryd.underlying5 ok3) trodAll_mk0)))), rfl, bel.frame _, fun h => by cases h⟩
theorem over : Rows.paymentPartsRow.holds Tryd.pinned (OpenSpec.ofChange Rows.paymentPartsSpec) :=
  OpenClaim.holds_of_wide 4 Tryd.f4 rfl rfl rfl rfl rfl rfl rfl ⟨rfl, rfl, rfl, rfl, rfl⟩ rfl rfl rfl rfl rfl (by kernel_rfl) Tryd.func4 (by kernel_rfl)
    (of_decide_eq_true (by kernel_rfl)) (by unfold Func.isWrapper; first | (rw [if_pos (by decide +kernel)]; kernel_rfl) | (rw [if_neg (by decide +kernel)]; exact ⟨rfl, rfl⟩))
    (fun os started H enc _ => lifted os started H enc)
set_option maxRecDepth 100000 in
theorem proved : Rows.PaymentPartsCardSaid :=
  Claim7.holds_tied_plain_at .later [] [.handle] true (true, "8d0aff01b121a337730f05cd3cd677213700218a60a385bda45d0ffe6ed5cf29") true
    over (fun _ h => by cases h) (by kernel_rfl) (fun _ h => by cases h) paymentParts_row_tie rfl ⟨rfl, rfl⟩ (by kernel_rfl) rfl
    (fun f fn hf hfn => by
      obtain rfl : f = 4 := Option.some.inj ((show Tryd.prog.funcNamed "hawala/hawalalaw12.PaymentParts" = some 4 by kernel_rfl).symm.trans hf) |>.symm
      obtain rfl : fn = Tryd.f4 := (Option.some.inj (Tryd.func4.symm.trans hfn)).symm
      exact ⟨by kernel_rfl, fun j t ht => by
        rw [Tryd.params4] at ht
        have hT : t ∈ [23, 5, 5, 5] := by
          rw [List.getElem?_toArray] at ht
          exact List.mem_of_getElem? ht
        have hA : ∀ t ∈ [23, 5, 5, 5], Tryd.prog.wantsStandIn t = false := by
          intro t ht
          simp only [List.mem_cons, List.not_mem_nil, or_false] at ht
          rcases ht with rfl | rfl | rfl | rfl
          · exact (show Tryd.prog.wantsStandIn 23 = false by kernel_rfl)
          · exact (show Tryd.prog.wantsStandIn 5 = false by kernel_rfl)
          · exact (show Tryd.prog.wantsStandIn 5 = false by kernel_rfl)
          · exact (show Tryd.prog.wantsStandIn 5 = false by kernel_rfl)
        exact hA t hT⟩)
    (by kernel_rfl)
#print axioms proved
end Go.Proofs.YtdkpbikegheieaaDoor.paymentParts
namespace Go.Proofs.YtdkpbikegheieaaDoor
/-- Under a short name, for the claim. -/
theorem paymentParts_holds : Rows.PaymentPartsCardSaid := paymentParts.proved
end Go.Proofs.YtdkpbikegheieaaDoor
