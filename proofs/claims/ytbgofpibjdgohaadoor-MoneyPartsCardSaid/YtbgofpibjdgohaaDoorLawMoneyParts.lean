/- Proved: the given statement MoneyParts, out of its pure law and the engine's soundness. Conditions: the statement's own, no more. -/
import Derived.Test.YtbgofpibjdgohaaDoorRows
import Derived.Test.YtbgofpibjdgohaaDoorPMon
import Derived.Test.YtbgofpibjdgohaaDoorWLaid
import Derived.Test.YtbgofpibjdgohaaDoorTie
import Derived.Test.YtbgofpibjdgohaaDoorCards
import Derived.SevenTiedAt
import Derived.WalkKit
import Derived.ProofKit
import Derived.OpenShut
import Derived.ShutString
import Derived.ChangeOld
import Derived.Below
import Derived.SizedLaws
import Derived.Lib.SmallJoins
namespace Go.Proofs.YtbgofpibjdgohaaDoor.moneyParts
open Go.ChangeShapes Go.WideShapes Go.ChangeAt Go.RowKit Go.Joins Go.Eng
open Go.ChangeMaps (open_string shut_string)
open Go.Proofs.YtbgofpibjdgohaaDoorW
theorem own : ownKnob Tryd.prog.godebug = none := by kernel_rfl
theorem laidOut : laidOutB Tryd.prog = true := by kernel_rfl
set_option maxRecDepth 100000 in
theorem lifted (os : Os) (started : os.Started) (H : Type) (enc : TypeId × Value → H) :
    ReturnsInHanded {} Tryd.checked os 7 .any (fun w args => (Rows.moneyPartsSpec.pre enc Tryd.prog Tryd.f7 [] false w args ∧ laidMetH Tryd.prog [("errors.errorType", Rows.laid_errors_errorType)] w) ∧ sizedMet enc Tryd.prog Tryd.f7 (OpenSpec.ofChange Rows.moneyPartsSpec) false w args) (Rows.moneyPartsSpec.post enc Tryd.prog Tryd.f7 false true false false) := by
  refine returnsInHanded_of_change_and (C := Tryd.checked) (X := fun w _ => laidMetH Tryd.prog [("errors.errorType", Rows.laid_errors_errorType)] w) (fun _ _ _ hh h => h.of_heap hh) own started (by kernel_rfl) Tryd.func7
    (ChangeSpec.witness_at (enc := enc) (C := Tryd.checked) (os := os) (X := fun w _ => laidMetH Tryd.prog [("errors.errorType", Rows.laid_errors_errorType)] w) false (Laid.laidWorld os) #[.int .i64 0, .int .i64 0, .int .u8 0, .int .u8 0] 8 rfl (by kernel_rfl) (by kernel_rfl) (by kernel_rfl) (by kernel_rfl) (by kernel_rfl) (Laid.laidWorld_met os _)) ?_
  intro W base args ds gs before hval0 hW hcnd hsz0 hL _
  have hg : As.GH W := Laid.handle_of_laid hL
  have hsz : (DataW.weightsEach Tryd.prog (Tryd.f7.params.toList ++ Rows.moneyPartsSpec.plain.varTypes Tryd.prog) (ds ++ gs)).all (· ≤ reachBytes) = true := hsz0
  have hval : ∀ (j : Nat) t v, Tryd.f7.params[j]? = some t → args[j]? = some v → Value.okWide Tryd.prog W .any base t v := hval0
  have hW' := hW
  obtain ⟨p, q, hA0, hV, rfl, hfz, hnd⟩ := hW
  have hA : DataW.TrodAll enc Tryd.prog W 0 (fun _ => true) true Tryd.f7.params.toList args.toList ds p := hA0
  rw [Tryd.params7] at hA hval hsz
  obtain ⟨v0, vs0, d0, ds0, p0, q0, hargs, rfl, rfl, h0, r0⟩ := trodAll_cons hA
  obtain ⟨v1, vs1, d1, ds1, p1, q1, rfl, rfl, rfl, h1, r1⟩ := trodAll_cons r0
  obtain ⟨v2, vs2, d2, ds2, p2, q2, rfl, rfl, rfl, h2, r2⟩ := trodAll_cons r1
  obtain ⟨v3, vs3, d3, ds3, p3, q3, rfl, rfl, rfl, h3, r3⟩ := trodAll_cons r2
  obtain ⟨rfl, rfl, rfl⟩ := trodAll_nil r3
  obtain rfl : args = #[v0, v1, v2, v3] := by cases args; simp_all
  obtain ⟨rfl, rfl⟩ := trodVars_none hV
  obtain ⟨y0, rfl, rfl, rfl, ok0⟩ := open_int Tryd.underlying3 (hval 0 3 v0 rfl rfl) h0
  obtain ⟨y1, rfl, rfl, rfl, ok1⟩ := open_int Tryd.underlying3 (hval 1 3 v1 rfl rfl) h1
  obtain ⟨y2, rfl, rfl, rfl, ok2⟩ := open_int Tryd.underlying5 (hval 2 5 v2 rfl rfl) h2
  obtain ⟨y3, rfl, rfl, rfl, ok3⟩ := open_int Tryd.underlying5 (hval 3 5 v3 rfl rfl) h3
  clear hA0 hval0 hsz0 hsz
  obtain ⟨fuel_, hE_⟩ := Go.Eng.Mon.MoneyParts y0 y1 y2 y3 (wf_u8 ok2) (wf_u8 ok3)
  have h : Go.Eng.Mon.CF fuel_ ⟨[(false, .bool)], []⟩ 7 [inj ((.int .i64) : K) y0, inj ((.int .i64) : K) y1, inj ((.int .u8) : K) y2, inj ((.int .u8) : K) y3] = some true := hE_ fuel_ (Nat.le_refl _)
  have hgw : ∀ (w : World) (Sb : Nat → Prop), Glob (GlOf W) Sb w → As.GH w := by
    intro w Sb hG
    have hg0 := hg
    unfold As.GH at hg0 ⊢
    cases hq : W.heap[0]? with
    | none => unfold World.cell? at hg0; simp only [hq] at hg0; cases hg0
    | some o =>
      rw [← hg0]
      exact World.cell?_of_block (a := ⟨0, 0, none⟩) ((hG 0 o (by unfold GlOf; rw [if_pos rfl]; exact hq)).2.trans hq.symm)
  have hX : SoundX Tryd.prog Go.Eng.Mon.A.te (GlOf W) (XNum 12) := xnum_ok ⟨_, Tryd.func12, by kernel_rfl, by kernel_rfl⟩ fun w Sb e hG => by
    cases e with
    | none => exact As.number_nil w
    | some c => exact As.number_some c w (hgw w Sb hG)
  have hpl : ∀ z_ ∈ [inj ((.int .i64) : K) y0, inj ((.int .i64) : K) y1, inj ((.int .u8) : K) y2, inj ((.int .u8) : K) y3], (∀ k_ xs_, z_ = AV.val false [.mv k_ xs_] → False) ∧ (∀ k_ x_, z_ = AV.val false [.io k_ x_] → False) := by
    intro z_ ha
    simp only [List.mem_cons, List.not_mem_nil, or_false] at ha
    rcases ha with rfl | rfl | rfl | rfl
    · exact plain_inj _ _
    · exact plain_inj _ _
    · exact plain_inj _ _
    · exact plain_inj _ _
  refine (law_calls (w := W) (vs := #[_, _, _, _]) (callF_ok (A := Go.Eng.Mon.A) hX (by kernel_rfl) fuel_) h hpl (fun b o hb => by unfold GlOf at hb; split at hb; (rename_i e; subst e; exact hb); (cases hb)) ⟨repV_one ⟨rfl, okI_wf ok0⟩, ⟨repV_one ⟨rfl, okI_wf ok1⟩, ⟨repV_one ⟨rfl, okI_wf ok2⟩, ⟨repV_one ⟨rfl, okI_wf ok3⟩, trivial⟩⟩⟩⟩).mono ?_
  rintro e W' ⟨he, bel⟩
  subst he
  exact ⟨_, rfl, _, _, _, [], _, [], hW', trodAll_mk1 (shut_bool Tryd.underlying4 _), (trodAll_cons_mk (shut_int Tryd.underlying3 ok0) (trodAll_cons_mk (shut_int Tryd.underlying3 ok1) (trodAll_cons_mk (shut_int Tryd.underlying5 ok2) (trodAll_cons_mk (shut_int Tryd.underlying5 ok3) trodAll_mk0)))), rfl, bel.frame _, fun h => by cases h⟩
theorem over : Rows.moneyPartsRow.holds Tryd.pinned (OpenSpec.ofChange Rows.moneyPartsSpec) :=
  OpenClaim.holds_of_wide 7 Tryd.f7 rfl rfl rfl rfl rfl rfl rfl ⟨rfl, rfl, rfl, rfl, rfl⟩ rfl rfl rfl rfl rfl (by kernel_rfl) Tryd.func7 (by kernel_rfl)
    (of_decide_eq_true (by kernel_rfl)) (by unfold Func.isWrapper; first | (rw [if_pos (by decide +kernel)]; kernel_rfl) | (rw [if_neg (by decide +kernel)]; exact ⟨rfl, rfl⟩))
    (fun os started H enc _ => lifted os started H enc)
set_option maxRecDepth 100000 in
theorem proved : Rows.MoneyPartsCardSaid :=
  Claim7.holds_tied_plain_at .later [] [.handle] true (true, "75376a77bffb09fe9f1ac2e97d16c83829aaae3110c2a5964802417731e425cd") true
    over (fun _ h => by cases h) (by kernel_rfl) (fun _ h => by cases h) moneyParts_row_tie rfl ⟨rfl, rfl⟩ (by kernel_rfl) rfl
    (fun f fn hf hfn => by
      obtain rfl : f = 7 := Option.some.inj ((show Tryd.prog.funcNamed "hawala/hawalalaw01.MoneyParts" = some 7 by kernel_rfl).symm.trans hf) |>.symm
      obtain rfl : fn = Tryd.f7 := (Option.some.inj (Tryd.func7.symm.trans hfn)).symm
      exact ⟨by kernel_rfl, fun j t ht => by
        rw [Tryd.params7] at ht
        have hT : t ∈ [3, 3, 5, 5] := by
          rw [List.getElem?_toArray] at ht
          exact List.mem_of_getElem? ht
        have hA : ∀ t ∈ [3, 3, 5, 5], Tryd.prog.wantsStandIn t = false := by
          intro t ht
          simp only [List.mem_cons, List.not_mem_nil, or_false] at ht
          rcases ht with rfl | rfl | rfl | rfl
          · exact (show Tryd.prog.wantsStandIn 3 = false by kernel_rfl)
          · exact (show Tryd.prog.wantsStandIn 3 = false by kernel_rfl)
          · exact (show Tryd.prog.wantsStandIn 5 = false by kernel_rfl)
          · exact (show Tryd.prog.wantsStandIn 5 = false by kernel_rfl)
        exact hA t hT⟩)
    (by kernel_rfl)
#print axioms proved
end Go.Proofs.YtbgofpibjdgohaaDoor.moneyParts
namespace Go.Proofs.YtbgofpibjdgohaaDoor
/-- Under a short name, for the claim. -/
theorem moneyParts_holds : Rows.MoneyPartsCardSaid := moneyParts.proved
end Go.Proofs.YtbgofpibjdgohaaDoor
