/- Proved: the given statement MoneyConvertSaid, out of its pure statement and the walks. Conditions: the statement's own, no more. Laid by wip/tools of this session. -/
import Derived.Test.YtbgofpibjdgohaaDoorRows
import Derived.Test.YtbgofpibjdgohaaDoorPAllx4
import Derived.Test.YtbgofpibjdgohaaDoorPureMoneyConvert
import Derived.Test.YtbgofpibjdgohaaDoorWOpn
import Derived.Test.YtbgofpibjdgohaaDoorWLaid
import Derived.Test.YtbgofpibjdgohaaDoorTie
import Derived.Test.YtbgofpibjdgohaaDoorCards
import Derived.SevenTiedAt
import Derived.WalkKit
import Derived.ProofKit
import Derived.OpenShut
import Derived.ShutString
import Derived.ChangeOld
import Derived.Below
import Derived.SizedLaws
import Derived.Lib.SmallJoins
namespace Go.Proofs.YtbgofpibjdgohaaDoor.moneyConvert
open Go.ChangeShapes Go.WideShapes Go.ChangeAt Go.RowKit Go.Joins
open Go.ChangeMaps (open_string shut_string)
open Go.Proofs.YtbgofpibjdgohaaDoor.PAll Go.Proofs.YtbgofpibjdgohaaDoorW Go.Proofs.YtbgofpibjdgohaaDoorW.Opn Go.Proofs.YtbgofpibjdgohaaDoorW.PrintWords
theorem own : ownKnob Tryd.prog.godebug = none := by kernel_rfl

set_option maxRecDepth 100000 in
theorem lifted (os : Os) (started : os.Started) (H : Type) (enc : TypeId × Value → H) :
    ReturnsInHanded {} Tryd.checked os 4 .any (fun w args => (Rows.moneyConvertSpec.pre enc Tryd.prog Tryd.f4 [] false w args ∧ laidMetH Tryd.prog [("errors.errorType", Rows.laid_errors_errorType)] w) ∧ sizedMet enc Tryd.prog Tryd.f4 (OpenSpec.ofChange Rows.moneyConvertSpec) false w args) (Rows.moneyConvertSpec.post enc Tryd.prog Tryd.f4 false true false false) := by
  refine returnsInHanded_of_change_and (C := Tryd.checked) (X := fun w _ => laidMetH Tryd.prog [("errors.errorType", Rows.laid_errors_errorType)] w) (fun _ _ _ hh h => h.of_heap hh) own started (by kernel_rfl) Tryd.func4
    (ChangeSpec.witness_at (enc := enc) (C := Tryd.checked) (os := os) (X := fun w _ => laidMetH Tryd.prog [("errors.errorType", Rows.laid_errors_errorType)] w) false (Laid.laidWorld os) #[.int .i64 0, .int .i64 0, .int .i64 0] 8 rfl (by kernel_rfl) (by kernel_rfl) (by kernel_rfl) (by kernel_rfl) (by kernel_rfl) (Laid.laidWorld_met os _)) ?_
  intro W base args ds gs before hval0 hW hcnd hsz0 hL _
  have hg : As.GH W := Laid.handle_of_laid hL
  have hsz : (DataW.weightsEach Tryd.prog (Tryd.f4.params.toList ++ Rows.moneyConvertSpec.plain.varTypes Tryd.prog) (ds ++ gs)).all (· ≤ reachBytes) = true := hsz0
  have hval : ∀ (j : Nat) t v, Tryd.f4.params[j]? = some t → args[j]? = some v → Value.okWide Tryd.prog W .any base t v := hval0
  have hW' := hW
  obtain ⟨p, q, hA0, hV, rfl, hfz, hnd⟩ := hW
  have hA : DataW.TrodAll enc Tryd.prog W 0 (fun _ => true) true Tryd.f4.params.toList args.toList ds p := hA0
  rw [Tryd.params4] at hA hval hsz
  obtain ⟨v0, vs0, d0, ds0, p0, q0, hargs, rfl, rfl, h0, r0⟩ := trodAll_cons hA
  obtain ⟨v1, vs1, d1, ds1, p1, q1, rfl, rfl, rfl, h1, r1⟩ := trodAll_cons r0
  obtain ⟨v2, vs2, d2, ds2, p2, q2, rfl, rfl, rfl, h2, r2⟩ := trodAll_cons r1
  obtain ⟨rfl, rfl, rfl⟩ := trodAll_nil r2
  obtain rfl : args = #[v0, v1, v2] := by cases args; simp_all
  obtain ⟨rfl, rfl⟩ := trodVars_none hV
  obtain ⟨a0, rfl, rfl, rfl, w0⟩ := open_int Tryd.underlying3 (hval 0 3 v0 rfl rfl) h0
  obtain ⟨a1, rfl, rfl, rfl, w1⟩ := open_int Tryd.underlying3 (hval 1 3 v1 rfl rfl) h1
  obtain ⟨a2, rfl, rfl, rfl, w2⟩ := open_int Tryd.underlying3 (hval 2 3 v2 rfl rfl) h2
  clear hA0 hval0 hsz0 hsz
  obtain ⟨k, h⟩ := Pure.MoneyConvert a0 a1 a2 w0 w1 w2
  refine (hawalalaw01_MoneyConvert.calls (r := true) (w := W) (k := k) (hgz := hg) (h := h)).mono ?_
  rintro e W' ⟨he, bel0⟩
  have bel : Below W.heap.size W W' := bel0
  subst he
  exact ⟨_, rfl, _, _, _, [], _, [], hW', trodAll_mk1 (shut_bool Tryd.underlying4 _), (trodAll_cons_mk (shut_int Tryd.underlying3 w0) (trodAll_cons_mk (shut_int Tryd.underlying3 w1) (trodAll_cons_mk (shut_int Tryd.underlying3 w2) trodAll_mk0))), rfl, bel.frame _, fun h => by cases h⟩
theorem over : Rows.moneyConvertRow.holds Tryd.pinned (OpenSpec.ofChange Rows.moneyConvertSpec) :=
  OpenClaim.holds_of_wide 4 Tryd.f4 rfl rfl rfl rfl rfl rfl rfl ⟨rfl, rfl, rfl, rfl, rfl⟩ rfl rfl rfl rfl rfl (by kernel_rfl) Tryd.func4 (by kernel_rfl)
    (of_decide_eq_true (by kernel_rfl)) (by unfold Func.isWrapper; first | (rw [if_pos (by decide +kernel)]; kernel_rfl) | (rw [if_neg (by decide +kernel)]; exact ⟨rfl, rfl⟩))
    (fun os started H enc _ => lifted os started H enc)
set_option maxRecDepth 100000 in
theorem proved : Rows.MoneyConvertCardSaid :=
  Claim7.holds_tied_plain_at .later [] [.handle] true (true, "75376a77bffb09fe9f1ac2e97d16c83829aaae3110c2a5964802417731e425cd") true
    over (fun _ h => by cases h) (by kernel_rfl) (fun _ h => by cases h) moneyConvert_row_tie rfl ⟨rfl, rfl⟩ (by kernel_rfl) rfl
    (fun f fn hf hfn => by
      obtain rfl : f = 4 := Option.some.inj ((show Tryd.prog.funcNamed "hawala/hawalalaw01.MoneyConvert" = some 4 by kernel_rfl).symm.trans hf) |>.symm
      obtain rfl : fn = Tryd.f4 := (Option.some.inj (Tryd.func4.symm.trans hfn)).symm
      exact ⟨by kernel_rfl, fun j t ht => by
        rw [Tryd.params4] at ht
        have hT : t ∈ [3, 3, 3] := by
          rw [List.getElem?_toArray] at ht
          exact List.mem_of_getElem? ht
        have hA : ∀ t ∈ [3, 3, 3], Tryd.prog.wantsStandIn t = false := by
          intro t ht
          simp only [List.mem_cons, List.not_mem_nil, or_false] at ht
          rcases ht with rfl | rfl | rfl
          · exact (show Tryd.prog.wantsStandIn 3 = false by kernel_rfl)
          · exact (show Tryd.prog.wantsStandIn 3 = false by kernel_rfl)
          · exact (show Tryd.prog.wantsStandIn 3 = false by kernel_rfl)
        exact hA t hT⟩)
    (by kernel_rfl)
#print axioms proved
end Go.Proofs.YtbgofpibjdgohaaDoor.moneyConvert
namespace Go.Proofs.YtbgofpibjdgohaaDoor
/-- The card, under a short name, for the claim. -/
theorem moneyConvert_holds : Rows.MoneyConvertCardSaid := moneyConvert.proved
end Go.Proofs.YtbgofpibjdgohaaDoor
