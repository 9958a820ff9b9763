/- Proved: the given statement MoneySumSaid, out of its pure statement and the walks. Conditions: the statement's own, no more. Laid by wip/tools of this session. -/
import Derived.Test.YtbgofpibjdgohaaDoorRows
import Derived.Test.YtbgofpibjdgohaaDoorPAllx6
import Derived.Test.YtbgofpibjdgohaaDoorPureMoneySum
import Derived.Test.YtbgofpibjdgohaaDoorWOpn
import Derived.Test.YtbgofpibjdgohaaDoorWLaid
import Derived.Test.YtbgofpibjdgohaaDoorTie
import Derived.Test.YtbgofpibjdgohaaDoorCards
import Derived.SevenTiedAt
import Derived.WalkKit
import Derived.ProofKit
import Derived.OpenShut
import Derived.ShutString
import Derived.ChangeOld
import Derived.Below
import Derived.SizedLaws
import Derived.Lib.SmallJoins
namespace Go.Proofs.YtbgofpibjdgohaaDoor.moneySum
open Go.ChangeShapes Go.WideShapes Go.ChangeAt Go.RowKit Go.Joins
open Go.ChangeMaps (open_string shut_string)
open Go.Proofs.YtbgofpibjdgohaaDoor.PAll Go.Proofs.YtbgofpibjdgohaaDoorW Go.Proofs.YtbgofpibjdgohaaDoorW.Opn Go.Proofs.YtbgofpibjdgohaaDoorW.PrintWords
theorem own : ownKnob Tryd.prog.godebug = none := by kernel_rfl
theorem laidOut : laidOutB Tryd.prog = true := by kernel_rfl

set_option maxRecDepth 100000 in
theorem lifted (os : Os) (started : os.Started) (H : Type) (enc : TypeId × Value → H) :
    ReturnsInHanded {} Tryd.checked os 8 .any (fun w args => (Rows.moneySumSpec.pre enc Tryd.prog Tryd.f8 [] false w args ∧ laidMetH Tryd.prog [("errors.errorType", Rows.laid_errors_errorType)] w) ∧ sizedMet enc Tryd.prog Tryd.f8 (OpenSpec.ofChange Rows.moneySumSpec) false w args) (Rows.moneySumSpec.post enc Tryd.prog Tryd.f8 false true false false) := by
  refine returnsInHanded_of_change_and (C := Tryd.checked) (X := fun w _ => laidMetH Tryd.prog [("errors.errorType", Rows.laid_errors_errorType)] w) (fun _ _ _ hh h => h.of_heap hh) own started (by kernel_rfl) Tryd.func8
    (ChangeSpec.witness_at (enc := enc) (C := Tryd.checked) (os := os) (X := fun w _ => laidMetH Tryd.prog [("errors.errorType", Rows.laid_errors_errorType)] w) false (Laid.laidWorld os) #[.slice none 0 0] 8 rfl (by kernel_rfl) (by kernel_rfl) (by kernel_rfl) (by kernel_rfl) (by kernel_rfl) (Laid.laidWorld_met os _)) ?_
  intro W base args ds gs before hval0 hW hcnd hsz0 hL _
  have hg : As.GH W := Laid.handle_of_laid hL
  have hsz : (DataW.weightsEach Tryd.prog (Tryd.f8.params.toList ++ Rows.moneySumSpec.plain.varTypes Tryd.prog) (ds ++ gs)).all (· ≤ reachBytes) = true := hsz0
  have hval : ∀ (j : Nat) t v, Tryd.f8.params[j]? = some t → args[j]? = some v → Value.okWide Tryd.prog W .any base t v := hval0
  have hW' := hW
  obtain ⟨p, q, hA0, hV, rfl, hfz, hnd⟩ := hW
  have hA : DataW.TrodAll enc Tryd.prog W 0 (fun _ => true) true Tryd.f8.params.toList args.toList ds p := hA0
  rw [Tryd.params8] at hA hval hsz
  obtain ⟨v0, vs0, d0, ds0, p0, q0, hargs, rfl, rfl, h0, r0⟩ := trodAll_cons hA
  obtain ⟨rfl, rfl, rfl⟩ := trodAll_nil r0
  obtain rfl : args = #[v0] := by cases args; simp_all
  obtain ⟨rfl, rfl⟩ := trodVars_none hV
  obtain ⟨a0, len0, cap0, rfl⟩ := okWide_slice Tryd.underlying42 (hval 0 42 v0 rfl rfl)
  have k0 := h0
  have lt0 : ∀ x ∈ p0, x.block < W.heap.size := by obtain ⟨m, hm⟩ := k0; exact DataW.trod_lt m _ _ _ hm
  obtain ⟨l0, hy0, ok0⟩ : ∃ y_ : List Int, (Kd.slice 3 (Kd.int .i64)).K W y_ [.slice a0 len0 cap0] ∧ ((y_.length ≤ maxLen ∧ y_.length * 8 ≤ 140737488351232 ∧ ∀ x_ ∈ y_, (Lit.int .i64 x_).wf = true)) := by
    obtain ⟨fuel, hf⟩ := h0
    exact (opn_slice (b := 8) Tryd.underlying42 (opn_int Tryd.underlying3) (by kernel_rfl) (by kernel_rfl)) H enc fuel _ _ hf (fun n_ hn_ => by simpa using List.all_eq_true.1 hsz n_ (DataW.weights_mem_each (j := 0) (t := 42) rfl rfl n_ hn_))
  obtain ⟨A0, c0, e0, hl0, hC0⟩ := hy0
  obtain ⟨rfl, rfl, rfl⟩ : a0 = A0 ∧ len0 = l0.length ∧ cap0 = c0 := by simpa using e0
  clear hA0 hval0 hsz0 hsz
  obtain ⟨k, h⟩ := Pure.MoneySum l0 ok0
  refine (hawalalaw01_MoneySum.calls (r := true) (w := W) (k := k) (hr0 := hC0) (hc0 := hl0) (hgz := hg) (h := h)).mono ?_
  rintro e W' ⟨he, bel0⟩
  have bel : Below W.heap.size W W' := bel0
  subst he
  exact ⟨_, rfl, _, _, _, [], _, [], hW', trodAll_mk1 (shut_bool Tryd.underlying4 _), (trodAll_cons_mk (Below.trod laidOut (by kernel_rfl) (of_decide_eq_true (by kernel_rfl)) k0 bel lt0) trodAll_mk0), rfl, bel.frame _, fun h => by cases h⟩
theorem over : Rows.moneySumRow.holds Tryd.pinned (OpenSpec.ofChange Rows.moneySumSpec) :=
  OpenClaim.holds_of_wide 8 Tryd.f8 rfl rfl rfl rfl rfl rfl rfl ⟨rfl, rfl, rfl, rfl, rfl⟩ rfl rfl rfl rfl rfl (by kernel_rfl) Tryd.func8 (by kernel_rfl)
    (of_decide_eq_true (by kernel_rfl)) (by unfold Func.isWrapper; first | (rw [if_pos (by decide +kernel)]; kernel_rfl) | (rw [if_neg (by decide +kernel)]; exact ⟨rfl, rfl⟩))
    (fun os started H enc _ => lifted os started H enc)
set_option maxRecDepth 100000 in
theorem proved : Rows.MoneySumCardSaid :=
  Claim7.holds_tied_plain_at .later [] [.handle] true (true, "75376a77bffb09fe9f1ac2e97d16c83829aaae3110c2a5964802417731e425cd") true
    over (fun _ h => by cases h) (by kernel_rfl) (fun _ h => by cases h) moneySum_row_tie rfl ⟨rfl, rfl⟩ (by kernel_rfl) rfl
    (fun f fn hf hfn => by
      obtain rfl : f = 8 := Option.some.inj ((show Tryd.prog.funcNamed "hawala/hawalalaw01.MoneySum" = some 8 by kernel_rfl).symm.trans hf) |>.symm
      obtain rfl : fn = Tryd.f8 := (Option.some.inj (Tryd.func8.symm.trans hfn)).symm
      exact ⟨by kernel_rfl, fun j t ht => by
        rw [Tryd.params8] at ht
        have hT : t ∈ [42] := by
          rw [List.getElem?_toArray] at ht
          exact List.mem_of_getElem? ht
        have hA : ∀ t ∈ [42], Tryd.prog.wantsStandIn t = false := by
          intro t ht
          simp only [List.mem_cons, List.not_mem_nil, or_false] at ht
          rcases ht with rfl
          · exact (show Tryd.prog.wantsStandIn 42 = false by kernel_rfl)
        exact hA t hT⟩)
    (by kernel_rfl)
#print axioms proved
end Go.Proofs.YtbgofpibjdgohaaDoor.moneySum
namespace Go.Proofs.YtbgofpibjdgohaaDoor
/-- The card, under a short name, for the claim. -/
theorem moneySum_holds : Rows.MoneySumCardSaid := moneySum.proved
end Go.Proofs.YtbgofpibjdgohaaDoor
