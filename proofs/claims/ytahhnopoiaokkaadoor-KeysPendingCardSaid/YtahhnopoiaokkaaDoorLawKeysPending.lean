/- Proved: the given statement KeysPendingSaid, out of its pure statement and the walks. Conditions: the statement's own, no more. Laid by wip/tools of this session. -/
import Derived.Test.YtahhnopoiaokkaaDoorRows
import Derived.Test.YtahhnopoiaokkaaDoorPAllx12
import Derived.Test.YtahhnopoiaokkaaDoorPureKeysPending
import Derived.Test.YtahhnopoiaokkaaDoorWOpn
import Derived.Test.YtahhnopoiaokkaaDoorWLaid
import Derived.Test.YtahhnopoiaokkaaDoorTie
import Derived.Test.YtahhnopoiaokkaaDoorCards
import Derived.SevenTiedAt
import Derived.WalkKit
import Derived.ProofKit
import Derived.OpenShut
import Derived.ShutString
import Derived.ChangeOld
import Derived.Below
import Derived.SizedLaws
import Derived.Lib.SmallJoins
namespace Go.Proofs.YtahhnopoiaokkaaDoor.keysPending
open Go.ChangeShapes Go.WideShapes Go.ChangeAt Go.RowKit Go.Joins
open Go.ChangeMaps (open_string shut_string)
open Go.Proofs.YtahhnopoiaokkaaDoor.PAll Go.Proofs.YtahhnopoiaokkaaDoorW Go.Proofs.YtahhnopoiaokkaaDoorW.Opn Go.Proofs.YtahhnopoiaokkaaDoorW.PrintWords
theorem own : ownKnob Tryd.prog.godebug = none := by kernel_rfl
theorem laidOut : laidOutB Tryd.prog = true := by kernel_rfl
theorem opnS33 (W : World) : Opn Tryd.prog W 33 k33 okS33 :=
  opn_iso (fun p => (⟨p.1, p.2.1, p.2.2.1, p.2.2.2.1, p.2.2.2.2.1, p.2.2.2.2.2.1, p.2.2.2.2.2.2⟩ : S33)) (fun _ => rfl) (opn_struct Tryd.underlying33 rfl (by kernel_rfl) (fl_cons rfl (by kernel_rfl) (opn_int Tryd.underlying3) (fl_cons rfl (by kernel_rfl) (opn_int Tryd.underlying31) (fl_cons rfl (by kernel_rfl) (opn_int Tryd.underlying3) (fl_cons rfl (by kernel_rfl) (opn_int Tryd.underlying3) (fl_cons rfl (by kernel_rfl) (opn_int Tryd.underlying3) (fl_cons rfl (by kernel_rfl) (opn_int Tryd.underlying3) (fl_one rfl (by kernel_rfl) (opn_int Tryd.underlying3)))))))))
theorem opnS37 (W : World) : Opn Tryd.prog W 37 k37 okS37 :=
  opn_iso (fun p => (⟨p.1, p.2⟩ : S37)) (fun _ => rfl) (opn_struct Tryd.underlying37 rfl (by kernel_rfl) (fl_cons rfl (by kernel_rfl) (opn_int Tryd.underlying35) (fl_one rfl (by kernel_rfl) (opn_int Tryd.underlying3))))
theorem opnS39 (W : World) : Opn Tryd.prog W 39 k39 okS39 :=
  opn_iso (fun p => (⟨p.1, p.2.1, p.2.2⟩ : S39)) (fun _ => rfl) (opn_struct Tryd.underlying39 rfl (by kernel_rfl) (fl_cons rfl (by kernel_rfl) (opnS33 W) (fl_cons rfl (by kernel_rfl) (opnS37 W) (fl_one rfl (by kernel_rfl) (opn_bool Tryd.underlying4)))))
set_option maxRecDepth 100000 in
theorem lifted (os : Os) (started : os.Started) (H : Type) (enc : TypeId × Value → H) :
    ReturnsInHanded {} Tryd.checked os 6 .any (fun w args => (Rows.keysPendingSpec.pre enc Tryd.prog Tryd.f6 [] false w args ∧ laidMetH Tryd.prog [("errors.errorType", Rows.laid_errors_errorType)] w) ∧ sizedMet enc Tryd.prog Tryd.f6 (OpenSpec.ofChange Rows.keysPendingSpec) false w args) (Rows.keysPendingSpec.post enc Tryd.prog Tryd.f6 false true false false) := by
  refine returnsInHanded_of_change_and (C := Tryd.checked) (X := fun w _ => laidMetH Tryd.prog [("errors.errorType", Rows.laid_errors_errorType)] w) (fun _ _ _ hh h => h.of_heap hh) own started (by kernel_rfl) Tryd.func6
    (ChangeSpec.witness_at (enc := enc) (C := Tryd.checked) (os := os) (X := fun w _ => laidMetH Tryd.prog [("errors.errorType", Rows.laid_errors_errorType)] w) false (Laid.laidWorld os) #[.slice none 0 0, .agg #[.int .i64 0, .int .i64 0, .int .i64 0, .int .i64 0, .int .i64 0, .int .i64 0, .int .i64 0]] 8 rfl (by kernel_rfl) (by kernel_rfl) (by kernel_rfl) (by kernel_rfl) (by kernel_rfl) (Laid.laidWorld_met os _)) ?_
  intro W base args ds gs before hval0 hW hcnd hsz0 hL _
  have hg : As.GH W := Laid.handle_of_laid hL
  have hsz : (DataW.weightsEach Tryd.prog (Tryd.f6.params.toList ++ Rows.keysPendingSpec.plain.varTypes Tryd.prog) (ds ++ gs)).all (· ≤ reachBytes) = true := hsz0
  have hval : ∀ (j : Nat) t v, Tryd.f6.params[j]? = some t → args[j]? = some v → Value.okWide Tryd.prog W .any base t v := hval0
  have hW' := hW
  obtain ⟨p, q, hA0, hV, rfl, hfz, hnd⟩ := hW
  have hA : DataW.TrodAll enc Tryd.prog W 0 (fun _ => true) true Tryd.f6.params.toList args.toList ds p := hA0
  rw [Tryd.params6] at hA hval hsz
  obtain ⟨v0, vs0, d0, ds0, p0, q0, hargs, rfl, rfl, h0, r0⟩ := trodAll_cons hA
  obtain ⟨v1, vs1, d1, ds1, p1, q1, rfl, rfl, rfl, h1, r1⟩ := trodAll_cons r0
  obtain ⟨rfl, rfl, rfl⟩ := trodAll_nil r1
  obtain rfl : args = #[v0, v1] := by cases args; simp_all
  obtain ⟨rfl, rfl⟩ := trodVars_none hV
  obtain ⟨a0, len0, cap0, rfl⟩ := okWide_slice Tryd.underlying24 (hval 0 24 v0 rfl rfl)
  have k0 := h0
  have lt0 : ∀ x ∈ p0, x.block < W.heap.size := by obtain ⟨m, hm⟩ := k0; exact DataW.trod_lt m _ _ _ hm
  obtain ⟨l0, hy0, ok0⟩ : ∃ y_ : List (S39), (Kd.slice 39 k39).K W y_ [.slice a0 len0 cap0] ∧ ((y_.length ≤ maxLen ∧ y_.length * 80 ≤ 140737488351232 ∧ ∀ x_ ∈ y_, okS39 x_)) := by
    obtain ⟨fuel, hf⟩ := h0
    exact (opn_slice (b := 80) Tryd.underlying24 (opnS39 W) (by kernel_rfl) (by kernel_rfl)) H enc fuel _ _ hf (fun n_ hn_ => by simpa using List.all_eq_true.1 hsz n_ (DataW.weights_mem_each (j := 0) (t := 24) rfl rfl n_ hn_))
  obtain ⟨A0, c0, e0, hl0, hC0⟩ := hy0
  obtain ⟨rfl, rfl, rfl⟩ : a0 = A0 ∧ len0 = l0.length ∧ cap0 = c0 := by simpa using e0
  obtain ⟨cs1, rfl, _⟩ := okWide_struct Tryd.underlying33 (hval 1 33 v1 rfl rfl)
  have k1 := h1
  have lt1 : ∀ x ∈ p1, x.block < W.heap.size := by obtain ⟨m, hm⟩ := k1; exact DataW.trod_lt m _ _ _ hm
  obtain ⟨y1, hy1, ok1⟩ : ∃ y_ : S33, k33.K W y_ cs1.toList ∧ (okS33 y_) := by
    obtain ⟨fuel, hf⟩ := h1
    exact (opnS33 W) H enc fuel _ _ hf (fun n_ hn_ => by simpa using List.all_eq_true.1 hsz n_ (DataW.weights_mem_each (j := 1) (t := 33) rfl rfl n_ hn_))
  obtain rfl : cs1 = #[.int .i64 y1.f0, .int .i64 y1.f1, .int .i64 y1.f2, .int .i64 y1.f3, .int .i64 y1.f4, .int .i64 y1.f5, .int .i64 y1.f6] := by have e1 := k33_open hy1; cases cs1; simp_all
  clear hA0 hval0 hsz0 hsz
  obtain ⟨k, h⟩ := Pure.KeysPending l0 y1 ok0 ok1
  refine (hawalalaw11_KeysPending.calls (r := true) (w := W) (k := k) (hr0 := hC0) (hc0 := hl0) (hgz := hg) (h := h)).mono ?_
  rintro e W' ⟨he, bel0⟩
  have bel : Below W.heap.size W W' := bel0
  subst he
  exact ⟨_, rfl, _, _, _, [], _, [], hW', trodAll_mk1 (shut_bool Tryd.underlying4 _), (trodAll_cons_mk (Below.trod laidOut (by kernel_rfl) (of_decide_eq_true (by kernel_rfl)) k0 bel lt0) (trodAll_cons_mk (Below.trod laidOut (by kernel_rfl) (of_decide_eq_true (by kernel_rfl)) k1 bel lt1) trodAll_mk0)), rfl, bel.frame _, fun h => by cases h⟩
theorem over : Rows.keysPendingRow.holds Tryd.pinned (OpenSpec.ofChange Rows.keysPendingSpec) :=
  OpenClaim.holds_of_wide 6 Tryd.f6 rfl rfl rfl rfl rfl rfl rfl ⟨rfl, rfl, rfl, rfl, rfl⟩ rfl rfl rfl rfl rfl (by kernel_rfl) Tryd.func6 (by kernel_rfl)
    (of_decide_eq_true (by kernel_rfl)) (by unfold Func.isWrapper; first | (rw [if_pos (by decide +kernel)]; kernel_rfl) | (rw [if_neg (by decide +kernel)]; exact ⟨rfl, rfl⟩))
    (fun os started H enc _ => lifted os started H enc)
set_option maxRecDepth 100000 in
theorem proved : Rows.KeysPendingCardSaid :=
  Claim7.holds_tied_plain_at .later [] [.handle] true (true, "b4e13d564cbb78bf8250b16bb9459665d5087270eef5140b023bfcfe099ee908") true
    over (fun _ h => by cases h) (by kernel_rfl) (fun _ h => by cases h) keysPending_row_tie rfl ⟨rfl, rfl⟩ (by kernel_rfl) rfl
    (fun f fn hf hfn => by
      obtain rfl : f = 6 := Option.some.inj ((show Tryd.prog.funcNamed "hawala/hawalalaw11.KeysPending" = some 6 by kernel_rfl).symm.trans hf) |>.symm
      obtain rfl : fn = Tryd.f6 := (Option.some.inj (Tryd.func6.symm.trans hfn)).symm
      exact ⟨by kernel_rfl, fun j t ht => by
        rw [Tryd.params6] at ht
        have hT : t ∈ [24, 33] := by
          rw [List.getElem?_toArray] at ht
          exact List.mem_of_getElem? ht
        have hA : ∀ t ∈ [24, 33], Tryd.prog.wantsStandIn t = false := by
          intro t ht
          simp only [List.mem_cons, List.not_mem_nil, or_false] at ht
          rcases ht with rfl | rfl
          · exact (show Tryd.prog.wantsStandIn 24 = false by kernel_rfl)
          · exact (show Tryd.prog.wantsStandIn 33 = false by kernel_rfl)
        exact hA t hT⟩)
    (by kernel_rfl)
#print axioms proved
end Go.Proofs.YtahhnopoiaokkaaDoor.keysPending
namespace Go.Proofs.YtahhnopoiaokkaaDoor
/-- The card, under a short name, for the claim. -/
theorem keysPending_holds : Rows.KeysPendingCardSaid := keysPending.proved
end Go.Proofs.YtahhnopoiaokkaaDoor
