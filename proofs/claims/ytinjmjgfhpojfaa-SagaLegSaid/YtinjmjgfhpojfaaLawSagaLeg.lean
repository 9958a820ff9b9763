/- Proved: the given statement SagaLegSaid, out of its pure statement and the walks. Conditions: the statement's own, no more. Laid by wip/tools of this session. -/
import Derived.Test.YtinjmjgfhpojfaaRows
import Derived.Test.YtinjmjgfhpojfaaPAllx7
import Derived.Test.YtinjmjgfhpojfaaPureSagaLeg
import Derived.Test.YtinjmjgfhpojfaaWOpn
import Derived.WalkKit
import Derived.ProofKit
import Derived.OpenShut
import Derived.ShutString
import Derived.ChangeOld
import Derived.Below
import Derived.SizedLaws
import Derived.Lib.SmallJoins
namespace Go.Proofs.Ytinjmjgfhpojfaa.sagaLeg
open Go.ChangeShapes Go.WideShapes Go.ChangeAt Go.RowKit Go.Joins
open Go.ChangeMaps (open_string shut_string)
open Go.Proofs.Ytinjmjgfhpojfaa.PAll Go.Proofs.YtinjmjgfhpojfaaW Go.Proofs.YtinjmjgfhpojfaaW.Opn Go.Proofs.YtinjmjgfhpojfaaW.PrintWords
theorem own : ownKnob Try.prog.godebug = none := by kernel_rfl
theorem laidOut : laidOutB Try.prog = true := by kernel_rfl
theorem opnS25 (W : World) : Opn Try.prog W 25 k25 okS25 :=
  opn_iso (fun p => (⟨p.1, p.2.1, p.2.2.1, p.2.2.2.1, p.2.2.2.2.1, p.2.2.2.2.2.1, p.2.2.2.2.2.2⟩ : S25)) (fun _ => rfl) (opn_struct Try.underlying25 rfl (by kernel_rfl) (fl_cons rfl (by kernel_rfl) (opn_int Try.underlying3) (fl_cons rfl (by kernel_rfl) (opn_int Try.underlying23) (fl_cons rfl (by kernel_rfl) (opn_int Try.underlying3) (fl_cons rfl (by kernel_rfl) (opn_int Try.underlying3) (fl_cons rfl (by kernel_rfl) (opn_int Try.underlying3) (fl_cons rfl (by kernel_rfl) (opn_int Try.underlying3) (fl_one rfl (by kernel_rfl) (opn_int Try.underlying3)))))))))
set_option maxRecDepth 100000 in
theorem lifted (os : Os) (started : os.Started) (H : Type) (enc : TypeId × Value → H) :
    ReturnsInHanded {} Try.checked os 3 .any (Rows.sagaLegSpec.pre6 enc Try.prog Try.f3 Rows.sagaLegRow.domain false) (Rows.sagaLegSpec.post enc Try.prog Try.f3 false true false false) := by
  refine returnsInHanded_of_change_sized (C := Try.checked) own started (by kernel_rfl) Try.func3
    (ChangeSpec.witness6 (enc := enc) (C := Try.checked) false ⟨#[], #[.int .u8 0, .slice none 0 0, .agg #[.int .i64 0, .int .i64 0, .int .i64 0, .int .i64 0, .int .i64 0, .int .i64 0, .int .i64 0]], []⟩ 8 (by kernel_rfl) (by kernel_rfl) (by kernel_rfl) (by kernel_rfl)) ?_
  intro W base args ds gs before hval0 hW hcnd hsz0 _
  have hsz : (DataW.weightsEach Try.prog (Try.f3.params.toList ++ Rows.sagaLegSpec.plain.varTypes Try.prog) (ds ++ gs)).all (· ≤ reachBytes) = true := hsz0
  have hval : ∀ (j : Nat) t v, Try.f3.params[j]? = some t → args[j]? = some v → Value.okWide Try.prog W .any base t v := hval0
  have hW' := hW
  obtain ⟨p, q, hA0, hV, rfl, hfz, hnd⟩ := hW
  have hA : DataW.TrodAll enc Try.prog W 0 (fun _ => true) true Try.f3.params.toList args.toList ds p := hA0
  rw [Try.params3] at hA hval hsz
  obtain ⟨v0, vs0, d0, ds0, p0, q0, hargs, rfl, rfl, h0, r0⟩ := trodAll_cons hA
  obtain ⟨v1, vs1, d1, ds1, p1, q1, rfl, rfl, rfl, h1, r1⟩ := trodAll_cons r0
  obtain ⟨v2, vs2, d2, ds2, p2, q2, rfl, rfl, rfl, h2, r2⟩ := trodAll_cons r1
  obtain ⟨rfl, rfl, rfl⟩ := trodAll_nil r2
  obtain rfl : args = #[v0, v1, v2] := by cases args; simp_all
  obtain ⟨rfl, rfl⟩ := trodVars_none hV
  obtain ⟨a0, rfl, rfl, rfl, w0⟩ := open_int Try.underlying5 (hval 0 5 v0 rfl rfl) h0
  obtain ⟨a1, len1, cap1, rfl⟩ := okWide_slice Try.underlying22 (hval 1 22 v1 rfl rfl)
  have k1 := h1
  have lt1 : ∀ x ∈ p1, x.block < W.heap.size := by obtain ⟨m, hm⟩ := k1; exact DataW.trod_lt m _ _ _ hm
  obtain ⟨l1, hy1, ok1⟩ : ∃ y_ : List Bool, (Kd.slice 4 Kd.bool).K W y_ [.slice a1 len1 cap1] ∧ ((y_.length ≤ maxLen ∧ y_.length * 1 ≤ 140737488351232 ∧ ∀ x_ ∈ y_, True)) := by
    obtain ⟨fuel, hf⟩ := h1
    exact (opn_slice (b := 1) Try.underlying22 (opn_bool Try.underlying4) (by kernel_rfl) (by kernel_rfl)) H enc fuel _ _ hf (fun n_ hn_ => by simpa using List.all_eq_true.1 hsz n_ (DataW.weights_mem_each (j := 1) (t := 22) rfl rfl n_ hn_))
  obtain ⟨A1, c1, e1, hl1, hC1⟩ := hy1
  obtain ⟨rfl, rfl, rfl⟩ : a1 = A1 ∧ len1 = l1.length ∧ cap1 = c1 := by simpa using e1
  obtain ⟨cs2, rfl, _⟩ := okWide_struct Try.underlying25 (hval 2 25 v2 rfl rfl)
  have k2 := h2
  have lt2 : ∀ x ∈ p2, x.block < W.heap.size := by obtain ⟨m, hm⟩ := k2; exact DataW.trod_lt m _ _ _ hm
  obtain ⟨y2, hy2, ok2⟩ : ∃ y_ : S25, k25.K W y_ cs2.toList ∧ (okS25 y_) := by
    obtain ⟨fuel, hf⟩ := h2
    exact (opnS25 W) H enc fuel _ _ hf (fun n_ hn_ => by simpa using List.all_eq_true.1 hsz n_ (DataW.weights_mem_each (j := 2) (t := 25) rfl rfl n_ hn_))
  obtain rfl : cs2 = #[.int .i64 y2.f0, .int .i64 y2.f1, .int .i64 y2.f2, .int .i64 y2.f3, .int .i64 y2.f4, .int .i64 y2.f5, .int .i64 y2.f6] := by have e2 := k25_open hy2; cases cs2; simp_all
  clear hA0 hval0 hsz0 hsz
  obtain ⟨k, h⟩ := Pure.SagaLeg a0 l1 y2 w0 ok1 ok2
  refine (hawalalaw14_SagaLeg.calls (r := true) (w := W) (k := k) (hr1 := hC1) (hc1 := hl1) (h := h)).mono ?_
  rintro e W' ⟨he, bel0⟩
  have bel : Below W.heap.size W W' := bel0
  subst he
  exact ⟨_, rfl, _, _, _, [], _, [], hW', trodAll_mk1 (shut_bool Try.underlying4 _), (trodAll_cons_mk (shut_int Try.underlying5 w0) (trodAll_cons_mk (Below.trod laidOut (by kernel_rfl) (of_decide_eq_true (by kernel_rfl)) k1 bel lt1) (trodAll_cons_mk (Below.trod laidOut (by kernel_rfl) (of_decide_eq_true (by kernel_rfl)) k2 bel lt2) trodAll_mk0))), rfl, bel.frame _, fun h => by cases h⟩
theorem over : Rows.sagaLegRow.holds Try.pinned (OpenSpec.ofChange Rows.sagaLegSpec) :=
  OpenClaim.holds_of_wide 3 Try.f3 rfl rfl rfl rfl rfl rfl rfl ⟨rfl, rfl, rfl, rfl, rfl⟩ rfl rfl rfl rfl rfl (by kernel_rfl) Try.func3 (by kernel_rfl)
    (of_decide_eq_true (by kernel_rfl)) (by unfold Func.isWrapper; first | (rw [if_pos (by decide +kernel)]; kernel_rfl) | (rw [if_neg (by decide +kernel)]; exact ⟨rfl, rfl⟩))
    (fun os started H enc _ => lifted os started H enc)
theorem proved : Rows.SagaLegSaid := over
#print axioms proved
end Go.Proofs.Ytinjmjgfhpojfaa.sagaLeg
namespace Go.Proofs.Ytinjmjgfhpojfaa
/-- The row, under a short name, for the claim. -/
theorem sagaLeg_holds : Rows.SagaLegSaid := sagaLeg.proved
end Go.Proofs.Ytinjmjgfhpojfaa
