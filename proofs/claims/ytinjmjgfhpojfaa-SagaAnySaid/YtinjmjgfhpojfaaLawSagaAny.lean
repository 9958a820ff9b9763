/- Proved: the given statement SagaAnySaid, out of its pure statement and the walks. Conditions: the statement's own, no more. Laid by wip/tools of this session. -/
import Derived.Test.YtinjmjgfhpojfaaRows
import Derived.Test.YtinjmjgfhpojfaaPAllx11
import Derived.Test.YtinjmjgfhpojfaaPureSagaAny
import Derived.Test.YtinjmjgfhpojfaaWOpn
import Derived.WalkKit
import Derived.ProofKit
import Derived.OpenShut
import Derived.ShutString
import Derived.ChangeOld
import Derived.Below
import Derived.SizedLaws
import Derived.Lib.SmallJoins
namespace Go.Proofs.Ytinjmjgfhpojfaa.sagaAny
open Go.ChangeShapes Go.WideShapes Go.ChangeAt Go.RowKit Go.Joins
open Go.ChangeMaps (open_string shut_string)
open Go.Proofs.Ytinjmjgfhpojfaa.PAll Go.Proofs.YtinjmjgfhpojfaaW Go.Proofs.YtinjmjgfhpojfaaW.Opn Go.Proofs.YtinjmjgfhpojfaaW.PrintWords
theorem own : ownKnob Try.prog.godebug = none := by kernel_rfl
theorem laidOut : laidOutB Try.prog = true := by kernel_rfl
theorem opnS25 (W : World) : Opn Try.prog W 25 k25 okS25 :=
  opn_iso (fun p => (⟨p.1, p.2.1, p.2.2.1, p.2.2.2.1, p.2.2.2.2.1, p.2.2.2.2.2.1, p.2.2.2.2.2.2⟩ : S25)) (fun _ => rfl) (opn_struct Try.underlying25 rfl (by kernel_rfl) (fl_cons rfl (by kernel_rfl) (opn_int Try.underlying3) (fl_cons rfl (by kernel_rfl) (opn_int Try.underlying23) (fl_cons rfl (by kernel_rfl) (opn_int Try.underlying3) (fl_cons rfl (by kernel_rfl) (opn_int Try.underlying3) (fl_cons rfl (by kernel_rfl) (opn_int Try.underlying3) (fl_cons rfl (by kernel_rfl) (opn_int Try.underlying3) (fl_one rfl (by kernel_rfl) (opn_int Try.underlying3)))))))))
theorem opnS30 (W : World) : Opn Try.prog W 30 k30 okS30 :=
  opn_iso (fun p => (⟨p.1, p.2.1, p.2.2.1, p.2.2.2.1, p.2.2.2.2⟩ : S30)) (fun _ => rfl) (opn_struct Try.underlying30 rfl (by kernel_rfl) (fl_cons rfl (by kernel_rfl) (opnS25 W) (fl_cons rfl (by kernel_rfl) (opn_int Try.underlying27) (fl_cons rfl (by kernel_rfl) (opn_int Try.underlying3) (fl_cons rfl (by kernel_rfl) (opn_int Try.underlying3) (fl_one rfl (by kernel_rfl) (opn_int Try.underlying28)))))))
set_option maxRecDepth 100000 in
theorem lifted (os : Os) (started : os.Started) (H : Type) (enc : TypeId × Value → H) :
    ReturnsInHanded {} Try.checked os 5 .any (Rows.sagaAnySpec.pre6 enc Try.prog Try.f5 Rows.sagaAnyRow.domain false) (Rows.sagaAnySpec.post enc Try.prog Try.f5 false true false false) := by
  refine returnsInHanded_of_change_sized (C := Try.checked) own started (by kernel_rfl) Try.func5
    (ChangeSpec.witness6 (enc := enc) (C := Try.checked) false ⟨#[], #[.agg #[.int .i64 0, .int .i64 0, .int .i64 0, .int .i64 0, .int .i64 0, .int .i64 0, .int .i64 0, .int .i64 0, .int .i64 0, .int .i64 0, .int .i64 0], .bool false, .int .i8 0], []⟩ 8 (by kernel_rfl) (by kernel_rfl) (by kernel_rfl) (by kernel_rfl)) ?_
  intro W base args ds gs before hval0 hW hcnd hsz0 _
  have hsz : (DataW.weightsEach Try.prog (Try.f5.params.toList ++ Rows.sagaAnySpec.plain.varTypes Try.prog) (ds ++ gs)).all (· ≤ reachBytes) = true := hsz0
  have hval : ∀ (j : Nat) t v, Try.f5.params[j]? = some t → args[j]? = some v → Value.okWide Try.prog W .any base t v := hval0
  have hW' := hW
  obtain ⟨p, q, hA0, hV, rfl, hfz, hnd⟩ := hW
  have hA : DataW.TrodAll enc Try.prog W 0 (fun _ => true) true Try.f5.params.toList args.toList ds p := hA0
  rw [Try.params5] at hA hval hsz
  obtain ⟨v0, vs0, d0, ds0, p0, q0, hargs, rfl, rfl, h0, r0⟩ := trodAll_cons hA
  obtain ⟨v1, vs1, d1, ds1, p1, q1, rfl, rfl, rfl, h1, r1⟩ := trodAll_cons r0
  obtain ⟨v2, vs2, d2, ds2, p2, q2, rfl, rfl, rfl, h2, r2⟩ := trodAll_cons r1
  obtain ⟨rfl, rfl, rfl⟩ := trodAll_nil r2
  obtain rfl : args = #[v0, v1, v2] := by cases args; simp_all
  obtain ⟨rfl, rfl⟩ := trodVars_none hV
  obtain ⟨cs0, rfl, _⟩ := okWide_struct Try.underlying30 (hval 0 30 v0 rfl rfl)
  have k0 := h0
  have lt0 : ∀ x ∈ p0, x.block < W.heap.size := by obtain ⟨m, hm⟩ := k0; exact DataW.trod_lt m _ _ _ hm
  obtain ⟨y0, hy0, ok0⟩ : ∃ y_ : S30, k30.K W y_ cs0.toList ∧ (okS30 y_) := by
    obtain ⟨fuel, hf⟩ := h0
    exact (opnS30 W) H enc fuel _ _ hf (fun n_ hn_ => by simpa using List.all_eq_true.1 hsz n_ (DataW.weights_mem_each (j := 0) (t := 30) rfl rfl n_ hn_))
  obtain rfl : cs0 = #[.int .i64 y0.f0.f0, .int .i64 y0.f0.f1, .int .i64 y0.f0.f2, .int .i64 y0.f0.f3, .int .i64 y0.f0.f4, .int .i64 y0.f0.f5, .int .i64 y0.f0.f6, .int .i64 y0.f1, .int .i64 y0.f2, .int .i64 y0.f3, .int .i64 y0.f4] := by have e0 := k30_open hy0; cases cs0; simp_all
  obtain ⟨a1, rfl, rfl, rfl⟩ := open_bool Try.underlying4 (hval 1 4 v1 rfl rfl) h1
  obtain ⟨a2, rfl, rfl, rfl, w2⟩ := open_int Try.underlying38 (hval 2 38 v2 rfl rfl) h2
  clear hA0 hval0 hsz0 hsz
  obtain ⟨k, h⟩ := Pure.SagaAny y0 a1 a2 ok0 w2
  refine (hawalalaw14_SagaAny.calls (r := true) (w := W) (k := k) (h := h)).mono ?_
  rintro e W' ⟨he, bel0⟩
  have bel : Below W.heap.size W W' := bel0
  subst he
  exact ⟨_, rfl, _, _, _, [], _, [], hW', trodAll_mk1 (shut_bool Try.underlying4 _), (trodAll_cons_mk (Below.trod laidOut (by kernel_rfl) (of_decide_eq_true (by kernel_rfl)) k0 bel lt0) (trodAll_cons_mk (shut_bool Try.underlying4 _) (trodAll_cons_mk (shut_int Try.underlying38 w2) trodAll_mk0))), rfl, bel.frame _, fun h => by cases h⟩
theorem over : Rows.sagaAnyRow.holds Try.pinned (OpenSpec.ofChange Rows.sagaAnySpec) :=
  OpenClaim.holds_of_wide 5 Try.f5 rfl rfl rfl rfl rfl rfl rfl ⟨rfl, rfl, rfl, rfl, rfl⟩ rfl rfl rfl rfl rfl (by kernel_rfl) Try.func5 (by kernel_rfl)
    (of_decide_eq_true (by kernel_rfl)) (by unfold Func.isWrapper; first | (rw [if_pos (by decide +kernel)]; kernel_rfl) | (rw [if_neg (by decide +kernel)]; exact ⟨rfl, rfl⟩))
    (fun os started H enc _ => lifted os started H enc)
theorem proved : Rows.SagaAnySaid := over
#print axioms proved
end Go.Proofs.Ytinjmjgfhpojfaa.sagaAny
namespace Go.Proofs.Ytinjmjgfhpojfaa
/-- The row, under a short name, for the claim. -/
theorem sagaAny_holds : Rows.SagaAnySaid := sagaAny.proved
end Go.Proofs.Ytinjmjgfhpojfaa
