/- Proved: the given statement ChartLimitSaid, out of its pure statement and the walks. Conditions: the statement's own, no more. Laid by wip/tools of this session. -/
import Derived.Test.YtajeobncbcpllaaRows
import Derived.Test.YtajeobncbcpllaaPAllx8
import Derived.Test.YtajeobncbcpllaaPureChartLimit
import Derived.Test.YtajeobncbcpllaaWOpn
import Derived.WalkKit
import Derived.ProofKit
import Derived.OpenShut
import Derived.ShutString
import Derived.ChangeOld
import Derived.Below
import Derived.SizedLaws
import Derived.Lib.SmallJoins
namespace Go.Proofs.Ytajeobncbcpllaa.chartLimit
open Go.ChangeShapes Go.WideShapes Go.ChangeAt Go.RowKit Go.Joins
open Go.ChangeMaps (open_string shut_string)
open Go.Proofs.Ytajeobncbcpllaa.PAll Go.Proofs.YtajeobncbcpllaaW.Opn Go.Proofs.YtajeobncbcpllaaW.PrintWords
theorem own : ownKnob Try.prog.godebug = none := by kernel_rfl
theorem laidOut : laidOutB Try.prog = true := by kernel_rfl
theorem opnS25 (W : World) : Opn Try.prog W 25 k25 okS25 :=
  opn_iso (fun p => (⟨p.1, p.2.1, p.2.2⟩ : S25)) (fun _ => rfl) (opn_struct Try.underlying25 rfl (by kernel_rfl) (fl_cons rfl (by kernel_rfl) (opn_slice (b := 1) Try.underlying22 (opn_int Try.underlying5) (by kernel_rfl) (by kernel_rfl)) (fl_cons rfl (by kernel_rfl) (opn_slice (b := 4) Try.underlying23 (opn_int Try.underlying48) (by kernel_rfl) (by kernel_rfl)) (fl_one rfl (by kernel_rfl) (opn_slice (b := 1) Try.underlying22 (opn_int Try.underlying5) (by kernel_rfl) (by kernel_rfl))))))
set_option maxRecDepth 100000 in
theorem lifted (os : Os) (started : os.Started) (H : Type) (enc : TypeId × Value → H) :
    ReturnsInHanded {} Try.checked os 4 .any (Rows.chartLimitSpec.pre6 enc Try.prog Try.f4 Rows.chartLimitRow.domain false) (Rows.chartLimitSpec.post enc Try.prog Try.f4 false true false false) := by
  refine returnsInHanded_of_change_sized (C := Try.checked) own started (by kernel_rfl) Try.func4
    (ChangeSpec.witness6 (enc := enc) (C := Try.checked) false ⟨#[], #[.agg #[.slice none 0 0, .slice none 0 0, .slice none 0 0], .int .u8 0], []⟩ 8 (by kernel_rfl) (by kernel_rfl) (by kernel_rfl) (by kernel_rfl)) ?_
  intro W base args ds gs before hval0 hW hcnd hsz0 _
  have hsz : (DataW.weightsEach Try.prog (Try.f4.params.toList ++ Rows.chartLimitSpec.plain.varTypes Try.prog) (ds ++ gs)).all (· ≤ reachBytes) = true := hsz0
  have hval : ∀ (j : Nat) t v, Try.f4.params[j]? = some t → args[j]? = some v → Value.okWide Try.prog W .any base t v := hval0
  have hW' := hW
  obtain ⟨p, q, hA0, hV, rfl, hfz, hnd⟩ := hW
  have hA : DataW.TrodAll enc Try.prog W 0 (fun _ => true) true Try.f4.params.toList args.toList ds p := hA0
  rw [Try.params4] at hA hval hsz
  obtain ⟨v0, vs0, d0, ds0, p0, q0, hargs, rfl, rfl, h0, r0⟩ := trodAll_cons hA
  obtain ⟨v1, vs1, d1, ds1, p1, q1, rfl, rfl, rfl, h1, r1⟩ := trodAll_cons r0
  obtain ⟨rfl, rfl, rfl⟩ := trodAll_nil r1
  obtain rfl : args = #[v0, v1] := by cases args; simp_all
  obtain ⟨rfl, rfl⟩ := trodVars_none hV
  obtain ⟨cs0, rfl, _⟩ := okWide_struct Try.underlying25 (hval 0 25 v0 rfl rfl)
  have k0 := h0
  have lt0 : ∀ x ∈ p0, x.block < W.heap.size := by obtain ⟨m, hm⟩ := k0; exact DataW.trod_lt m _ _ _ hm
  obtain ⟨y0, hy0, ok0⟩ : ∃ y_ : S25, k25.K W y_ cs0.toList ∧ (okS25 y_) := by
    obtain ⟨fuel, hf⟩ := h0
    exact (opnS25 W) H enc fuel _ _ hf (fun n_ hn_ => by simpa using List.all_eq_true.1 hsz n_ (DataW.weights_mem_each (j := 0) (t := 25) rfl rfl n_ hn_))
  obtain ⟨A0_0, c0_0, A0_1, c0_1, A0_2, c0_2, e0, hl0_0, hC0_0, hl0_1, hC0_1, hl0_2, hC0_2⟩ := k25_open hy0
  obtain rfl : cs0 = #[.slice A0_0 y0.f0.length c0_0, .slice A0_1 y0.f1.length c0_1, .slice A0_2 y0.f2.length c0_2] := by cases cs0; simp_all
  obtain ⟨a1, rfl, rfl, rfl, w1⟩ := open_int Try.underlying5 (hval 1 5 v1 rfl rfl) h1
  clear hA0 hval0 hsz0 hsz
  obtain ⟨k, h⟩ := Pure.ChartLimit y0 a1 ok0 w1
  refine (hawalalaw07_ChartLimit.calls (r := true) (w := W) (k := k) (hr0_0 := hC0_0) (hc0_0 := hl0_0) (hr0_1 := hC0_1) (hc0_1 := hl0_1) (hr0_2 := hC0_2) (hc0_2 := hl0_2) (h := h)).mono ?_
  rintro e W' ⟨he, bel0⟩
  have bel : Below W.heap.size W W' := bel0
  subst he
  exact ⟨_, rfl, _, _, _, [], _, [], hW', trodAll_mk1 (shut_bool Try.underlying4 _), (trodAll_cons_mk (Below.trod laidOut (by kernel_rfl) (of_decide_eq_true (by kernel_rfl)) k0 bel lt0) (trodAll_cons_mk (shut_int Try.underlying5 w1) trodAll_mk0)), rfl, bel.frame _, fun h => by cases h⟩
theorem over : Rows.chartLimitRow.holds Try.pinned (OpenSpec.ofChange Rows.chartLimitSpec) :=
  OpenClaim.holds_of_wide 4 Try.f4 rfl rfl rfl rfl rfl rfl rfl ⟨rfl, rfl, rfl, rfl, rfl⟩ rfl rfl rfl rfl rfl (by kernel_rfl) Try.func4 (by kernel_rfl)
    (of_decide_eq_true (by kernel_rfl)) (by unfold Func.isWrapper; first | (rw [if_pos (by decide +kernel)]; kernel_rfl) | (rw [if_neg (by decide +kernel)]; exact ⟨rfl, rfl⟩))
    (fun os started H enc _ => lifted os started H enc)
theorem proved : Rows.ChartLimitSaid := over
#print axioms proved
end Go.Proofs.Ytajeobncbcpllaa.chartLimit
namespace Go.Proofs.Ytajeobncbcpllaa
/-- The row, under a short name, for the claim. -/
theorem chartLimit_holds : Rows.ChartLimitSaid := chartLimit.proved
end Go.Proofs.Ytajeobncbcpllaa
