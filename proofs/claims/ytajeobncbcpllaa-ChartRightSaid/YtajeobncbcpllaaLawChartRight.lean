/- Proved: the given statement ChartRightSaid, out of its pure statement and the walks. Conditions: the statement's own, no more. Laid by wip/tools of this session. -/
import Derived.Test.YtajeobncbcpllaaRows
import Derived.Test.YtajeobncbcpllaaPAllx7
import Derived.Test.YtajeobncbcpllaaPureChartRight
import Derived.Test.YtajeobncbcpllaaWOpn
import Derived.WalkKit
import Derived.ProofKit
import Derived.OpenShut
import Derived.ShutString
import Derived.ChangeOld
import Derived.Below
import Derived.SizedLaws
import Derived.Lib.SmallJoins
namespace Go.Proofs.Ytajeobncbcpllaa.chartRight
open Go.ChangeShapes Go.WideShapes Go.ChangeAt Go.RowKit Go.Joins
open Go.ChangeMaps (open_string shut_string)
open Go.Proofs.Ytajeobncbcpllaa.PAll Go.Proofs.YtajeobncbcpllaaW.Opn Go.Proofs.YtajeobncbcpllaaW.PrintWords
theorem own : ownKnob Try.prog.godebug = none := by kernel_rfl
theorem laidOut : laidOutB Try.prog = true := by kernel_rfl
theorem opnS25 (W : World) : Opn Try.prog W 25 k25 okS25 :=
  opn_iso (fun p => (⟨p.1, p.2.1, p.2.2⟩ : S25)) (fun _ => rfl) (opn_struct Try.underlying25 rfl (by kernel_rfl) (fl_cons rfl (by kernel_rfl) (opn_slice (b := 1) Try.underlying22 (opn_int Try.underlying5) (by kernel_rfl) (by kernel_rfl)) (fl_cons rfl (by kernel_rfl) (opn_slice (b := 4) Try.underlying23 (opn_int Try.underlying48) (by kernel_rfl) (by kernel_rfl)) (fl_one rfl (by kernel_rfl) (opn_slice (b := 1) Try.underlying22 (opn_int Try.underlying5) (by kernel_rfl) (by kernel_rfl))))))
theorem opnS27 (W : World) : Opn Try.prog W 27 k27 okS27 :=
  opn_iso (fun p => (⟨p.1, p.2.1, p.2.2⟩ : S27)) (fun _ => rfl) (opn_struct Try.underlying27 rfl (by kernel_rfl) (fl_cons rfl (by kernel_rfl) (opn_int Try.underlying3) (fl_cons rfl (by kernel_rfl) (opn_int Try.underlying3) (fl_one rfl (by kernel_rfl) (opn_int Try.underlying3)))))
set_option maxRecDepth 100000 in
theorem lifted (os : Os) (started : os.Started) (H : Type) (enc : TypeId × Value → H) :
    ReturnsInHanded {} Try.checked os 3 .any (Rows.chartRightSpec.pre6 enc Try.prog Try.f3 Rows.chartRightRow.domain false) (Rows.chartRightSpec.post enc Try.prog Try.f3 false true false false) := by
  refine returnsInHanded_of_change_sized (C := Try.checked) own started (by kernel_rfl) Try.func3
    (ChangeSpec.witness6 (enc := enc) (C := Try.checked) false ⟨#[], #[.agg #[.slice none 0 0, .slice none 0 0, .slice none 0 0], .int .u8 0, .agg #[.int .i64 0, .int .i64 0, .int .i64 0], .slice none 0 0], []⟩ 8 (by kernel_rfl) (by kernel_rfl) (by kernel_rfl) (by kernel_rfl)) ?_
  intro W base args ds gs before hval0 hW hcnd hsz0 _
  have hsz : (DataW.weightsEach Try.prog (Try.f3.params.toList ++ Rows.chartRightSpec.plain.varTypes Try.prog) (ds ++ gs)).all (· ≤ reachBytes) = true := hsz0
  have hval : ∀ (j : Nat) t v, Try.f3.params[j]? = some t → args[j]? = some v → Value.okWide Try.prog W .any base t v := hval0
  have hW' := hW
  obtain ⟨p, q, hA0, hV, rfl, hfz, hnd⟩ := hW
  have hA : DataW.TrodAll enc Try.prog W 0 (fun _ => true) true Try.f3.params.toList args.toList ds p := hA0
  rw [Try.params3] at hA hval hsz
  obtain ⟨v0, vs0, d0, ds0, p0, q0, hargs, rfl, rfl, h0, r0⟩ := trodAll_cons hA
  obtain ⟨v1, vs1, d1, ds1, p1, q1, rfl, rfl, rfl, h1, r1⟩ := trodAll_cons r0
  obtain ⟨v2, vs2, d2, ds2, p2, q2, rfl, rfl, rfl, h2, r2⟩ := trodAll_cons r1
  obtain ⟨v3, vs3, d3, ds3, p3, q3, rfl, rfl, rfl, h3, r3⟩ := trodAll_cons r2
  obtain ⟨rfl, rfl, rfl⟩ := trodAll_nil r3
  obtain rfl : args = #[v0, v1, v2, v3] := by cases args; simp_all
  obtain ⟨rfl, rfl⟩ := trodVars_none hV
  obtain ⟨cs0, rfl, _⟩ := okWide_struct Try.underlying25 (hval 0 25 v0 rfl rfl)
  have k0 := h0
  have lt0 : ∀ x ∈ p0, x.block < W.heap.size := by obtain ⟨m, hm⟩ := k0; exact DataW.trod_lt m _ _ _ hm
  obtain ⟨y0, hy0, ok0⟩ : ∃ y_ : S25, k25.K W y_ cs0.toList ∧ (okS25 y_) := by
    obtain ⟨fuel, hf⟩ := h0
    exact (opnS25 W) H enc fuel _ _ hf (fun n_ hn_ => by simpa using List.all_eq_true.1 hsz n_ (DataW.weights_mem_each (j := 0) (t := 25) rfl rfl n_ hn_))
  obtain ⟨A0_0, c0_0, A0_1, c0_1, A0_2, c0_2, e0, hl0_0, hC0_0, hl0_1, hC0_1, hl0_2, hC0_2⟩ := k25_open hy0
  obtain rfl : cs0 = #[.slice A0_0 y0.f0.length c0_0, .slice A0_1 y0.f1.length c0_1, .slice A0_2 y0.f2.length c0_2] := by cases cs0; simp_all
  obtain ⟨a1, rfl, rfl, rfl, w1⟩ := open_int Try.underlying5 (hval 1 5 v1 rfl rfl) h1
  obtain ⟨cs2, rfl, _⟩ := okWide_struct Try.underlying27 (hval 2 27 v2 rfl rfl)
  have k2 := h2
  have lt2 : ∀ x ∈ p2, x.block < W.heap.size := by obtain ⟨m, hm⟩ := k2; exact DataW.trod_lt m _ _ _ hm
  obtain ⟨y2, hy2, ok2⟩ : ∃ y_ : S27, k27.K W y_ cs2.toList ∧ (okS27 y_) := by
    obtain ⟨fuel, hf⟩ := h2
    exact (opnS27 W) H enc fuel _ _ hf (fun n_ hn_ => by simpa using List.all_eq_true.1 hsz n_ (DataW.weights_mem_each (j := 2) (t := 27) rfl rfl n_ hn_))
  obtain rfl : cs2 = #[.int .i64 y2.f0, .int .i64 y2.f1, .int .i64 y2.f2] := by have e2 := k27_open hy2; cases cs2; simp_all
  obtain ⟨a3, len3, cap3, rfl⟩ := okWide_slice Try.underlying28 (hval 3 28 v3 rfl rfl)
  have k3 := h3
  have lt3 : ∀ x ∈ p3, x.block < W.heap.size := by obtain ⟨m, hm⟩ := k3; exact DataW.trod_lt m _ _ _ hm
  obtain ⟨l3, hy3, ok3⟩ : ∃ y_ : List (S27), (Kd.slice 27 k27).K W y_ [.slice a3 len3 cap3] ∧ ((y_.length ≤ maxLen ∧ y_.length * 24 ≤ 140737488351232 ∧ ∀ x_ ∈ y_, okS27 x_)) := by
    obtain ⟨fuel, hf⟩ := h3
    exact (opn_slice (b := 24) Try.underlying28 (opnS27 W) (by kernel_rfl) (by kernel_rfl)) H enc fuel _ _ hf (fun n_ hn_ => by simpa using List.all_eq_true.1 hsz n_ (DataW.weights_mem_each (j := 3) (t := 28) rfl rfl n_ hn_))
  obtain ⟨A3, c3, e3, hl3, hC3⟩ := hy3
  obtain ⟨rfl, rfl, rfl⟩ : a3 = A3 ∧ len3 = l3.length ∧ cap3 = c3 := by simpa using e3
  clear hA0 hval0 hsz0 hsz
  obtain ⟨k, h⟩ := Pure.ChartRight y0 a1 y2 l3 ok0 w1 ok2 ok3
  refine (hawalalaw07_ChartRight.calls (r := true) (w := W) (k := k) (hr0_0 := hC0_0) (hc0_0 := hl0_0) (hr0_1 := hC0_1) (hc0_1 := hl0_1) (hr0_2 := hC0_2) (hc0_2 := hl0_2) (hr3 := hC3) (hc3 := hl3) (h := h)).mono ?_
  rintro e W' ⟨he, bel0⟩
  have bel : Below W.heap.size W W' := bel0
  subst he
  exact ⟨_, rfl, _, _, _, [], _, [], hW', trodAll_mk1 (shut_bool Try.underlying4 _), (trodAll_cons_mk (Below.trod laidOut (by kernel_rfl) (of_decide_eq_true (by kernel_rfl)) k0 bel lt0) (trodAll_cons_mk (shut_int Try.underlying5 w1) (trodAll_cons_mk (Below.trod laidOut (by kernel_rfl) (of_decide_eq_true (by kernel_rfl)) k2 bel lt2) (trodAll_cons_mk (Below.trod laidOut (by kernel_rfl) (of_decide_eq_true (by kernel_rfl)) k3 bel lt3) trodAll_mk0)))), rfl, bel.frame _, fun h => by cases h⟩
theorem over : Rows.chartRightRow.holds Try.pinned (OpenSpec.ofChange Rows.chartRightSpec) :=
  OpenClaim.holds_of_wide 3 Try.f3 rfl rfl rfl rfl rfl rfl rfl ⟨rfl, rfl, rfl, rfl, rfl⟩ rfl rfl rfl rfl rfl (by kernel_rfl) Try.func3 (by kernel_rfl)
    (of_decide_eq_true (by kernel_rfl)) (by unfold Func.isWrapper; first | (rw [if_pos (by decide +kernel)]; kernel_rfl) | (rw [if_neg (by decide +kernel)]; exact ⟨rfl, rfl⟩))
    (fun os started H enc _ => lifted os started H enc)
theorem proved : Rows.ChartRightSaid := over
#print axioms proved
end Go.Proofs.Ytajeobncbcpllaa.chartRight
namespace Go.Proofs.Ytajeobncbcpllaa
/-- The row, under a short name, for the claim. -/
theorem chartRight_holds : Rows.ChartRightSaid := chartRight.proved
end Go.Proofs.Ytajeobncbcpllaa
