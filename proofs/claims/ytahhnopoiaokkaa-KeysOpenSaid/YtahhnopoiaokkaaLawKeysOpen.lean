/- Proved: the given statement KeysOpenSaid, out of its pure statement and the walks. Conditions: the statement's own, no more. Laid by wip/tools of this session. -/
import Derived.Test.YtahhnopoiaokkaaRows
import Derived.Test.YtahhnopoiaokkaaPAllx7
import Derived.Test.YtahhnopoiaokkaaPureKeysOpen
import Derived.Test.YtahhnopoiaokkaaWOpn
import Derived.WalkKit
import Derived.ProofKit
import Derived.OpenShut
import Derived.ShutString
import Derived.ChangeOld
import Derived.Below
import Derived.SizedLaws
import Derived.Lib.SmallJoins
namespace Go.Proofs.Ytahhnopoiaokkaa.keysOpen
open Go.ChangeShapes Go.WideShapes Go.ChangeAt Go.RowKit Go.Joins
open Go.ChangeMaps (open_string shut_string)
open Go.Proofs.Ytahhnopoiaokkaa.PAll Go.Proofs.YtahhnopoiaokkaaW Go.Proofs.YtahhnopoiaokkaaW.Opn Go.Proofs.YtahhnopoiaokkaaW.PrintWords
theorem own : ownKnob Try.prog.godebug = none := by kernel_rfl
theorem laidOut : laidOutB Try.prog = true := by kernel_rfl
theorem opnS27 (W : World) : Opn Try.prog W 27 k27 okS27 :=
  opn_iso (fun p => (⟨p.1, p.2.1, p.2.2.1, p.2.2.2.1, p.2.2.2.2.1, p.2.2.2.2.2.1, p.2.2.2.2.2.2⟩ : S27)) (fun _ => rfl) (opn_struct Try.underlying27 rfl (by kernel_rfl) (fl_cons rfl (by kernel_rfl) (opn_int Try.underlying3) (fl_cons rfl (by kernel_rfl) (opn_int Try.underlying25) (fl_cons rfl (by kernel_rfl) (opn_int Try.underlying3) (fl_cons rfl (by kernel_rfl) (opn_int Try.underlying3) (fl_cons rfl (by kernel_rfl) (opn_int Try.underlying3) (fl_cons rfl (by kernel_rfl) (opn_int Try.underlying3) (fl_one rfl (by kernel_rfl) (opn_int Try.underlying3)))))))))
theorem opnS30 (W : World) : Opn Try.prog W 30 k30 okS30 :=
  opn_iso (fun p => (⟨p.1, p.2⟩ : S30)) (fun _ => rfl) (opn_struct Try.underlying30 rfl (by kernel_rfl) (fl_cons rfl (by kernel_rfl) (opn_int Try.underlying28) (fl_one rfl (by kernel_rfl) (opn_int Try.underlying3))))
theorem opnS32 (W : World) : Opn Try.prog W 32 k32 okS32 :=
  opn_iso (fun p => (⟨p.1, p.2.1, p.2.2⟩ : S32)) (fun _ => rfl) (opn_struct Try.underlying32 rfl (by kernel_rfl) (fl_cons rfl (by kernel_rfl) (opnS27 W) (fl_cons rfl (by kernel_rfl) (opnS30 W) (fl_one rfl (by kernel_rfl) (opn_bool Try.underlying4)))))
set_option maxRecDepth 100000 in
theorem lifted (os : Os) (started : os.Started) (H : Type) (enc : TypeId × Value → H) :
    ReturnsInHanded {} Try.checked os 3 .any (Rows.keysOpenSpec.pre6 enc Try.prog Try.f3 Rows.keysOpenRow.domain false) (Rows.keysOpenSpec.post enc Try.prog Try.f3 false true false false) := by
  refine returnsInHanded_of_change_sized (C := Try.checked) own started (by kernel_rfl) Try.func3
    (ChangeSpec.witness6 (enc := enc) (C := Try.checked) false ⟨#[], #[.slice none 0 0], []⟩ 8 (by kernel_rfl) (by kernel_rfl) (by kernel_rfl) (by kernel_rfl)) ?_
  intro W base args ds gs before hval0 hW hcnd hsz0 _
  have hsz : (DataW.weightsEach Try.prog (Try.f3.params.toList ++ Rows.keysOpenSpec.plain.varTypes Try.prog) (ds ++ gs)).all (· ≤ reachBytes) = true := hsz0
  have hval : ∀ (j : Nat) t v, Try.f3.params[j]? = some t → args[j]? = some v → Value.okWide Try.prog W .any base t v := hval0
  have hW' := hW
  obtain ⟨p, q, hA0, hV, rfl, hfz, hnd⟩ := hW
  have hA : DataW.TrodAll enc Try.prog W 0 (fun _ => true) true Try.f3.params.toList args.toList ds p := hA0
  rw [Try.params3] at hA hval hsz
  obtain ⟨v0, vs0, d0, ds0, p0, q0, hargs, rfl, rfl, h0, r0⟩ := trodAll_cons hA
  obtain ⟨rfl, rfl, rfl⟩ := trodAll_nil r0
  obtain rfl : args = #[v0] := by cases args; simp_all
  obtain ⟨rfl, rfl⟩ := trodVars_none hV
  obtain ⟨a0, len0, cap0, rfl⟩ := okWide_slice Try.underlying22 (hval 0 22 v0 rfl rfl)
  have k0 := h0
  have lt0 : ∀ x ∈ p0, x.block < W.heap.size := by obtain ⟨m, hm⟩ := k0; exact DataW.trod_lt m _ _ _ hm
  obtain ⟨l0, hy0, ok0⟩ : ∃ y_ : List (S32), (Kd.slice 32 k32).K W y_ [.slice a0 len0 cap0] ∧ ((y_.length ≤ maxLen ∧ y_.length * 80 ≤ 140737488351232 ∧ ∀ x_ ∈ y_, okS32 x_)) := by
    obtain ⟨fuel, hf⟩ := h0
    exact (opn_slice (b := 80) Try.underlying22 (opnS32 W) (by kernel_rfl) (by kernel_rfl)) H enc fuel _ _ hf (fun n_ hn_ => by simpa using List.all_eq_true.1 hsz n_ (DataW.weights_mem_each (j := 0) (t := 22) rfl rfl n_ hn_))
  obtain ⟨A0, c0, e0, hl0, hC0⟩ := hy0
  obtain ⟨rfl, rfl, rfl⟩ : a0 = A0 ∧ len0 = l0.length ∧ cap0 = c0 := by simpa using e0
  clear hA0 hval0 hsz0 hsz
  obtain ⟨k, h⟩ := Pure.KeysOpen l0 ok0
  refine (hawalalaw11_KeysOpen.calls (r := true) (w := W) (k := k) (hr0 := hC0) (hc0 := hl0) (h := h)).mono ?_
  rintro e W' ⟨he, bel0⟩
  have bel : Below W.heap.size W W' := bel0
  subst he
  exact ⟨_, rfl, _, _, _, [], _, [], hW', trodAll_mk1 (shut_bool Try.underlying4 _), (trodAll_cons_mk (Below.trod laidOut (by kernel_rfl) (of_decide_eq_true (by kernel_rfl)) k0 bel lt0) trodAll_mk0), rfl, bel.frame _, fun h => by cases h⟩
theorem over : Rows.keysOpenRow.holds Try.pinned (OpenSpec.ofChange Rows.keysOpenSpec) :=
  OpenClaim.holds_of_wide 3 Try.f3 rfl rfl rfl rfl rfl rfl rfl ⟨rfl, rfl, rfl, rfl, rfl⟩ rfl rfl rfl rfl rfl (by kernel_rfl) Try.func3 (by kernel_rfl)
    (of_decide_eq_true (by kernel_rfl)) (by unfold Func.isWrapper; first | (rw [if_pos (by decide +kernel)]; kernel_rfl) | (rw [if_neg (by decide +kernel)]; exact ⟨rfl, rfl⟩))
    (fun os started H enc _ => lifted os started H enc)
theorem proved : Rows.KeysOpenSaid := over
#print axioms proved
end Go.Proofs.Ytahhnopoiaokkaa.keysOpen
namespace Go.Proofs.Ytahhnopoiaokkaa
/-- The row, under a short name, for the claim. -/
theorem keysOpen_holds : Rows.KeysOpenSaid := keysOpen.proved
end Go.Proofs.Ytahhnopoiaokkaa
