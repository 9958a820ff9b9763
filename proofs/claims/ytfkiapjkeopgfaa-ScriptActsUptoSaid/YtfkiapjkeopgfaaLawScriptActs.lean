/- Proved: the given statement ScriptActs, out of its pure law and the engine's soundness. Conditions: the statement's own, no more. -/
import Derived.Test.YtfkiapjkeopgfaaRows
import Derived.Test.YtfkiapjkeopgfaaPSca
import Derived.Test.YtfkiapjkeopgfaaE31
import Derived.Deep.CondSized
import Derived.WalkKit
import Derived.ProofKit
import Derived.OpenShut
import Derived.ShutString
import Derived.ChangeOld
import Derived.Below
import Derived.SizedLaws
import Derived.Lib.SmallJoins
namespace Go.Proofs.Ytfkiapjkeopgfaa.scriptActs
open Go.ChangeShapes Go.WideShapes Go.ChangeAt Go.RowKit Go.Joins Go.Eng
open Go.ChangeMaps (open_string shut_string)
theorem own : ownKnob Try.prog.godebug = none := by kernel_rfl
theorem laidOut : laidOutB Try.prog = true := by kernel_rfl
theorem one_le {H : Type} (d : DataW H) : 1 ≤ Rows.uptoBulk d := by
  cases d with
  | lit l => cases l <;> simp [Rows.uptoBulk]
  | nil => simp [Rows.uptoBulk]
  | ptr d => simp [Rows.uptoBulk]
  | slice elems spare => simp [Rows.uptoBulk]
  | agg parts => simp [Rows.uptoBulk]
  | iface t d => simp [Rows.uptoBulk]
  | map entries => simp [Rows.uptoBulk]
  | held h => simp [Rows.uptoBulk]
theorem length_le {H : Type} (l : List (DataW H)) : l.length ≤ Rows.uptoBulkAll l := by
  induction l with
  | nil => simp [Rows.uptoBulkAll]
  | cons x r ih => have := one_le x; simp only [Rows.uptoBulkAll, List.length_cons]; omega
theorem slice_le {H : Type} (elems spare : List (DataW H)) : elems.length + spare.length + 1 ≤ Rows.uptoBulk (.slice elems spare) := by
  have h1 := length_le elems
  have h2 := length_le spare
  simp only [Rows.uptoBulk]
  omega
set_option maxRecDepth 100000 in
theorem lifted (os : Os) (started : os.Started) (H : Type) (enc : TypeId × Value → H) (F : Stop.Interp) :
    ReturnsInHanded {} Try.checked os 3 .any ((Rows.OpenSpec.upto Rows.scriptActsSpec).pre6 enc Try.prog Try.f3 Rows.scriptActsUptoRow.domain false) (((Rows.OpenSpec.upto Rows.scriptActsSpec).at F).post enc Try.prog Try.f3 false true false false) := by
  refine returnsInHanded_of_cond_sized (C := Try.checked) (s := (Rows.OpenSpec.upto Rows.scriptActsSpec)) (k := Rows.uptoSmall) rfl own started (by kernel_rfl) Try.func3
    (OpenSpec.witness (enc := enc) (C := Try.checked) (s := (Rows.OpenSpec.upto Rows.scriptActsSpec)) (k := Rows.uptoSmall) rfl false ⟨#[], #[.slice none 0 0], []⟩ 8 (by kernel_rfl) (by kernel_rfl) (by kernel_rfl)
      (x := ([.nil], [], [])) (by kernel_rfl) rfl (by kernel_rfl)) ?_
  intro W base args ds gs before hval0 hW hcnd hk hsz0 _
  have hsz : (DataW.weightsEach Try.prog (Try.f3.params.toList ++ Rows.scriptActsSpec.plain.varTypes Try.prog) (ds ++ gs)).all (· ≤ reachBytes) = true := hsz0
  have hval : ∀ (j : Nat) t v, Try.f3.params[j]? = some t → args[j]? = some v → Value.okWide Try.prog W .any base t v := hval0
  have hW' := hW
  obtain ⟨p, q, hA0, hV, rfl, hfz, hnd⟩ := hW
  have hA : DataW.TrodAll enc Try.prog W 0 (fun _ => true) true Try.f3.params.toList args.toList ds p := hA0
  rw [Try.params3] at hA hval hsz
  obtain ⟨v0, vs0, d0, ds0, p0, q0, hargs, rfl, rfl, h0, r0⟩ := trodAll_cons hA
  obtain ⟨rfl, rfl, rfl⟩ := trodAll_nil r0
  obtain rfl : args = #[v0] := by cases args; simp_all
  obtain ⟨rfl, rfl⟩ := trodVars_none hV
  obtain ⟨a0, len0, cap0, rfl⟩ := okWide_slice Try.underlying22 (hval 0 22 v0 rfl rfl)
  have k0 := h0
  have lt0 : ∀ x ∈ p0, x.block < W.heap.size := by obtain ⟨m, hm⟩ := k0; exact DataW.trod_lt m _ _ _ hm
  obtain ⟨y0, hy0, ok0⟩ : ∃ y_ : ((.slice (.int .u8)) : K).T, RepT Go.Eng.Sca.A.te W (allB W) ((.slice (.int .u8)) : K) y_ (Value.cells (.slice a0 len0 cap0)).toList ∧ ((y_ : List ((.int .u8) : K).T).length * 1 ≤ 140737488351232 ∧ ∀ x_ ∈ (y_ : List ((.int .u8) : K).T), (Lit.int .u8 x_).wf = true) := by
    obtain ⟨fuel, hf⟩ := h0
    exact (opnT_slice (b := 1) Try.underlying22 (opnT_int Try.underlying5) (by kernel_rfl) (by decide) (by kernel_rfl)) H enc fuel _ _ hf (fun n_ hn_ => by simpa using List.all_eq_true.1 hsz n_ (DataW.weights_mem_each (j := 0) (t := 22) rfl rfl n_ hn_))
  have ul0 : (y0 : List ((.int .u8) : K).T).length ≤ Rows.uptoBulk d0 := upto_len Rows.uptoBulk slice_le Try.underlying22 k0 hy0
  clear hA0 hval0 hsz0 hsz
  have hkb := of_decide_eq_true hk
  simp only [List.cons_append, List.nil_append, List.append_nil, Rows.uptoBulkAll] at hkb
  have up0 : (y0 : List ((.int .u8) : K).T).length ≤ 1048576 := by omega
  obtain ⟨fuel_, hE_⟩ := Go.Eng.Sca.ScriptActs y0 (Go.Eng.Sca.okB_of y0 ok0).1 up0
  have h : Go.Eng.Sca.CF fuel_ ⟨[(false, .bool)], []⟩ 3 [inj ((.slice (.int .u8)) : K) y0] = some true := hE_ fuel_ (Nat.le_refl _)
  have hX : SoundX Try.prog Go.Eng.Sca.A.te (fun _ => none) (fun _ _ _ => none) := fun sg f args rr hr => by cases hr
  have hpl : ∀ z_ ∈ [inj ((.slice (.int .u8)) : K) y0], (∀ k_ xs_, z_ = AV.val false [.mv k_ xs_] → False) ∧ (∀ k_ x_, z_ = AV.val false [.io k_ x_] → False) := by
    intro z_ ha
    simp only [List.mem_cons, List.not_mem_nil, or_false] at ha
    rcases ha with rfl
    · exact plain_inj _ _
  refine (law_calls (w := W) (vs := #[_]) (callF_ok (A := Go.Eng.Sca.A) hX (by kernel_rfl) fuel_) h hpl (fun b o hb => by cases hb) ⟨repV_arg hy0 (fun h => by cases h) (fun _ => rfl), trivial⟩).mono ?_
  rintro e W' ⟨he, bel⟩
  subst he
  exact ⟨_, rfl, _, _, _, [], _, [], hW', trodAll_mk1 (shut_bool Try.underlying4 _), (trodAll_cons_mk (Below.trod laidOut (by kernel_rfl) (of_decide_eq_true (by kernel_rfl)) k0 bel lt0) trodAll_mk0), rfl, bel.frame _, fun h => by cases h⟩
theorem over : Rows.scriptActsUptoRow.holds Try.pinned (Rows.OpenSpec.upto Rows.scriptActsSpec) :=
  OpenClaim.holds_of_cond 3 Try.f3 rfl rfl rfl rfl rfl rfl rfl ⟨rfl, rfl, rfl, rfl, rfl⟩ rfl rfl rfl rfl rfl (by kernel_rfl) Try.func3 (by kernel_rfl)
    (of_decide_eq_true (by kernel_rfl)) (by unfold Func.isWrapper; first | (rw [if_pos (by decide +kernel)]; kernel_rfl) | (rw [if_neg (by decide +kernel)]; exact ⟨rfl, rfl⟩))
    (fun os started H enc _ F => lifted os started H enc F)
theorem proved : Rows.ScriptActsUptoSaid := over
#print axioms proved
end Go.Proofs.Ytfkiapjkeopgfaa.scriptActs
namespace Go.Proofs.Ytfkiapjkeopgfaa
/-- Under a short name, for the claim. -/
theorem scriptActs_holds : Rows.ScriptActsUptoSaid := scriptActs.proved
end Go.Proofs.Ytfkiapjkeopgfaa
