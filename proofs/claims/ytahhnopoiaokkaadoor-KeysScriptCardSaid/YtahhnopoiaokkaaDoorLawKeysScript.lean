/- Proved: the given statement KeysScript, out of its pure law and the engine's soundness. Conditions: the statement's own, no more. -/
import Derived.Test.YtahhnopoiaokkaaDoorRows
import Derived.Test.YtahhnopoiaokkaaDoorPKey
import Derived.Test.YtahhnopoiaokkaaDoorWLaid
import Derived.Test.YtahhnopoiaokkaaDoorTie
import Derived.Test.YtahhnopoiaokkaaDoorCards
import Derived.SevenTiedAt
import Derived.WalkKit
import Derived.ProofKit
import Derived.OpenShut
import Derived.ShutString
import Derived.ChangeOld
import Derived.Below
import Derived.SizedLaws
import Derived.Lib.SmallJoins
namespace Go.Proofs.YtahhnopoiaokkaaDoor.keysScript
open Go.ChangeShapes Go.WideShapes Go.ChangeAt Go.RowKit Go.Joins Go.Eng
open Go.ChangeMaps (open_string shut_string)
open Go.Proofs.YtahhnopoiaokkaaDoorW
theorem own : ownKnob Tryd.prog.godebug = none := by kernel_rfl
theorem laidOut : laidOutB Tryd.prog = true := by kernel_rfl
set_option maxRecDepth 100000 in
theorem lifted (os : Os) (started : os.Started) (H : Type) (enc : TypeId × Value → H) :
    ReturnsInHanded {} Tryd.checked os 3 .any (fun w args => (Rows.keysScriptSpec.pre enc Tryd.prog Tryd.f3 [] false w args ∧ laidMetH Tryd.prog [("errors.errorType", Rows.laid_errors_errorType)] w) ∧ sizedMet enc Tryd.prog Tryd.f3 (OpenSpec.ofChange Rows.keysScriptSpec) false w args) (Rows.keysScriptSpec.post enc Tryd.prog Tryd.f3 false true false false) := by
  refine returnsInHanded_of_change_and (C := Tryd.checked) (X := fun w _ => laidMetH Tryd.prog [("errors.errorType", Rows.laid_errors_errorType)] w) (fun _ _ _ hh h => h.of_heap hh) own started (by kernel_rfl) Tryd.func3
    (ChangeSpec.witness_at (enc := enc) (C := Tryd.checked) (os := os) (X := fun w _ => laidMetH Tryd.prog [("errors.errorType", Rows.laid_errors_errorType)] w) false (Laid.laidWorld os) #[.slice none 0 0] 8 rfl (by kernel_rfl) (by kernel_rfl) (by kernel_rfl) (by kernel_rfl) (by kernel_rfl) (Laid.laidWorld_met os _)) ?_
  intro W base args ds gs before hval0 hW hcnd hsz0 hL _
  have hg : As.GH W := Laid.handle_of_laid hL
  have hsz : (DataW.weightsEach Tryd.prog (Tryd.f3.params.toList ++ Rows.keysScriptSpec.plain.varTypes Tryd.prog) (ds ++ gs)).all (· ≤ reachBytes) = true := hsz0
  have hval : ∀ (j : Nat) t v, Tryd.f3.params[j]? = some t → args[j]? = some v → Value.okWide Tryd.prog W .any base t v := hval0
  have hW' := hW
  obtain ⟨p, q, hA0, hV, rfl, hfz, hnd⟩ := hW
  have hA : DataW.TrodAll enc Tryd.prog W 0 (fun _ => true) true Tryd.f3.params.toList args.toList ds p := hA0
  rw [Tryd.params3] at hA hval hsz
  obtain ⟨v0, vs0, d0, ds0, p0, q0, hargs, rfl, rfl, h0, r0⟩ := trodAll_cons hA
  obtain ⟨rfl, rfl, rfl⟩ := trodAll_nil r0
  obtain rfl : args = #[v0] := by cases args; simp_all
  obtain ⟨rfl, rfl⟩ := trodVars_none hV
  obtain ⟨a0, len0, cap0, rfl⟩ := okWide_slice Tryd.underlying22 (hval 0 22 v0 rfl rfl)
  have k0 := h0
  have lt0 : ∀ x ∈ p0, x.block < W.heap.size := by obtain ⟨m, hm⟩ := k0; exact DataW.trod_lt m _ _ _ hm
  obtain ⟨y0, hy0, ok0⟩ : ∃ y_ : ((.slice (.strct (.prod .bool (.prod (.strct (.prod (.int .u8) (.prod (.int .u8) (.prod (.int .u8) (.prod (.int .u8) (.prod (.int .u16) (.prod (.int .u8) (.int .u8)))))))) (.int .i8))))) : K).T, RepT Go.Eng.Key.A.te W (allB W) ((.slice (.strct (.prod .bool (.prod (.strct (.prod (.int .u8) (.prod (.int .u8) (.prod (.int .u8) (.prod (.int .u8) (.prod (.int .u16) (.prod (.int .u8) (.int .u8)))))))) (.int .i8))))) : K) y_ (Value.cells (.slice a0 len0 cap0)).toList ∧ ((y_ : List ((.strct (.prod .bool (.prod (.strct (.prod (.int .u8) (.prod (.int .u8) (.prod (.int .u8) (.prod (.int .u8) (.prod (.int .u16) (.prod (.int .u8) (.int .u8)))))))) (.int .i8)))) : K).T).length * 12 ≤ 140737488351232 ∧ ∀ x_ ∈ (y_ : List ((.strct (.prod .bool (.prod (.strct (.prod (.int .u8) (.prod (.int .u8) (.prod (.int .u8) (.prod (.int .u8) (.prod (.int .u16) (.prod (.int .u8) (.int .u8)))))))) (.int .i8)))) : K).T), (True) ∧ (((Lit.int .u8 ((x_).2.1).1).wf = true) ∧ ((Lit.int .u8 ((x_).2.1).2.1).wf = true) ∧ ((Lit.int .u8 ((x_).2.1).2.2.1).wf = true) ∧ ((Lit.int .u8 ((x_).2.1).2.2.2.1).wf = true) ∧ ((Lit.int .u16 ((x_).2.1).2.2.2.2.1).wf = true) ∧ ((Lit.int .u8 ((x_).2.1).2.2.2.2.2.1).wf = true) ∧ ((Lit.int .u8 ((x_).2.1).2.2.2.2.2.2).wf = true)) ∧ ((Lit.int .i8 (x_).2.2).wf = true)) := by
    obtain ⟨fuel, hf⟩ := h0
    exact (opnT_slice (b := 12) Tryd.underlying22 (opnT_struct Tryd.underlying30 rfl (by kernel_rfl) (flT_cons rfl (by kernel_rfl) (opnT_bool Tryd.underlying4) (flT_cons rfl (by kernel_rfl) (opnT_struct Tryd.underlying27 rfl (by kernel_rfl) (flT_cons rfl (by kernel_rfl) (opnT_int Tryd.underlying5) (flT_cons rfl (by kernel_rfl) (opnT_int Tryd.underlying5) (flT_cons rfl (by kernel_rfl) (opnT_int Tryd.underlying5) (flT_cons rfl (by kernel_rfl) (opnT_int Tryd.underlying5) (flT_cons rfl (by kernel_rfl) (opnT_int Tryd.underlying25) (flT_cons rfl (by kernel_rfl) (opnT_int Tryd.underlying5) (flT_one rfl (by kernel_rfl) (opnT_int Tryd.underlying5))))))))) (flT_one rfl (by kernel_rfl) (opnT_int Tryd.underlying28))))) (by kernel_rfl) (by decide) (by kernel_rfl)) H enc fuel _ _ hf (fun n_ hn_ => by simpa using List.all_eq_true.1 hsz n_ (DataW.weights_mem_each (j := 0) (t := 22) rfl rfl n_ hn_))
  clear hA0 hval0 hsz0 hsz
  obtain ⟨fuel_, hE_⟩ := Go.Eng.Key.KeysScript y0 (fun a h => wf_u8 (ok0.2 a h).2.1.1) (by have := ok0.1; omega)
  have h : Go.Eng.Key.CF fuel_ ⟨[(false, .bool)], []⟩ 3 [inj ((.slice (.strct (.prod .bool (.prod (.strct (.prod (.int .u8) (.prod (.int .u8) (.prod (.int .u8) (.prod (.int .u8) (.prod (.int .u16) (.prod (.int .u8) (.int .u8)))))))) (.int .i8))))) : K) y0] = some true := hE_ fuel_ (Nat.le_refl _)
  have hgw : ∀ (w : World) (Sb : Nat → Prop), Glob (GlOf W) Sb w → As.GH w := by
    intro w Sb hG
    have hg0 := hg
    unfold As.GH at hg0 ⊢
    cases hq : W.heap[0]? with
    | none => unfold World.cell? at hg0; simp only [hq] at hg0; cases hg0
    | some o =>
      rw [← hg0]
      exact World.cell?_of_block (a := ⟨0, 0, none⟩) ((hG 0 o (by unfold GlOf; rw [if_pos rfl]; exact hq)).2.trans hq.symm)
  have hX : SoundX Tryd.prog Go.Eng.Key.A.te (GlOf W) (XNum 13) := xnum_ok ⟨_, Tryd.func13, by kernel_rfl, by kernel_rfl⟩ fun w Sb e hG => by
    cases e with
    | none => exact As.number_nil w
    | some c => exact As.number_some c w (hgw w Sb hG)
  have hpl : ∀ z_ ∈ [inj ((.slice (.strct (.prod .bool (.prod (.strct (.prod (.int .u8) (.prod (.int .u8) (.prod (.int .u8) (.prod (.int .u8) (.prod (.int .u16) (.prod (.int .u8) (.int .u8)))))))) (.int .i8))))) : K) y0], (∀ k_ xs_, z_ = AV.val false [.mv k_ xs_] → False) ∧ (∀ k_ x_, z_ = AV.val false [.io k_ x_] → False) := by
    intro z_ ha
    simp only [List.mem_cons, List.not_mem_nil, or_false] at ha
    rcases ha with rfl
    · exact plain_inj _ _
  refine (law_calls (w := W) (vs := #[_]) (callF_ok (A := Go.Eng.Key.A) hX (by kernel_rfl) fuel_) h hpl (fun b o hb => by unfold GlOf at hb; split at hb; (rename_i e; subst e; exact hb); (cases hb)) ⟨repV_arg hy0 (fun h => by cases h) (fun _ => rfl), trivial⟩).mono ?_
  rintro e W' ⟨he, bel⟩
  subst he
  exact ⟨_, rfl, _, _, _, [], _, [], hW', trodAll_mk1 (shut_bool Tryd.underlying4 _), (trodAll_cons_mk (Below.trod laidOut (by kernel_rfl) (of_decide_eq_true (by kernel_rfl)) k0 bel lt0) trodAll_mk0), rfl, bel.frame _, fun h => by cases h⟩
theorem over : Rows.keysScriptRow.holds Tryd.pinned (OpenSpec.ofChange Rows.keysScriptSpec) :=
  OpenClaim.holds_of_wide 3 Tryd.f3 rfl rfl rfl rfl rfl rfl rfl ⟨rfl, rfl, rfl, rfl, rfl⟩ rfl rfl rfl rfl rfl (by kernel_rfl) Tryd.func3 (by kernel_rfl)
    (of_decide_eq_true (by kernel_rfl)) (by unfold Func.isWrapper; first | (rw [if_pos (by decide +kernel)]; kernel_rfl) | (rw [if_neg (by decide +kernel)]; exact ⟨rfl, rfl⟩))
    (fun os started H enc _ => lifted os started H enc)
set_option maxRecDepth 100000 in
theorem proved : Rows.KeysScriptCardSaid :=
  Claim7.holds_tied_plain_at .later [] [.handle] true (true, "b4e13d564cbb78bf8250b16bb9459665d5087270eef5140b023bfcfe099ee908") true
    over (fun _ h => by cases h) (by kernel_rfl) (fun _ h => by cases h) keysScript_row_tie rfl ⟨rfl, rfl⟩ (by kernel_rfl) rfl
    (fun f fn hf hfn => by
      obtain rfl : f = 3 := Option.some.inj ((show Tryd.prog.funcNamed "hawala/hawalalaw11.KeysScript" = some 3 by kernel_rfl).symm.trans hf) |>.symm
      obtain rfl : fn = Tryd.f3 := (Option.some.inj (Tryd.func3.symm.trans hfn)).symm
      exact ⟨by kernel_rfl, fun j t ht => by
        rw [Tryd.params3] at ht
        have hT : t ∈ [22] := by
          rw [List.getElem?_toArray] at ht
          exact List.mem_of_getElem? ht
        have hA : ∀ t ∈ [22], Tryd.prog.wantsStandIn t = false := by
          intro t ht
          simp only [List.mem_cons, List.not_mem_nil, or_false] at ht
          rcases ht with rfl
          · exact (show Tryd.prog.wantsStandIn 22 = false by kernel_rfl)
        exact hA t hT⟩)
    (by kernel_rfl)
#print axioms proved
end Go.Proofs.YtahhnopoiaokkaaDoor.keysScript
namespace Go.Proofs.YtahhnopoiaokkaaDoor
/-- Under a short name, for the claim. -/
theorem keysScript_holds : Rows.KeysScriptCardSaid := keysScript.proved
end Go.Proofs.YtahhnopoiaokkaaDoor
