/- Proved: the given statement EntryMove, out of its pure law and the engine's soundness. Conditions: the statement's own, no more. -/
import Derived.Test.YtckllbdddppbpaaDoorRows
import Derived.Test.YtckllbdddppbpaaDoorPEnm
import Derived.Test.YtckllbdddppbpaaDoorWLaid
import Derived.Test.YtckllbdddppbpaaDoorTie
import Derived.Test.YtckllbdddppbpaaDoorCards
import Derived.SevenTiedAt
import Derived.WalkKit
import Derived.ProofKit
import Derived.OpenShut
import Derived.ShutString
import Derived.ChangeOld
import Derived.Below
import Derived.SizedLaws
import Derived.Lib.SmallJoins
namespace Go.Proofs.YtckllbdddppbpaaDoor.entryMove
open Go.ChangeShapes Go.WideShapes Go.ChangeAt Go.RowKit Go.Joins Go.Eng
open Go.ChangeMaps (open_string shut_string)
open Go.Proofs.YtckllbdddppbpaaDoorW
theorem own : ownKnob Tryd.prog.godebug = none := by kernel_rfl
theorem laidOut : laidOutB Tryd.prog = true := by kernel_rfl
set_option maxRecDepth 100000 in
theorem lifted (os : Os) (started : os.Started) (H : Type) (enc : TypeId × Value → H) :
    ReturnsInHanded {} Tryd.checked os 3 .any (fun w args => (Rows.entryMoveSpec.pre enc Tryd.prog Tryd.f3 [] false w args ∧ laidMetH Tryd.prog [("errors.errorType", Rows.laid_errors_errorType)] w) ∧ sizedMet enc Tryd.prog Tryd.f3 (OpenSpec.ofChange Rows.entryMoveSpec) false w args) (Rows.entryMoveSpec.post enc Tryd.prog Tryd.f3 false true false false) := by
  refine returnsInHanded_of_change_and (C := Tryd.checked) (X := fun w _ => laidMetH Tryd.prog [("errors.errorType", Rows.laid_errors_errorType)] w) (fun _ _ _ hh h => h.of_heap hh) own started (by kernel_rfl) Tryd.func3
    (ChangeSpec.witness_at (enc := enc) (C := Tryd.checked) (os := os) (X := fun w _ => laidMetH Tryd.prog [("errors.errorType", Rows.laid_errors_errorType)] w) false (Laid.laidWorld os) #[.agg #[.slice none 0 0, .slice none 0 0, .slice none 0 0], .int .i8 0, .int .i8 0, .int .i64 0] 8 rfl (by kernel_rfl) (by kernel_rfl) (by kernel_rfl) (by kernel_rfl) (by kernel_rfl) (Laid.laidWorld_met os _)) ?_
  intro W base args ds gs before hval0 hW hcnd hsz0 hL _
  have hg : As.GH W := Laid.handle_of_laid hL
  have hsz : (DataW.weightsEach Tryd.prog (Tryd.f3.params.toList ++ Rows.entryMoveSpec.plain.varTypes Tryd.prog) (ds ++ gs)).all (· ≤ reachBytes) = true := hsz0
  have hval : ∀ (j : Nat) t v, Tryd.f3.params[j]? = some t → args[j]? = some v → Value.okWide Tryd.prog W .any base t v := hval0
  have hW' := hW
  obtain ⟨p, q, hA0, hV, rfl, hfz, hnd⟩ := hW
  have hA : DataW.TrodAll enc Tryd.prog W 0 (fun _ => true) true Tryd.f3.params.toList args.toList ds p := hA0
  rw [Tryd.params3] at hA hval hsz
  obtain ⟨v0, vs0, d0, ds0, p0, q0, hargs, rfl, rfl, h0, r0⟩ := trodAll_cons hA
  obtain ⟨v1, vs1, d1, ds1, p1, q1, rfl, rfl, rfl, h1, r1⟩ := trodAll_cons r0
  obtain ⟨v2, vs2, d2, ds2, p2, q2, rfl, rfl, rfl, h2, r2⟩ := trodAll_cons r1
  obtain ⟨v3, vs3, d3, ds3, p3, q3, rfl, rfl, rfl, h3, r3⟩ := trodAll_cons r2
  obtain ⟨rfl, rfl, rfl⟩ := trodAll_nil r3
  obtain rfl : args = #[v0, v1, v2, v3] := by cases args; simp_all
  obtain ⟨rfl, rfl⟩ := trodVars_none hV
  obtain ⟨cs0, rfl, _⟩ := okWide_struct Tryd.underlying25 (hval 0 25 v0 rfl rfl)
  have k0 := h0
  have lt0 : ∀ x ∈ p0, x.block < W.heap.size := by obtain ⟨m, hm⟩ := k0; exact DataW.trod_lt m _ _ _ hm
  obtain ⟨y0, hy0, ok0⟩ : ∃ y_ : ((.strct (.prod (.slice (.int .u8)) (.prod (.slice (.int .u32)) (.slice (.int .u8))))) : K).T, RepT Go.Eng.Enm.A.te W (allB W) ((.strct (.prod (.slice (.int .u8)) (.prod (.slice (.int .u32)) (.slice (.int .u8))))) : K) y_ (Value.cells (.agg cs0)).toList ∧ ((((y_).1 : List ((.int .u8) : K).T).length * 1 ≤ 140737488351232 ∧ ∀ x_ ∈ ((y_).1 : List ((.int .u8) : K).T), (Lit.int .u8 x_).wf = true) ∧ (((y_).2.1 : List ((.int .u32) : K).T).length * 4 ≤ 140737488351232 ∧ ∀ x_ ∈ ((y_).2.1 : List ((.int .u32) : K).T), (Lit.int .u32 x_).wf = true) ∧ (((y_).2.2 : List ((.int .u8) : K).T).length * 1 ≤ 140737488351232 ∧ ∀ x_ ∈ ((y_).2.2 : List ((.int .u8) : K).T), (Lit.int .u8 x_).wf = true)) := by
    obtain ⟨fuel, hf⟩ := h0
    exact (opnT_struct Tryd.underlying25 rfl (by kernel_rfl) (flT_cons rfl (by kernel_rfl) (opnT_slice (b := 1) Tryd.underlying22 (opnT_int Tryd.underlying5) (by kernel_rfl) (by decide) (by kernel_rfl)) (flT_cons rfl (by kernel_rfl) (opnT_slice (b := 4) Tryd.underlying23 (opnT_int Tryd.underlying46) (by kernel_rfl) (by decide) (by kernel_rfl)) (flT_one rfl (by kernel_rfl) (opnT_slice (b := 1) Tryd.underlying22 (opnT_int Tryd.underlying5) (by kernel_rfl) (by decide) (by kernel_rfl)))))) H enc fuel _ _ hf (fun n_ hn_ => by simpa using List.all_eq_true.1 hsz n_ (DataW.weights_mem_each (j := 0) (t := 25) rfl rfl n_ hn_))
  obtain ⟨y1, rfl, rfl, rfl, ok1⟩ := open_int Tryd.underlying26 (hval 1 26 v1 rfl rfl) h1
  obtain ⟨y2, rfl, rfl, rfl, ok2⟩ := open_int Tryd.underlying26 (hval 2 26 v2 rfl rfl) h2
  obtain ⟨y3, rfl, rfl, rfl, ok3⟩ := open_int Tryd.underlying3 (hval 3 3 v3 rfl rfl) h3
  clear hA0 hval0 hsz0 hsz
  obtain ⟨fuel_, hE_⟩ := Go.Eng.Enm.EntryMove y0 y1 y2 y3 (Go.Eng.Enm.okBook_of y0 ok0) (wf_i8 ok1) (wf_i8 ok2)
  have h : Go.Eng.Enm.CF fuel_ ⟨[(false, .bool)], []⟩ 3 [inj ((.strct (.prod (.slice (.int .u8)) (.prod (.slice (.int .u32)) (.slice (.int .u8))))) : K) y0, inj ((.int .i8) : K) y1, inj ((.int .i8) : K) y2, inj ((.int .i64) : K) y3] = some true := hE_ fuel_ (Nat.le_refl _)
  have hgw : ∀ (w : World) (Sb : Nat → Prop), Glob (GlOf W) Sb w → As.GH w := by
    intro w Sb hG
    have hg0 := hg
    unfold As.GH at hg0 ⊢
    cases hq : W.heap[0]? with
    | none => unfold World.cell? at hg0; simp only [hq] at hg0; cases hg0
    | some o =>
      rw [← hg0]
      exact World.cell?_of_block (a := ⟨0, 0, none⟩) ((hG 0 o (by unfold GlOf; rw [if_pos rfl]; exact hq)).2.trans hq.symm)
  have hX : SoundX Tryd.prog Go.Eng.Enm.A.te (GlOf W) (XNum 9) := xnum_ok ⟨_, Tryd.func9, by kernel_rfl, by kernel_rfl⟩ fun w Sb e hG => by
    cases e with
    | none => exact As.number_nil w
    | some c => exact As.number_some c w (hgw w Sb hG)
  have hpl : ∀ z_ ∈ [inj ((.strct (.prod (.slice (.int .u8)) (.prod (.slice (.int .u32)) (.slice (.int .u8))))) : K) y0, inj ((.int .i8) : K) y1, inj ((.int .i8) : K) y2, inj ((.int .i64) : K) y3], (∀ k_ xs_, z_ = AV.val false [.mv k_ xs_] → False) ∧ (∀ k_ x_, z_ = AV.val false [.io k_ x_] → False) := by
    intro z_ ha
    simp only [List.mem_cons, List.not_mem_nil, or_false] at ha
    rcases ha with rfl | rfl | rfl | rfl
    · exact plain_inj _ _
    · exact plain_inj _ _
    · exact plain_inj _ _
    · exact plain_inj _ _
  refine (law_calls (w := W) (vs := #[_, _, _, _]) (callF_ok (A := Go.Eng.Enm.A) hX (by kernel_rfl) fuel_) h hpl (fun b o hb => by unfold GlOf at hb; split at hb; (rename_i e; subst e; exact hb); (cases hb)) ⟨repV_arg hy0 (fun _ => ⟨_, rfl⟩) (fun h => by cases h), ⟨repV_one ⟨rfl, okI_wf ok1⟩, ⟨repV_one ⟨rfl, okI_wf ok2⟩, ⟨repV_one ⟨rfl, okI_wf ok3⟩, trivial⟩⟩⟩⟩).mono ?_
  rintro e W' ⟨he, bel⟩
  subst he
  exact ⟨_, rfl, _, _, _, [], _, [], hW', trodAll_mk1 (shut_bool Tryd.underlying4 _), (trodAll_cons_mk (Below.trod laidOut (by kernel_rfl) (of_decide_eq_true (by kernel_rfl)) k0 bel lt0) (trodAll_cons_mk (shut_int Tryd.underlying26 ok1) (trodAll_cons_mk (shut_int Tryd.underlying26 ok2) (trodAll_cons_mk (shut_int Tryd.underlying3 ok3) trodAll_mk0)))), rfl, bel.frame _, fun h => by cases h⟩
theorem over : Rows.entryMoveRow.holds Tryd.pinned (OpenSpec.ofChange Rows.entryMoveSpec) :=
  OpenClaim.holds_of_wide 3 Tryd.f3 rfl rfl rfl rfl rfl rfl rfl ⟨rfl, rfl, rfl, rfl, rfl⟩ rfl rfl rfl rfl rfl (by kernel_rfl) Tryd.func3 (by kernel_rfl)
    (of_decide_eq_true (by kernel_rfl)) (by unfold Func.isWrapper; first | (rw [if_pos (by decide +kernel)]; kernel_rfl) | (rw [if_neg (by decide +kernel)]; exact ⟨rfl, rfl⟩))
    (fun os started H enc _ => lifted os started H enc)
set_option maxRecDepth 100000 in
theorem proved : Rows.EntryMoveCardSaid :=
  Claim7.holds_tied_plain_at .later [] [.handle] true (true, "5a14f7cc9d1d600a40d1b6af337a9923317ac881041c68ef0c11301587516787") true
    over (fun _ h => by cases h) (by kernel_rfl) (fun _ h => by cases h) entryMove_row_tie rfl ⟨rfl, rfl⟩ (by kernel_rfl) rfl
    (fun f fn hf hfn => by
      obtain rfl : f = 3 := Option.some.inj ((show Tryd.prog.funcNamed "hawala/hawalalaw08.EntryMove" = some 3 by kernel_rfl).symm.trans hf) |>.symm
      obtain rfl : fn = Tryd.f3 := (Option.some.inj (Tryd.func3.symm.trans hfn)).symm
      exact ⟨by kernel_rfl, fun j t ht => by
        rw [Tryd.params3] at ht
        have hT : t ∈ [25, 26, 26, 3] := by
          rw [List.getElem?_toArray] at ht
          exact List.mem_of_getElem? ht
        have hA : ∀ t ∈ [25, 26, 26, 3], Tryd.prog.wantsStandIn t = false := by
          intro t ht
          simp only [List.mem_cons, List.not_mem_nil, or_false] at ht
          rcases ht with rfl | rfl | rfl | rfl
          · exact (show Tryd.prog.wantsStandIn 25 = false by kernel_rfl)
          · exact (show Tryd.prog.wantsStandIn 26 = false by kernel_rfl)
          · exact (show Tryd.prog.wantsStandIn 26 = false by kernel_rfl)
          · exact (show Tryd.prog.wantsStandIn 3 = false by kernel_rfl)
        exact hA t hT⟩)
    (by kernel_rfl)
#print axioms proved
end Go.Proofs.YtckllbdddppbpaaDoor.entryMove
namespace Go.Proofs.YtckllbdddppbpaaDoor
/-- Under a short name, for the claim. -/
theorem entryMove_holds : Rows.EntryMoveCardSaid := entryMove.proved
end Go.Proofs.YtckllbdddppbpaaDoor
