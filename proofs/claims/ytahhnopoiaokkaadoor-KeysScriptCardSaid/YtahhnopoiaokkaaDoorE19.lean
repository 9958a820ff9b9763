/- One operation that is no call. -/
import Derived.Test.YtahhnopoiaokkaaDoorE18
set_option linter.all false
set_option linter.unusedVariables false
set_option linter.unusedSimpArgs false
set_option linter.deprecated false
namespace Go.Eng
open Go.RowKit
theorem callOut_ne_ok {P : Program} {hp : Nat → Option Obj} {dst : Option Nat} {ty : TypeId} {own mvs : List Bool} {c b : Bool} {f : Nat} {ats : List TypeId} {args : List AV} {v : AV} {u : Upd} : callOut P hp dst ty own mvs c f ats args ≠ .ok b v u := by
  unfold callOut
  split
  · dsimp only
    cases (ownOk own _ && Nat.ble (anyOwn own) 1 && (Nat.beq (anyOwn own) 0 || (fresh hp dst).isSome) && exOk _ && _ && _) with
    | false => simp
    | true =>
      simp only [cond_true]
      split <;> simp
  · simp
section
variable {P : Program} {A : Ann} {fid : Nat} {w0 : World} {M : MS} {c : Cx} {ρ : Operand → AV} {r : Operand → Value} {hp : Nat → Option Obj} {o : Oper} {v : AV} {u : Upd}
theorem lr_map {α : Type} {c : Cx} {f : α → AV} {g : α → Value} (l : List α) (h : ∀ x, RepV c (f x) (g x)) : LR (RepV c) (l.map f) (l.map g) := by
  induction l with
  | nil => trivial
  | cons a r ih => exact ⟨h a, ih⟩
theorem core_builtin (hm : Mem w0 M c) (hh : ∀ id o, hp id = some o → c.hp id = some o) (hf : ∀ d, o.dst = some d → hp d = none → c.hp d = none) (hr : ∀ x, RepV c (ρ x) (r x)) {cc : Call} {b : Builtin} (ho : o.op = .call cc) (hb : cc.callee = .builtin b) (h : builtinS P hp o.dst b cc.argTypes.toList (cc.args.toList.map ρ) = .ok true v u) :
    StepOk w0 M c ((execOp r o).run P c.w) v u := by
  have hlr : LR (RepV c) (cc.args.toList.map ρ) (cc.args.map r).toList := by rw [Array.toList_map]; exact lr_map _ hr
  have e1 : (execOp r o).run P c.w = (builtin b cc.argTypes o.type (cc.args.map fun | .const _ => true | _ => false) (cc.args.map r)).run P c.w := by
    simp only [execOp, ho, resolve, hb]
    rw [run_pb]; rfl
  rw [e1]
  by_cases ha : b = .append
  · subst ha
    unfold builtinS at h
    simp only [] at h
    split at h
    · rename_i t t2 a1 a2 ht ht2 hargs
      split at h
      · rename_i s x hs hx
        have ht' : cc.argTypes[0]? = some t := by rw [← Array.getElem?_toList]; exact ht
        have ht2' : cc.argTypes[1]? = some t2 := by rw [← Array.getElem?_toList]; exact ht2
        rw [hargs] at hlr
        match hvs : (cc.args.map r).toList, hlr with
        | [v0, v1], hlr =>
          have a0 : (cc.args.map r)[0]? = some v0 := by rw [← Array.getElem?_toList, hvs]; rfl
          have a1 : (cc.args.map r)[1]? = some v1 := by rw [← Array.getElem?_toList, hvs]; rfl
          have r0 := slot1_rep hs hlr.1
          have r1 := slot1_rep hx hlr.2.1
          unfold builtin
          simp only []
          unfold appB at h
          have main : ∀ {e : TypeId}, elemT P t = some e → ((∃ q, P.underlying t2 = some (.slice q)) ∨ P.underlying t2 = some .string) → appendS P hp o.dst e s x = .ok true v u →
              StepOk w0 M c ((do pure (Next.value (← Builtin.append_ cc.argTypes o.type (cc.args.map r))) : Sem Next).run P c.w) v u := by
            intro e hel hu2 hz
            have hu := elemT_some hel
            unfold appendS at hz
            split at hz
            · split at hz
              · rename_i k d hk hfr
                obtain ⟨hd, hd2⟩ := fresh_some hfr
                cases hek : elemOk P e k with
                | false => rw [hek] at hz; cases hz
                | true =>
                  rw [hek] at hz
                  simp only [Bool.not_true, cond_false] at hz
                  split at hz
                  · rename_i ys hy
                    simp only [Out.ok.injEq, decide_eq_true_eq] at hz
                    obtain ⟨hlim, rfl, rfl⟩ := hz
                    have hn : v0 = .slice none 0 0 := r0
                    subst hn
                    exact append_nil hm hh (hf d hd hd2) ht' ht2' hu hu2 a0 a1 hek r1 hy hlim
                  · cases hz
              · cases hz
            · split at hz
              · rename_i id g x2 k xs gen hist hid
                cases hc : (Nat.beq g gen && decide (kd P e = some k) && elemOk P e k) with
                | false => rw [hc] at hz; cases hz
                | true =>
                  rw [hc] at hz
                  simp only [cond_true] at hz
                  simp only [Bool.and_eq_true] at hc
                  have hg := Nat.eq_of_beq_eq_true hc.1.1
                  subst hg
                  split at hz
                  · rename_i ys hy
                    simp only [Out.ok.injEq, decide_eq_true_eq] at hz
                    obtain ⟨hlim, rfl, rfl⟩ := hz
                    exact append_own hm hh ht' ht2' hu hu2 a0 a1 hc.2 (hh _ _ hid) r0 r1 hy hlim
                  · cases hz
              · cases hz
            · cases hz
          split at h
          · rename_i e q hel hq
            exact main hel (.inl ⟨q, hq⟩) h
          · rename_i e hel hq
            exact main hel (.inr hq) h
          · cases h
      · cases h
    · cases h
  · exact builtin_quiet hm hh ha hlr h _
theorem core_ok (hm : Mem w0 M c) (hte : c.te = A.te) (hh : ∀ id o, hp id = some o → c.hp id = some o) (hf : ∀ d, o.dst = some d → hp d = none → c.hp d = none) (hr : ∀ x, RepV c (ρ x) (r x)) (hcv : ∀ v, r (.const v) = v) (h : core P A fid ρ hp o = .ok true v u) :
    StepOk w0 M c ((execOp r o).run P c.w) v u := by
  cases ho : o.op with
  | move x => exact core_move hm hf hr (.inl ho) h
  | assign x => exact core_move hm hf hr (.inr ho) h
  | alloc e => exact core_alloc hm hf ho h
  | nilCheck x => exact core_nilCheck hm hh hr ho h
  | box e x => exact core_box hm hf hr ho h
  | build t ps => exact core_build hm hr ho h
  | buildSlice t n ps => exact core_buildSlice hm hh hf hr ho h
  | load t a => exact core_load hm hh hr ho h
  | store t a x => exact core_store hm hh hr ho h
  | binOp op t x y ty => exact core_binOp hm hr hcv ho h
  | unOp op t x => exact core_unOp hm hr ho h
  | convert st dt x => exact core_convert2 hm hh hf hr ho h
  | makeInterface t x => exact core_makeInterface hm hte hr ho h
  | makeSlice t l cc => exact core_makeSlice hm hf hr ho h
  | slice t x lo hi mx => exact core_slice hm hh hr ho h
  | fieldAddr t x f => exact core_fieldAddr hm hh hr ho h
  | field t x f => exact core_field hm hr ho h
  | indexAddr t x ix => exact core_indexAddr hm hh hr ho h
  | index t x ix => exact core_index hm hr ho h
  | extract t ix => exact core_extract hm hr ho h
  | _ => simp [core, ho] at h
end
end Go.Eng
