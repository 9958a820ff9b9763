/- The small machine's operations on values alone: the real machine does just so. -/
import Derived.Test.YtfkiapjkeopgfaaE5
import Derived.Laws.Strings
set_option linter.all false
set_option linter.unusedVariables false
set_option linter.unusedSimpArgs false
set_option linter.deprecated false
namespace Go.Eng
open Go.RowKit
def hpU (u : Upd) (hp : Nat → Option Obj) (id : Nat) : Option Obj := match hget u id with | some o => some o | none => hp id
def StepOk (w0 : World) (M : MS) (c : Cx) (nx : Result Next) (v : AV) (u : Upd) : Prop :=
  ∃ nv c', nx = .ok nv c'.w ∧ Mem w0 M c' ∧ Ext c c' ∧ c'.hp = hpU u c.hp ∧ ((∃ v', nv = .value v' ∧ RepV c' v v') ∨ (nv = .skip ∧ v = .undef))
theorem StepOk.quiet {w0 : World} {M : MS} {c : Cx} (hm : Mem w0 M c) {nx : Result Next} {v : AV} {v' : Value} (h : nx = .ok (.value v') c.w) (hv : RepV c v v') : StepOk w0 M c nx v [] :=
  ⟨_, c, h, hm, Ext.refl c, rfl, .inl ⟨v', rfl, hv⟩⟩
theorem run_val {P : Program} {s : Sem Value} {v : Value} {w w' : World} (h : s.run P w = .ok v w') : (do pure (Next.value (← s)) : Sem Next).run P w = .ok (.value v) w' := by
  rw [run_ok h]; rfl
theorem run_unit {P : Program} {s : Sem Unit} {w w' : World} (h : s.run P w = .ok () w') : (do s; pure Next.skip : Sem Next).run P w = .ok .skip w' := by
  rw [run_ok h]; rfl
theorem okI_wrap (k : IntKind) (n : Int) : okI k (k.wrap n) := by
  cases k <;> simp [okI, okB]
  simp [IntKind.wrap, IntKind.signed, IntKind.bits]; omega
theorem rep_ofV (c : Cx) {v : Value} (h : one v = true) : RepS c (ofV v) v := by
  unfold ofV
  split
  · rfl
  · rename_i k n
    cases hb : okB k n with
    | true => exact ⟨rfl, hb⟩
    | false => rfl
  · exact ⟨_, rfl, rfl⟩
  · rfl
  · rfl
  · rfl
  · rfl
  · exact h
theorem rep_ofVs (c : Cx) : ∀ (l : List Value), l.all one = true → LR (RepS c) (l.map ofV) l
  | [], _ => trivial
  | v :: r, h => by
    simp only [List.all_cons, Bool.and_eq_true] at h
    exact ⟨rep_ofV c h.1, rep_ofVs c r h.2⟩
theorem rep_const (c : Cx) (v : Value) : RepV c (ofConst v) v := by
  unfold ofConst
  split
  · rename_i cs
    unfold ofCells
    cases h : cs.toList.all one with
    | true => exact ⟨cs, rfl, rep_ofVs c _ h⟩
    | false => trivial
  · trivial
  · rename_i h1 h2
    exact ⟨_, rfl, rep_ofV c (by cases v <;> first | rfl | exact (h1 _ rfl).elim | exact (h2 _ rfl).elim)⟩
theorem rep_eval {c : Cx} {n : Nat} {env : List (Nat × AV)} {a : Act} (h : Regs c n env a) (x : Operand) : RepV c (evalO env x) (a.eval x) := by
  cases x with
  | tmp t => exact h.rep t
  | const v => exact rep_const c v
  | global g => trivial
  | func f => exact ⟨_, rfl, rfl⟩
theorem slot_rep {c : Cx} {ρ : Operand → AV} {r : Operand → Value} (hr : ∀ x, RepV c (ρ x) (r x)) {x : Operand} {s : S} (h : slot x ρ = some s) : RepS c s (r x) := by
  unfold slot at h
  have := hr x
  split at h
  · rename_i s' e
    rw [e] at this
    obtain ⟨s2, e2, h2⟩ := this
    cases e2
    simp only [Option.some.injEq] at h; subst h; exact h2
  · cases h
theorem repV_one {c : Cx} {s : S} {v : Value} (h : RepS c s v) : RepV c (.val false [s]) v := ⟨s, rfl, h⟩
theorem repV_inv {c : Cx} {s : S} {v : Value} (h : RepV c (.val false [s]) v) : RepS c s v := by
  obtain ⟨s', e, h⟩ := h; cases e; exact h
theorem bytesOf_inj {a b : ByteArray} (h : bytesOf a = bytesOf b) : a.data.toList = b.data.toList := by
  unfold bytesOf at h
  refine (List.map_inj_right (f := fun c : UInt8 => (c.toNat : Int)) ?_).1 h
  intro x y e
  exact UInt8.toNat_inj.1 (Int.ofNat_inj.1 e)
theorem bytesOf_eq {a b : ByteArray} : decide (bytesOf a = bytesOf b) = (a.toList == b.toList) := by
  rw [ByteArray.toList_eq, ByteArray.toList_eq, Bool.eq_iff_iff]
  simp only [decide_eq_true_eq, beq_iff_eq]
  exact ⟨bytesOf_inj, fun h => by unfold bytesOf; rw [h]⟩
theorem bytesOf_length (a : ByteArray) : (bytesOf a).length = a.size := by simp [bytesOf]
theorem run_bin {P : Program} {op : BinOp} {t : TypeId} {xo yo : Operand} {x y v : Value} {w : World} (h1 : (eqGuard op t xo yo x y).run P w = .ok () w) (h2 : (binOp op t x y).run P w = .ok v w) :
    (do pure (Next.value (← (do eqGuard op t xo yo x y; binOp op t x y))) : Sem Next).run P w = .ok (.value v) w := by
  refine run_val ?_
  rw [run_ok h1]; exact h2
theorem okI_fdiv (k : IntKind) (x : Int) (n : Nat) (h : okI k x) : okI k (x.fdiv (2 ^ n)) := by
  cases k <;> simp [okI, okB] at h ⊢
  have e : x.fdiv (2 ^ n) = x / 2 ^ n := Int.fdiv_eq_ediv_of_nonneg _ (Int.le_of_lt (Int.pow_pos (by decide)))
  rw [e]
  refine ⟨Int.ediv_nonneg h.1 (Int.le_of_lt (Int.pow_pos (by decide))), ?_⟩
  have := Int.ediv_le_self (b := 2 ^ n) h.1
  omega
theorem okI_tmod (k : IntKind) (x y : Int) (h : okI k x) : okI k (x.tmod y) := by
  cases k <;> simp [okI, okB] at h ⊢
  have h1 := Int.tmod_nonneg y h.1
  have h2 := Int.natAbs_tmod x y
  have h3 := Nat.mod_le x.natAbs y.natAbs
  omega
theorem bits_run {P : Program} {w : World} (op : BinOp) (k : IntKind) (x y : Int) (h : op = .and ∨ op = .or ∨ op = .xor ∨ op = .andNot) : (Op.intBits op k x y).run P w = .ok (.int k (wrapb k op x y)) w := by
  rcases h with rfl | rfl | rfl | rfl <;> rfl
theorem cmp_run {P : Program} {w : World} (op : BinOp) (x y : Int) {b : Bool} (h : cmpI op x y = some b) : (Op.intCmp op x y).run P w = .ok (.bool b) w := by
  cases op <;> simp only [cmpI, Option.some.injEq, reduceCtorEq] at h <;> subst h <;> rfl
theorem binS_ok {P : Program} {w0 : World} {M : MS} {c : Cx} (hm : Mem w0 M c) {op : BinOp} {t : TypeId} {xo yo : Operand} {a b : S} {x y : Value} (ha : RepS c a x) (hb : RepS c b y)
    {v : AV} {u : Upd} (hx : isNilConst xo = true → (∃ v, xo = .const v) ∧ (x = .nilIface ∨ x = .nilFunc)) (hy : isNilConst yo = true → (∃ v, yo = .const v) ∧ (y = .nilIface ∨ y = .nilFunc))
    (h : binS P op t xo yo a b = .ok true v u) :
    StepOk w0 M c ((do pure (Next.value (← (do eqGuard op t xo yo x y; binOp op t x y))) : Sem Next).run P c.w) v u := by
  cases a with
  | int k m =>
    cases b with
    | int k' n =>
      obtain ⟨rfl, h1⟩ := ha
      obtain ⟨rfl, h2⟩ := hb
      have hg : (eqGuard op t xo yo (.int k m) (.int k' n)).run P c.w = .ok () c.w := by cases op <;> rfl
      have key : ∀ s v', v = .val false [s] → u = [] → (binOp op t (.int k m) (.int k' n)).run P c.w = .ok v' c.w → RepS c s v' → StepOk w0 M c ((do pure (Next.value (← (do eqGuard op t xo yo (.int k m) (.int k' n); binOp op t (.int k m) (.int k' n)))) : Sem Next).run P c.w) v u := by
        rintro s v' rfl rfl e hr
        exact .quiet hm (run_bin hg e) (repV_one hr)
      cases op with
      | shl =>
        simp only [binS, Out.ok.injEq, decide_eq_true_eq] at h
        obtain ⟨h0, rfl, rfl⟩ := h
        refine key _ _ rfl rfl ?_ ⟨rfl, okI_wrap _ _⟩
        simp only [binOp, Op.shift]
        rw [if_neg (by omega)]; rfl
      | shr =>
        simp only [binS, Out.ok.injEq, decide_eq_true_eq] at h
        obtain ⟨h0, rfl, rfl⟩ := h
        refine key _ _ rfl rfl ?_ ⟨rfl, okI_fdiv _ _ _ h1⟩
        simp only [binOp, Op.shift]
        rw [if_neg (by omega)]; rfl
      | _ =>
        by_cases hk : k = k'
        · subst hk
          simp only [binS, decide_true, cond_true, okv, Out.ok.injEq, true_and, cmpI, Bool.not_eq_true', decide_eq_false_iff_not] at h
          first
          | (obtain ⟨rfl, rfl⟩ := h
             exact key _ _ rfl rfl (by simp only [binOp, ne_eq, not_true_eq_false, if_false]; rfl) (by first | exact ⟨rfl, okI_wrap _ _⟩ | rfl))
          | (obtain ⟨h0, rfl, rfl⟩ := h
             exact key _ _ rfl rfl (by simp only [binOp, ne_eq, not_true_eq_false, if_false, Op.intDiv, h0]; rfl) (by first | exact ⟨rfl, okI_wrap _ _⟩ | exact ⟨rfl, okI_tmod _ _ _ h1⟩))
        · simp only [binS, hk, decide_false, cond_false] at h
          cases h
    | _ => simp [binS] at h
  | str s =>
    cases b with
    | str s' =>
      obtain ⟨sa, rfl, rfl⟩ := ha
      obtain ⟨sb, rfl, rfl⟩ := hb
      have hg : (eqGuard op t xo yo (.string sa) (.string sb)).run P c.w = .ok () c.w := by cases op <;> rfl
      cases op with
      | add =>
        simp only [binS, Out.ok.injEq, decide_eq_true_eq, bytesOf_length] at h
        obtain ⟨h0, rfl, rfl⟩ := h
        refine .quiet hm (v' := .string (sa ++ sb)) (run_bin hg ?_) (repV_one ⟨_, rfl, by simp [bytesOf, ByteArray.data_append]⟩)
        simp only [binOp, Op.stringOp]
        rw [if_neg (by simp [IntKind.max, IntKind.signed, IntKind.bits]; omega)]; rfl
      | eql =>
        simp only [binS, okv, Out.ok.injEq, true_and] at h
        obtain ⟨rfl, rfl⟩ := h
        exact .quiet hm (run_bin hg (v := .bool (sa.toList == sb.toList)) rfl) (repV_one (by simp only [RepS]; rw [bytesOf_eq]))
      | neq =>
        simp only [binS, okv, Out.ok.injEq, true_and] at h
        obtain ⟨rfl, rfl⟩ := h
        exact .quiet hm (run_bin hg (v := .bool (!(sa.toList == sb.toList))) rfl) (repV_one (by simp only [RepS]; rw [bytesOf_eq]))
      | _ => simp [binS] at h
    | _ => simp [binS] at h
  | bool s =>
    cases b with
    | bool s' =>
      simp only [RepS] at ha hb
      subst ha; subst hb
      have hg : (eqGuard op t xo yo (.bool s) (.bool s')).run P c.w = .ok () c.w := by cases op <;> rfl
      simp only [binS] at h
      split at h
      · rename_i hu
        have he : (Op.equal t (.bool s) (.bool s')).run P c.w = .ok (s == s') c.w := by
          unfold Op.equal Op.maxDepth Op.equalIn
          rw [run_ok (run_underlying hu c.w)]; rfl
        cases op <;> simp only [okv, Out.ok.injEq, true_and, reduceCtorEq] at h
        · obtain ⟨rfl, rfl⟩ := h
          exact .quiet hm (run_bin hg (v := .bool (s == s')) (by simp only [binOp]; rw [run_ok he]; rfl)) (repV_one rfl)
        · obtain ⟨rfl, rfl⟩ := h
          exact .quiet hm (run_bin hg (v := .bool (!(s == s'))) (by simp only [binOp]; rw [run_ok he]; rfl)) (repV_one rfl)
      · cases h
    | _ => simp [binS] at h
  | err e =>
    cases b with
    | err e' =>
      simp only [RepS] at ha hb
      subst ha; subst hb
      simp only [binS] at h
      split at h
      · rename_i ms hu
        cases hyc : isNilConst yo with
        | true =>
          rw [hyc] at h
          simp only [cond_true] at h
          obtain ⟨⟨yv, rfl⟩, hyn⟩ := hy hyc
          have hn : e' = none := by cases e' <;> simp [errV] at hyn ⊢
          subst hn
          have hg : (eqGuard op t xo (.const yv) (errV c.te e) (errV c.te none)).run P c.w = .ok () c.w := by
            cases e <;> cases op <;> first | rfl | (simp only [eqGuard, errV]; cases xo <;> rfl)
          have he : (Op.equal t (errV c.te e) (errV c.te none)).run P c.w = .ok (!e.isSome) c.w := by
            unfold Op.equal Op.maxDepth Op.equalIn
            rw [run_ok (run_underlying hu c.w)]
            cases e <;> rfl
          cases op <;> simp only [okv, Out.ok.injEq, true_and, reduceCtorEq] at h
          · obtain ⟨rfl, rfl⟩ := h
            exact .quiet hm (run_bin hg (v := .bool (!e.isSome)) (by cases e <;> (simp only [binOp, errV] at he ⊢; rw [run_ok he]; rfl))) (repV_one rfl)
          · obtain ⟨rfl, rfl⟩ := h
            exact .quiet hm (run_bin hg (v := .bool (!!e.isSome)) (by cases e <;> (simp only [binOp, errV] at he ⊢; rw [run_ok he]; rfl))) (repV_one (by simp [RepS]))
        | false =>
          rw [hyc] at h
          simp only [cond_false] at h
          cases hxc : isNilConst xo with
          | true =>
            rw [hxc] at h
            simp only [cond_true] at h
            obtain ⟨⟨xv, rfl⟩, hxn⟩ := hx hxc
            have hn : e = none := by cases e <;> simp [errV] at hxn ⊢
            subst hn
            have hg : (eqGuard op t (.const xv) yo (errV c.te none) (errV c.te e')).run P c.w = .ok () c.w := by
              cases e' <;> cases op <;> rfl
            have he : (Op.equal t (errV c.te none) (errV c.te e')).run P c.w = .ok (!e'.isSome) c.w := by
              unfold Op.equal Op.maxDepth Op.equalIn
              rw [run_ok (run_underlying hu c.w)]
              cases e' <;> rfl
            cases op <;> simp only [okv, Out.ok.injEq, true_and, reduceCtorEq] at h
            · obtain ⟨rfl, rfl⟩ := h
              exact .quiet hm (run_bin hg (v := .bool (!e'.isSome)) (by cases e' <;> (simp only [binOp, errV] at he ⊢; rw [run_ok he]; rfl))) (repV_one rfl)
            · obtain ⟨rfl, rfl⟩ := h
              exact .quiet hm (run_bin hg (v := .bool (!!e'.isSome)) (by cases e' <;> (simp only [binOp, errV] at he ⊢; rw [run_ok he]; rfl))) (repV_one (by simp [RepS]))
          | false => rw [hxc] at h; cases h
      · cases h
    | _ => simp [binS] at h
  | fn e =>
    cases b with
    | fn e' =>
      simp only [RepS] at ha hb
      subst ha; subst hb
      simp only [binS] at h
      split at h
      · rename_i hu
        cases hyc : isNilConst yo with
        | true =>
          rw [hyc] at h
          simp only [cond_true] at h
          obtain ⟨⟨yv, rfl⟩, hyn⟩ := hy hyc
          have hn : e' = none := by cases e' <;> simp [fnV] at hyn ⊢
          subst hn
          have hg : (eqGuard op t xo (.const yv) (fnV e) (fnV none)).run P c.w = .ok () c.w := by
            cases e <;> cases op <;> rfl
          have he : (Op.equal t (fnV e) (fnV none)).run P c.w = .ok (!e.isSome) c.w := by
            unfold Op.equal Op.maxDepth Op.equalIn
            rw [run_ok (run_underlying hu c.w)]
            cases e <;> rfl
          cases op <;> simp only [okv, Out.ok.injEq, true_and, reduceCtorEq] at h
          · obtain ⟨rfl, rfl⟩ := h
            exact .quiet hm (run_bin hg (v := .bool (!e.isSome)) (by cases e <;> (simp only [binOp, fnV] at he ⊢; rw [run_ok he]; rfl))) (repV_one rfl)
          · obtain ⟨rfl, rfl⟩ := h
            exact .quiet hm (run_bin hg (v := .bool (!!e.isSome)) (by cases e <;> (simp only [binOp, fnV] at he ⊢; rw [run_ok he]; rfl))) (repV_one (by simp [RepS]))
        | false => rw [hyc] at h; cases h
      · cases h
    | _ => simp [binS] at h
  | _ => simp [binS] at h
end Go.Eng
