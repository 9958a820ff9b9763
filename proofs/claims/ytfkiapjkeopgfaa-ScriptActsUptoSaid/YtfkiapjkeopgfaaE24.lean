/- Regions that draw their order: in whatever order, the same comes of it. -/
import Derived.Test.YtfkiapjkeopgfaaE23
import Derived.Orders
set_option linter.all false
set_option linter.unusedVariables false
set_option linter.unusedSimpArgs false
set_option linter.deprecated false
namespace Go.Eng
open Go.RowKit
section
variable {P : Program} {A : Ann} {fid : Nat} {Gl : Nat → Option Go.Obj} {C : CallF} {w0 : World} {M : MS} {n lo : Nat} {a0 : Array Value} {R : Type}
theorem stepE_bind {ev : Operand → AV} {hp : Nat → Option Obj} {o : Oper} {K : AV → Upd → Option R} {rr : R} (h : stepE P A fid C ev hp o K = some rr) : ∃ v u, stepE P A fid C ev hp o (fun v u => some (v, u)) = some (v, u) ∧ K v u = some rr := by
  have okk : ∀ {q : Out}, okK K q = some rr → ∃ v u, okK (fun v u => some (v, u)) q = some (v, u) ∧ K v u = some rr := by
    intro q hq
    cases q with
    | bad => cases hq
    | call => cases hq
    | ok c v u =>
      cases c with
      | true => exact ⟨v, u, rfl, hq⟩
      | false => cases hq
  have callk : ∀ {q : Out}, callK C K q = some rr → ∃ v u, callK C (fun v u => some (v, u)) q = some (v, u) ∧ K v u = some rr := by
    intro q hq
    cases q with
    | bad => cases hq
    | ok => cases hq
    | call c sg f as post =>
      cases c with
      | false => cases hq
      | true =>
        simp only [callK, cond_true] at hq ⊢
        cases hc : C sg f as with
        | none => rw [hc] at hq; cases hq
        | some r =>
          rw [hc] at hq
          exact ⟨_, _, rfl, hq⟩
  unfold stepE at h ⊢
  split at h
  · split at h
    · rename_i q _
      cases q with
      | true => exact ⟨_, _, rfl, h⟩
      | false => exact ⟨_, _, rfl, h⟩
    · cases h
  · split at h
    · exact okk h
    · exact callk h
    · split at h
      · exact callk h
      · exact callk h
      · cases h
    · cases h
  · exact okk h
/-- What a step leaves, on the whole. -/
structure Ev where
  want : Bool
  v : AV
  u : Upd
  log : Log
def envAt (E : Nat → AV) (o : Oper) : Operand → AV
  | .tmp t => bif (tmpsOf o.op.operands.toList).contains t then E t else .undef
  | .const v => ofConst v
  | .func f => .val false [.fn (some f)]
  | .global _ => .undef
theorem evO_look (env : List (Nat × AV)) (o : Oper) : evO env o = envAt (look env) o := by
  funext x; cases x <;> rfl
def restrF (ids : List Nat) (H : Nat → Option Obj) (id : Nat) : Option Obj := bif ids.contains id then H id else none
theorem restr_hget (ids : List Nat) (h : List (Nat × Obj)) : restr ids h = restrF ids (hget h) := rfl
/-- One step, told by functions. -/
def StepF (P : Program) (A : Ann) (fid : Nat) (C : CallF) (all : Array Oper) (E : Nat → AV) (H : Nat → Option Obj) (o : Oper) (ev : Ev) : Prop :=
  (match o.guard with
    | none => ev.want = true
    | some (j, w) => ∃ t, (all[j]?).bind (·.dst) = some t ∧ ((∃ b, E t = .val false [.bool b] ∧ ev.want = (b == w)) ∨ (E t = .tup [] ∧ ev.want = false))) ∧
  (if ev.want = true then stepE P A fid C (envAt E o) (restrF (idsE o (envAt E o)) H) o (fun v u => some (v, u)) = some (ev.v, ev.u) ∧ ev.log = ⟨idsE o (envAt E o), ev.u.map (·.1)⟩
    else ev.v = .tup [] ∧ ev.u = [] ∧ ev.log = ⟨[], []⟩)
def putF (E : Nat → AV) (d : Option Nat) (v : AV) : Nat → AV := match d with | some t => fun x => if t = x then v else E x | none => E
theorem look_put (e : List (Nat × AV)) (d : Option Nat) (v : AV) : look (put e d v) = putF (look e) d v := by
  cases d with
  | none => rfl
  | some t => funext x; exact look_cons t v e x
/-- The canonical run. -/
inductive Run (P : Program) (A : Ann) (fid : Nat) (C : CallF) (all : Array Oper) : List Oper → (Nat → AV) → (Nat → Option Obj) → List Ev → (Nat → AV) → (Nat → Option Obj) → Prop
  | nil (E H) : Run P A fid C all [] E H [] E H
  | cons {o l E H ev evs E' H'} : StepF P A fid C all E H o ev → Run P A fid C all l (putF E o.dst ev.v) (hpU ev.u H) evs E' H' → Run P A fid C all (o :: l) E H (ev :: evs) E' H'
theorem look_self (env : List (Nat × AV)) (t : Nat) (v : AV) (h : look env t = v) : look ((t, v) :: env) = look env := by
  funext x
  rw [look_cons]
  split
  · rename_i e; subst e; exact h.symm
  · rfl
theorem runOpsD_run {all : Array Oper} {rr : R} : ∀ (l : List Oper) (lg : List Log) (σ : St) (K : List Log → St → Option R), runOpsD P A fid n lo C all l lg σ K = some rr →
    ∃ evs σ', Run P A fid C all l (look σ.env) (hget σ.heap) evs (look σ'.env) (hget σ'.heap) ∧ (∀ o ∈ l, dstOk n lo o = true) ∧ K ((evs.map Ev.log).reverse ++ lg) σ' = some rr
  | [], lg, σ, K, h => ⟨[], σ, .nil _ _, by simp, by simpa [runOpsD] using h⟩
  | o :: l, lg, σ, K, h => by
    simp only [runOpsD] at h
    cases hd : dstOk n lo o with
    | false => rw [hd] at h; cases h
    | true =>
      rw [hd] at h
      simp only [cond_true] at h
      have hgd : ∃ want env, look env = look σ.env ∧ (match o.guard with
          | none => want = true
          | some (j, w) => ∃ t, (all[j]?).bind (·.dst) = some t ∧ ((∃ b, look σ.env t = .val false [.bool b] ∧ want = (b == w)) ∨ (look σ.env t = .tup [] ∧ want = false))) ∧
          (bif want then stepK P A fid C ⟨env, σ.heap⟩ o (fun v u => runOpsD P A fid n lo C all l (logOf ⟨env, σ.heap⟩ o u :: lg) ⟨put env o.dst v, hput σ.heap u⟩ K)
            else runOpsD P A fid n lo C all l (⟨[], []⟩ :: lg) ⟨put env o.dst (.tup []), σ.heap⟩ K) = some rr := by
        unfold guardK at h
        split at h
        · rename_i hg
          exact ⟨true, σ.env, rfl, by simp [hg], h⟩
        · rename_i j w hg
          split at h
          · cases h
          · rename_i t ht
            split at h
            · rename_i b hb
              cases b with
              | true => exact ⟨w, _, look_self _ _ _ hb, by rw [hg]; exact ⟨t, ht, .inl ⟨true, hb, by cases w <;> rfl⟩⟩, h⟩
              | false => exact ⟨!w, _, look_self _ _ _ hb, by rw [hg]; exact ⟨t, ht, .inl ⟨false, hb, by cases w <;> rfl⟩⟩, h⟩
            · rename_i hb
              exact ⟨false, _, rfl, by rw [hg]; exact ⟨t, ht, .inr ⟨hb, rfl⟩⟩, h⟩
            · cases h
      obtain ⟨want, env, e1, e2, e3⟩ := hgd
      cases want with
      | true =>
        simp only [cond_true] at e3
        unfold stepK at e3
        obtain ⟨v, u, s1, s2⟩ := stepE_bind e3
        rw [evO_look, e1] at s1
        rw [restr_hget] at s1
        obtain ⟨evs, σ', q1, q2, q3⟩ := runOpsD_run l _ _ K s2
        refine ⟨⟨true, v, u, logOf ⟨env, σ.heap⟩ o u⟩ :: evs, σ', .cons ⟨e2, ?_⟩ ?_, ?_, ?_⟩
        · simp only [if_true]
          exact ⟨s1, by simp only [logOf]; rw [evO_look, e1]⟩
        · simp only
          rw [look_put, e1, hget_hput] at q1
          exact q1
        · intro o' ho'
          rcases List.mem_cons.1 ho' with rfl | ho'
          · exact hd
          · exact q2 o' ho'
        · simpa using q3
      | false =>
        simp only [cond_false] at e3
        obtain ⟨evs, σ', q1, q2, q3⟩ := runOpsD_run l _ _ K e3
        refine ⟨⟨false, .tup [], [], ⟨[], []⟩⟩ :: evs, σ', .cons ⟨e2, ?_⟩ ?_, ?_, ?_⟩
        · simp
        · simp only
          rw [look_put, e1] at q1
          exact q1
        · intro o' ho'
          rcases List.mem_cons.1 ho' with rfl | ho'
          · exact hd
          · exact q2 o' ho'
        · simpa using q3
/-! A part of the steps. -/
def envS (s : Nat → Bool) : Nat → List Oper → List Ev → (Nat → AV) → (Nat → AV)
  | i, o :: l, e :: evs, E => envS s (i + 1) l evs (if s i = true then putF E o.dst e.v else E)
  | _, _, _, E => E
def heapS (s : Nat → Bool) : Nat → List Oper → List Ev → (Nat → Option Obj) → (Nat → Option Obj)
  | i, _ :: l, e :: evs, H => heapS s (i + 1) l evs (if s i = true then hpU e.u H else H)
  | _, _, _, H => H
theorem envS_agree {s s' : Nat → Bool} {t : Nat} : ∀ (l : List Oper) (evs : List Ev) (i : Nat) (E E' : Nat → AV), E t = E' t → (∀ (j : Nat) o, l[j]? = some o → o.dst = some t → s (i + j) = s' (i + j)) → envS s i l evs E t = envS s' i l evs E' t
  | [], _, _, _, _, h, _ => by simpa [envS] using h
  | _ :: _, [], _, _, _, h, _ => by simpa [envS] using h
  | o :: l, e :: evs, i, E, E', h, hs => by
    simp only [envS]
    refine envS_agree l evs (i + 1) _ _ ?_ (fun j o' ho hd => by have := hs (j + 1) o' (by simpa using ho) hd; rw [show i + 1 + j = i + (j + 1) by omega]; exact this)
    by_cases hd : o.dst = some t
    · have := hs 0 o rfl hd
      simp only [Nat.add_zero] at this
      rw [this]
      cases s' i with
      | true => simp [putF, hd]
      | false => simpa using h
    · have hp : ∀ (E : Nat → AV) v, putF E o.dst v t = E t := by
        intro E v
        cases hq : o.dst with
        | none => rfl
        | some u =>
          show (if u = t then v else E t) = E t
          rw [if_neg]; rintro rfl; exact hd hq
      cases s i <;> cases s' i <;> simp [hp, h]
theorem heapS_agree {s s' : Nat → Bool} {id : Nat} : ∀ (l : List Oper) (evs : List Ev) (i : Nat) (H H' : Nat → Option Obj), H id = H' id → (∀ (j : Nat) e, evs[j]? = some e → j < l.length → hget e.u id ≠ none → s (i + j) = s' (i + j)) → heapS s i l evs H id = heapS s' i l evs H' id
  | [], _, _, _, _, h, _ => by simpa [heapS] using h
  | _ :: _, [], _, _, _, h, _ => by simpa [heapS] using h
  | o :: l, e :: evs, i, H, H', h, hs => by
    simp only [heapS]
    refine heapS_agree l evs (i + 1) _ _ ?_ (fun j e' ho hl hd => by have := hs (j + 1) e' (by simpa using ho) (by simpa using hl) hd; rw [show i + 1 + j = i + (j + 1) by omega]; exact this)
    by_cases hd : hget e.u id = none
    · have hp : ∀ (H : Nat → Option Obj), hpU e.u H id = H id := by intro H; unfold hpU; rw [hd]
      cases s i <;> cases s' i <;> simp [hp, h]
    · have := hs 0 e rfl (by simp) hd
      simp only [Nat.add_zero] at this
      rw [this]
      cases s' i with
      | true =>
        simp only [if_true]
        unfold hpU
        cases hq : hget e.u id with
        | none => exact (hd hq).elim
        | some o => rfl
      | false => simpa using h
theorem envS_none {s : Nat → Bool} : ∀ (l : List Oper) (evs : List Ev) (i : Nat) (E : Nat → AV), (∀ j, i ≤ j → s j = false) → envS s i l evs E = E
  | [], _, _, _, _ => by simp [envS]
  | _ :: _, [], _, _, _ => by simp [envS]
  | o :: l, e :: evs, i, E, h => by
    simp only [envS]
    rw [h i (Nat.le_refl _)]
    exact envS_none l evs (i + 1) E fun j hj => h j (by omega)
theorem heapS_none {s : Nat → Bool} : ∀ (l : List Oper) (evs : List Ev) (i : Nat) (H : Nat → Option Obj), (∀ j, i ≤ j → s j = false) → heapS s i l evs H = H
  | [], _, _, _, _ => by simp [heapS]
  | _ :: _, [], _, _, _ => by simp [heapS]
  | o :: l, e :: evs, i, H, h => by
    simp only [heapS]
    rw [h i (Nat.le_refl _)]
    exact heapS_none l evs (i + 1) H fun j hj => h j (by omega)
theorem envS_next : ∀ (l : List Oper) (evs : List Ev) (i j : Nat) (E : Nat → AV) (o : Oper) (e : Ev), l[j]? = some o → evs[j]? = some e →
    envS (fun x => decide (x < i + j + 1)) i l evs E = putF (envS (fun x => decide (x < i + j)) i l evs E) o.dst e.v
  | [], _, _, _, _, _, _, h, _ => by simp at h
  | _ :: _, [], _, _, _, _, _, _, h => by simp at h
  | o :: l, e :: evs, i, 0, E, o', e', h1, h2 => by
    simp at h1 h2; subst h1; subst h2
    simp only [envS]
    rw [envS_none l evs (i + 1) _ (fun j hj => by simp; omega), envS_none l evs (i + 1) _ (fun j hj => by simp; omega)]
    simp
  | o :: l, e :: evs, i, j + 1, E, o', e', h1, h2 => by
    simp only [envS]
    have := envS_next l evs (i + 1) j (putF E o.dst e.v) o' e' (by simpa using h1) (by simpa using h2)
    rw [show i + 1 + j + 1 = i + (j + 1) + 1 by omega, show i + 1 + j = i + (j + 1) by omega] at this
    simp only [show (i < i + (j + 1) + 1) = True by simp; omega, show (i < i + (j + 1)) = True by simp, decide_true, if_true]
    exact this
theorem heapS_next : ∀ (l : List Oper) (evs : List Ev) (i j : Nat) (H : Nat → Option Obj) (o : Oper) (e : Ev), l[j]? = some o → evs[j]? = some e →
    heapS (fun x => decide (x < i + j + 1)) i l evs H = hpU e.u (heapS (fun x => decide (x < i + j)) i l evs H)
  | [], _, _, _, _, _, _, h, _ => by simp at h
  | _ :: _, [], _, _, _, _, _, _, h => by simp at h
  | o :: l, e :: evs, i, 0, H, o', e', h1, h2 => by
    simp at h1 h2; subst h1; subst h2
    simp only [heapS]
    rw [heapS_none l evs (i + 1) _ (fun j hj => by simp; omega), heapS_none l evs (i + 1) _ (fun j hj => by simp; omega)]
    simp
  | o :: l, e :: evs, i, j + 1, H, o', e', h1, h2 => by
    simp only [heapS]
    have := heapS_next l evs (i + 1) j (hpU e.u H) o' e' (by simpa using h1) (by simpa using h2)
    rw [show i + 1 + j + 1 = i + (j + 1) + 1 by omega, show i + 1 + j = i + (j + 1) by omega] at this
    simp only [show (i < i + (j + 1) + 1) = True by simp; omega, show (i < i + (j + 1)) = True by simp, decide_true, if_true]
    exact this
theorem run_steps {all : Array Oper} {l : List Oper} {E E' : Nat → AV} {H H' : Nat → Option Obj} {evs : List Ev} (h : Run P A fid C all l E H evs E' H') : ∀ (i : Nat),
    evs.length = l.length ∧ E' = envS (fun _ => true) i l evs E ∧ H' = heapS (fun _ => true) i l evs H ∧
      ∀ (j : Nat) o e, l[j]? = some o → evs[j]? = some e → StepF P A fid C all (envS (fun x => decide (x < i + j)) i l evs E) (heapS (fun x => decide (x < i + j)) i l evs H) o e := by
  induction h with
  | nil E H => intro i; exact ⟨rfl, rfl, rfl, by simp⟩
  | @cons o l E H ev evs E' H' hs _ ih =>
    intro i
    obtain ⟨q1, q2, q3, q4⟩ := ih (i + 1)
    refine ⟨by simp [q1], ?_, ?_, fun j o' e' h1 h2 => ?_⟩
    · simp only [envS, if_true]; exact q2
    · simp only [heapS, if_true]; exact q3
    · cases j with
      | zero =>
        simp at h1 h2; subst h1; subst h2
        rw [envS_none _ _ i _ (fun j hj => by simp; omega), heapS_none _ _ i _ (fun j hj => by simp; omega)]
        exact hs
      | succ j =>
        have := q4 j o' e' (by simpa using h1) (by simpa using h2)
        simp only [envS, heapS, show (i < i + (j + 1)) = True by simp, decide_true, if_true]
        rw [show i + 1 + j = i + (j + 1) by omega] at this
        exact this
/-! What stands ahead of what. -/
theorem before_size (ops : Array Oper) : (Region.before ops).size = ops.size := by
  unfold Region.before
  rw [← Array.foldl_toList]
  have : ∀ (l : List Oper) (acc : Array Nat), (l.foldl (fun acc o => acc.push (o.after.foldl (fun s e => if Region.binds .any e then s ||| 2 ^ e.on ||| acc.getD e.on 0 else s) 0)) acc).size = acc.size + l.length := by
    intro l
    induction l with
    | nil => intro acc; rfl
    | cons a r ih => intro acc; rw [List.foldl_cons, ih]; simp; omega
  rw [this]; simp
/-- The bits of what a step waits for. -/
def bitsOf (acc : Array Nat) (o : Oper) : Nat := o.after.foldl (fun s e => if Region.binds .any e then s ||| 2 ^ e.on ||| acc.getD e.on 0 else s) 0
theorem bitsOf_spec (acc : Array Nat) (o : Oper) (i : Nat) (h : (bitsOf acc o).testBit i = true) : ∃ e ∈ o.after.toList, Region.binds .any e = true ∧ (e.on = i ∨ (acc.getD e.on 0).testBit i = true) := by
  unfold bitsOf at h
  rw [← Array.foldl_toList] at h
  have : ∀ (l : List Edge) (s : Nat), (l.foldl (fun s e => if Region.binds .any e then s ||| 2 ^ e.on ||| acc.getD e.on 0 else s) s).testBit i = true → s.testBit i = true ∨ ∃ e ∈ l, Region.binds .any e = true ∧ (e.on = i ∨ (acc.getD e.on 0).testBit i = true) := by
    intro l
    induction l with
    | nil => intro s h; exact .inl h
    | cons a r ih =>
      intro s h
      rw [List.foldl_cons] at h
      rcases ih _ h with h1 | ⟨e, h1, h2⟩
      · split at h1
        · rename_i hb
          rw [Nat.testBit_or, Nat.testBit_or, Nat.testBit_two_pow] at h1
          simp only [Bool.or_eq_true, decide_eq_true_eq] at h1
          rcases h1 with (h1 | h1) | h1
          · exact .inl h1
          · exact .inr ⟨a, by simp, hb, .inl h1⟩
          · exact .inr ⟨a, by simp, hb, .inr h1⟩
        · exact .inl h1
      · exact .inr ⟨e, by simp [h1], h2⟩
  rcases this _ _ h with h1 | h1
  · simp at h1
  · exact h1
theorem before_get (l : List Oper) : ∀ (acc : Array Nat) (j : Nat) o, l[j]? = some o →
    ∃ acc' : Array Nat, acc'.size = acc.size + j ∧ (∀ k, k < acc'.size → (l.foldl (fun acc o => acc.push (bitsOf acc o)) acc)[k]? = acc'[k]?) ∧ (l.foldl (fun acc o => acc.push (bitsOf acc o)) acc)[acc.size + j]? = some (bitsOf acc' o) := by
  have keep : ∀ (l : List Oper) (acc : Array Nat) (k : Nat), k < acc.size → (l.foldl (fun acc o => acc.push (bitsOf acc o)) acc)[k]? = acc[k]? := by
    intro l
    induction l with
    | nil => intro acc k _; rfl
    | cons a r ih =>
      intro acc k hk
      rw [List.foldl_cons, ih _ _ (by simp; omega), Array.getElem?_push, if_neg (by omega)]
  induction l with
  | nil => intro acc j o h; simp at h
  | cons a r ih =>
    intro acc j o h
    cases j with
    | zero =>
      simp at h; subst h
      refine ⟨acc, by simp, fun k hk => ?_, ?_⟩
      · rw [List.foldl_cons, keep _ _ _ (by simp; omega), Array.getElem?_push, if_neg (by omega)]
      · rw [List.foldl_cons, Nat.add_zero, keep _ _ _ (by simp)]; simp
    | succ j =>
      obtain ⟨acc', h1, h2, h3⟩ := ih (acc.push (bitsOf acc a)) j o (by simpa using h)
      refine ⟨acc', by simp at h1; omega, fun k hk => by rw [List.foldl_cons]; exact h2 k hk, ?_⟩
      rw [List.foldl_cons]
      have : acc.size + (j + 1) = (acc.push (bitsOf acc a)).size + j := by simp; omega
      rw [this]; exact h3
theorem before_fold (ops : Array Oper) : Region.before ops = ops.toList.foldl (fun acc o => acc.push (bitsOf acc o)) #[] := by
  unfold Region.before
  rw [← Array.foldl_toList]
  rfl
/-- A set of steps that holds with each what stands ahead of it. -/
def Closed (ops : Array Oper) (s : Nat → Bool) : Prop := ∀ (j : Nat) o, ops[j]? = some o → s j = true → ∀ e ∈ o.after.toList, Region.binds .any e = true → s e.on = true
theorem before_bit {ops : Array Oper} {s : Nat → Bool} (hs : Closed ops s) : ∀ (i : Nat) o, ops[i]? = some o → (∀ e ∈ o.after.toList, Region.binds .any e = true → s e.on = true) → ∀ j, ((Region.before ops).getD i 0).testBit j = true → s j = true := by
  intro i
  induction i using Nat.strongRecOn with
  | _ i ih =>
    intro o ho hp j hb
    obtain ⟨acc', h1, h2, h3⟩ := before_get ops.toList #[] i o (by rw [Array.getElem?_toList]; exact ho)
    rw [← before_fold] at h2 h3
    simp only [List.size_toArray, List.length_nil, Nat.zero_add] at h1 h3
    rw [Array.getD_eq_getD_getElem?, h3, Option.getD_some] at hb
    obtain ⟨e, e1, e2, e3⟩ := bitsOf_spec acc' o j hb
    rcases e3 with rfl | e3
    · exact hp e e1 e2
    · have hlt : e.on < acc'.size := by
        rcases Nat.lt_or_ge e.on acc'.size with q | q
        · exact q
        · rw [Array.getD_eq_getD_getElem?, Array.getElem?_eq_none q] at e3; simp at e3
      have hi : i < ops.size := (Array.getElem?_eq_some_iff.1 ho).1
      have hse := hp e e1 e2
      have hoe : ops[e.on]? = some ops[e.on] := Array.getElem?_eq_getElem (by omega)
      refine ih e.on (by omega) _ hoe (hs e.on _ hoe hse) j ?_
      rw [Array.getD_eq_getD_getElem?, h2 _ hlt, ← Array.getD_eq_getD_getElem?]
      exact e3
theorem restOk_spec {all : Array Oper} {bef : Array Nat} {i : Nat} {o : Oper} {l : Log} : ∀ (ps : List Oper) (ms : List Log) (j : Nat), restOk all bef i o l j ps ms = true →
    ∀ (k : Nat) p m, ps[k]? = some p → ms[k]? = some m → (bef.getD (j + k) 0).testBit i = true ∨ pairOk all o p l m = true
  | [], _, _, _, _, _, _, h, _ => by simp at h
  | _ :: _, [], _, _, _, _, _, _, h => by simp at h
  | p :: ps, m :: ms, j, h, k, p', m', h1, h2 => by
    simp only [restOk, Bool.and_eq_true, Bool.or_eq_true] at h
    cases k with
    | zero => simp at h1 h2; subst h1; subst h2; exact h.1
    | succ k =>
      have := restOk_spec ps ms (j + 1) h.2 k p' m' (by simpa using h1) (by simpa using h2)
      rw [show j + (k + 1) = j + 1 + k by omega]; exact this
theorem logOk_spec {all : Array Oper} {bef : Array Nat} : ∀ (os : List Oper) (ls : List Log) (i0 : Nat), logOk all bef i0 os ls = true →
    ∀ (i j : Nat) a b la lb, i < j → os[i]? = some a → os[j]? = some b → ls[i]? = some la → ls[j]? = some lb → (bef.getD (i0 + j) 0).testBit (i0 + i) = true ∨ pairOk all a b la lb = true
  | [], _, _, _, _, _, _, _, _, _, _, h, _, _, _ => by simp at h
  | _ :: _, [], _, _, _, _, _, _, _, _, _, _, _, h, _ => by simp at h
  | o :: os, l :: ls, i0, h, i, j, a, b, la, lb, hij, h1, h2, h3, h4 => by
    simp only [logOk, Bool.and_eq_true] at h
    cases j with
    | zero => omega
    | succ j =>
      cases i with
      | zero =>
        simp at h1 h3; subst h1; subst h3
        have := restOk_spec os ls (i0 + 1) h.1 j b lb (by simpa using h2) (by simpa using h4)
        rw [show i0 + (j + 1) = i0 + 1 + j by omega]; exact this
      | succ i =>
        have := logOk_spec os ls (i0 + 1) h.2 i j a b la lb (by omega) (by simpa using h1) (by simpa using h2) (by simpa using h3) (by simpa using h4)
        rw [show i0 + (j + 1) = i0 + 1 + j by omega, show i0 + (i + 1) = i0 + 1 + i by omega]; exact this
theorem edgesOk_spec : ∀ (os : List Oper) (i0 : Nat), edgesOk i0 os = true → ∀ (i : Nat) o, os[i]? = some o → ∀ e ∈ o.after.toList, Region.binds .any e = true → e.on < i0 + i
  | [], _, _, _, _, h => by simp at h
  | o :: os, i0, h, i, o', h1 => by
    simp only [edgesOk, Bool.and_eq_true] at h
    cases i with
    | zero =>
      simp at h1; subst h1
      intro e he hb
      have := List.all_eq_true.1 h.1 e he
      rw [hb] at this
      simp only [Bool.not_true, Bool.false_or] at this
      have := Nat.le_of_ble_eq_true this
      omega
    | succ i =>
      intro e he hb
      have := edgesOk_spec os (i0 + 1) h.2 i o' (by simpa using h1) e he hb
      omega
theorem disj_not {a b : List Nat} (h : disj a b = true) {x : Nat} (ha : x ∈ a) (hb : x ∈ b) : False := disj_spec h ha hb
structure Pair (all : Array Oper) (a b : Oper) (la lb : Log) : Prop where
  wt : ∀ x ∈ la.wr, x ∈ lb.tch → False
  tw : ∀ x ∈ lb.wr, x ∈ la.tch → False
  ww : ∀ x ∈ la.wr, x ∈ lb.wr → False
  dl : ∀ x, a.dst = some x → x ∈ lookT all b → False
  ld : ∀ x, b.dst = some x → x ∈ lookT all a → False
  dd : ∀ x, a.dst = some x → b.dst = some x → False
theorem pairOk_spec {all : Array Oper} {a b : Oper} {la lb : Log} (h : pairOk all a b la lb = true) : Pair all a b la lb := by
  simp only [pairOk, Bool.and_eq_true] at h
  obtain ⟨⟨⟨⟨h1, h2⟩, h3⟩, h4⟩, h5⟩ := h
  have hd : ∀ {o : Oper} {x : Nat}, o.dst = some x → x ∈ dstL o := by intro o x h; simp [dstL, h]
  exact ⟨fun x p q => disj_not h1 p q, fun x p q => disj_not h2 p q, fun x p q => disj_not h3 p q, fun x p q => disj_not h4 (hd p) (List.mem_append_left _ q), fun x p q => disj_not h5 (hd p) q, fun x p q => disj_not h4 (hd p) (List.mem_append_right _ (hd q))⟩
theorem hget_wr {u : Upd} {id : Nat} (h : hget u id ≠ none) : id ∈ u.map (·.1) := by
  induction u with
  | nil => exact (h rfl).elim
  | cons p r ih =>
    obtain ⟨t, o⟩ := p
    simp only [hget] at h
    cases hq : Nat.beq t id with
    | true => simp [Nat.eq_of_beq_eq_true hq]
    | false => rw [hq] at h; exact List.mem_cons_of_mem _ (ih h)
/-- A step sees what it looks at alone. -/
theorem StepF.of {all : Array Oper} {E E' : Nat → AV} {H H' : Nat → Option Obj} {o : Oper} {ev : Ev} (h : StepF P A fid C all E H o ev) (he : ∀ t ∈ lookT all o, E' t = E t) (hh : ∀ id ∈ ev.log.tch, H' id = H id) : StepF P A fid C all E' H' o ev := by
  obtain ⟨h1, h2⟩ := h
  have hE : envAt E' o = envAt E o := by
    funext x
    cases x with
    | tmp t =>
      simp only [envAt]
      cases hc : (tmpsOf o.op.operands.toList).contains t with
      | true =>
        rw [he t (List.mem_append_left _ (List.contains_iff_mem.1 hc))]
      | false => rfl
    | _ => rfl
  refine ⟨?_, ?_⟩
  · split at h1
    · exact h1
    · rename_i j w hg
      obtain ⟨t, e1, e2⟩ := h1
      refine ⟨t, e1, ?_⟩
      rw [he t ?_]; exact e2
      unfold lookT
      rw [hg]
      simp only [e1]
      exact List.mem_append_right _ (by simp)
  · split at h2
    · rename_i hw
      rw [if_pos hw, hE]
      refine ⟨?_, h2.2⟩
      have : restrF (idsE o (envAt E o)) H' = restrF (idsE o (envAt E o)) H := by
        funext id
        unfold restrF
        cases hc : (idsE o (envAt E o)).contains id with
        | true =>
          simp only [cond_true]
          refine hh id ?_
          rw [h2.2]
          exact List.contains_iff_mem.1 hc
        | false => rfl
      rw [this]; exact h2.1
    · rename_i hw
      rw [if_neg hw]; exact h2
/-- In whatever order. -/
theorem wpAny_ok (hC : SoundC P A.te Gl C) {ops : Array Oper} {Q : Exit → Act → World → Prop} {evs : List Ev} {E E' : Nat → AV} {H H' : Nat → Option Obj}
    (hrun : Run P A fid C ops ops.toList E H evs E' H') (hdst : ∀ o ∈ ops.toList, dstOk n lo o = true) (hed : edgesOk 0 ops.toList = true) (hlog : logOk ops (Region.before ops) 0 ops.toList (evs.map Ev.log) = true)
    (hQ : ∀ (σ : St) a w, look σ.env = E' → hget σ.heap = H' → Ok A.te Gl w0 M n lo a0 σ a w → Q .normal a w) :
    ∀ (fuel : Nat) (listed : Array Bool) (σ : St) (a : Act) (w : World), listed.size = ops.size → listed.toList.count false ≤ fuel → Closed ops (fun i => listed.getD i false) →
      look σ.env = envS (fun i => listed.getD i false) 0 ops.toList evs E → hget σ.heap = heapS (fun i => listed.getD i false) 0 ops.toList evs H → Ok A.te Gl w0 M n lo a0 σ a w → wpAny P .any ops Q fuel listed a w := by
  obtain ⟨hlen, hE', hH', hst⟩ := run_steps hrun 0
  have hev : ∀ (i : Nat) o, ops[i]? = some o → ∃ e, evs[i]? = some e := by
    intro i o ho
    have : i < ops.size := (Array.getElem?_eq_some_iff.1 ho).1
    have : i < evs.length := by rw [hlen, Array.length_toList]; exact this
    exact ⟨evs[i], List.getElem?_eq_getElem this⟩
  have hoe : ∀ (i : Nat) e, evs[i]? = some e → ∃ o, ops[i]? = some o := by
    intro i e he
    have : i < evs.length := (List.getElem?_eq_some_iff.1 he).1
    have : i < ops.size := by rw [hlen, Array.length_toList] at this; exact this
    exact ⟨ops[i], Array.getElem?_eq_getElem this⟩
  have htl : ∀ (i : Nat), ops.toList[i]? = ops[i]? := fun i => Array.getElem?_toList
  have hend : ∀ (listed : Array Bool) (σ : St) (a : Act) (w : World), listed.size = ops.size → Region.ready .any ops listed = [] →
      look σ.env = envS (fun i => listed.getD i false) 0 ops.toList evs E → hget σ.heap = heapS (fun i => listed.getD i false) 0 ops.toList evs H → Ok A.te Gl w0 M n lo a0 σ a w → Q .normal a w := by
    intro listed σ a w hsz hr h1 h2 hok
    have hall : ∀ i, i < ops.size → listed.getD i false = true := by
      intro i
      induction i using Nat.strongRecOn with
      | _ i ih =>
        intro hi
        cases hq : listed.getD i false with
        | true => rfl
        | false =>
          exfalso
          have ho : ops[i]? = some ops[i] := Array.getElem?_eq_getElem hi
          have : i ∈ Region.ready .any ops listed := by
            rw [mem_ready]
            refine ⟨?_, _, ho, fun e he hb => ?_⟩
            · rw [Array.getD_eq_getD_getElem?, Array.getElem?_eq_getElem (by omega)] at hq ⊢
              exact hq
            · have := edgesOk_spec ops.toList 0 hed i _ (by rw [htl]; exact ho) e (by simpa using he) hb
              exact ih e.on (by omega) (by omega)
          rw [hr] at this; simp at this
    refine hQ σ a w ?_ ?_ hok
    · rw [h1, hE']
      funext t
      refine envS_agree _ _ _ _ _ rfl fun j o ho _ => ?_
      rw [htl] at ho
      simp only [Nat.zero_add]
      exact hall j (Array.getElem?_eq_some_iff.1 ho).1
    · rw [h2, hH']
      funext t
      refine heapS_agree _ _ _ _ _ rfl fun j e he hl _ => ?_
      simp only [Nat.zero_add]
      exact hall j (by simpa using hl)
  intro fuel
  induction fuel with
  | zero =>
    intro listed σ a w hsz hc hcl h1 h2 hok
    have hr : Region.ready .any ops listed = [] := by
      cases hq : Region.ready .any ops listed with
      | nil => rfl
      | cons x xs =>
        exfalso
        have hx : x ∈ Region.ready .any ops listed := by rw [hq]; simp
        rw [mem_ready] at hx
        have hx := hx.1
        have hlt : x < listed.size := by
          rcases Nat.lt_or_ge x listed.size with q | q
          · exact q
          · rw [Array.getD_eq_getD_getElem?, Array.getElem?_eq_none q] at hx; simp at hx
        have : 0 < listed.toList.count false := by
          rw [List.count_pos_iff]
          rw [Array.getD_eq_getD_getElem?, Array.getElem?_eq_getElem hlt] at hx
          simp only [Option.getD_some] at hx
          rw [← hx]; simp
        omega
    exact ⟨hr, hend listed σ a w hsz hr h1 h2 hok⟩
  | succ fuel ih =>
    intro listed σ a w hsz hc hcl h1 h2 hok
    refine ⟨fun hr => hend listed σ a w hsz hr h1 h2 hok, fun i hi => ?_⟩
    rw [mem_ready] at hi
    obtain ⟨hli, o, ho, hpre⟩ := hi
    have hpre : ∀ e ∈ o.after.toList, Region.binds .any e = true → listed.getD e.on false = true := fun e he hb => hpre e (by simpa using he) hb
    obtain ⟨ev, hevi⟩ := hev i o ho
    have hin : i < ops.size := (Array.getElem?_eq_some_iff.1 ho).1
    have hlif : listed.getD i false = false := by
      rw [Array.getD_eq_getD_getElem?, Array.getElem?_eq_getElem (by omega)] at hli ⊢
      exact hli
    have ho' : ops.toList[i]? = some o := by rw [htl]; exact ho
    -- who is not before or behind stands apart
    have hlt : ∀ (j : Nat) oj ej, ops[j]? = some oj → evs[j]? = some ej → j < i → listed.getD j false = false → Pair ops oj o ej.log ev.log := by
      intro j oj ej hoj hej hji hs
      rcases logOk_spec ops.toList (evs.map Ev.log) 0 hlog j i oj o ej.log ev.log hji (by rw [htl]; exact hoj) ho' (by simp [hej]) (by simp [hevi]) with hb | hb
      · simp only [Nat.zero_add] at hb
        have : listed.getD j false = true := before_bit hcl i o ho hpre j hb
        rw [hs] at this; cases this
      · exact pairOk_spec hb
    have hgt : ∀ (j : Nat) oj ej, ops[j]? = some oj → evs[j]? = some ej → i < j → listed.getD j false = true → Pair ops o oj ev.log ej.log := by
      intro j oj ej hoj hej hji hs
      rcases logOk_spec ops.toList (evs.map Ev.log) 0 hlog i j o oj ev.log ej.log hji ho' (by rw [htl]; exact hoj) (by simp [hevi]) (by simp [hej]) with hb | hb
      · simp only [Nat.zero_add] at hb
        have : listed.getD i false = true := before_bit hcl j oj hoj (hcl j oj hoj hs) i hb
        rw [hlif] at this; cases this
      · exact pairOk_spec hb
    have hsf := hst i o ev ho' hevi
    simp only [Nat.zero_add] at hsf
    -- the step, where we are
    have hsf' : StepF P A fid C ops (look σ.env) (hget σ.heap) o ev := by
      refine hsf.of (fun t ht => ?_) (fun id hid => ?_)
      · rw [h1]
        refine envS_agree _ _ _ _ _ rfl fun j oj hoj hd => ?_
        rw [htl] at hoj
        obtain ⟨ej, hej⟩ := hev j oj hoj
        simp only [Nat.zero_add]
        rcases Nat.lt_trichotomy j i with q | rfl | q
        · simp only [q, decide_true]
          cases hs : listed.getD j false with
          | true => rfl
          | false => exact ((hlt j oj ej hoj hej q hs).dl t hd ht).elim
        · simp [hlif]
        · have : ¬ j < i := by omega
          simp only [this, decide_false]
          cases hs : listed.getD j false with
          | false => rfl
          | true => exact ((hgt j oj ej hoj hej q hs).ld t hd ht).elim
      · rw [h2]
        refine heapS_agree _ _ _ _ _ rfl fun j ej hej hl hd => ?_
        obtain ⟨oj, hoj⟩ := hoe j ej hej
        have hw : id ∈ ej.log.wr := by
          have hs := (hst j oj ej (by rw [htl]; exact hoj) hej).2
          split at hs
          · rw [hs.2]; exact hget_wr hd
          · rw [hs.2.1] at hd; exact (hd rfl).elim
        simp only [Nat.zero_add]
        rcases Nat.lt_trichotomy j i with q | rfl | q
        · simp only [q, decide_true]
          cases hs : listed.getD j false with
          | true => rfl
          | false => exact ((hlt j oj ej hoj hej q hs).wt id hw hid).elim
        · simp [hlif]
        · have : ¬ j < i := by omega
          simp only [this, decide_false]
          cases hs : listed.getD j false with
          | false => rfl
          | true => exact ((hgt j oj ej hoj hej q hs).tw id hw hid).elim
    -- what comes next
    have hset : ∀ j, (listed.setIfInBounds i true).getD j false = (if j = i then true else listed.getD j false) := by
      intro j
      by_cases hj : j = i
      · subst hj
        rw [if_pos rfl, Array.getD_eq_getD_getElem?, Array.getElem?_setIfInBounds]
        simp [show j < listed.size by omega]
      · rw [if_neg hj, getD_set_ne false (fun h => hj h.symm)]
    have hnext : ∀ (σ' : St) (a' : Act) (w' : World), look σ'.env = putF (look σ.env) o.dst ev.v → hget σ'.heap = hpU ev.u (hget σ.heap) → Ok A.te Gl w0 M n lo a0 σ' a' w' → wpAny P .any ops Q fuel (listed.setIfInBounds i true) a' w' := by
      intro σ' a' w' e1 e2 hok'
      refine ih _ σ' a' w' (by simp [hsz]) ?_ ?_ ?_ ?_ hok'
      · have hi' : i < listed.toList.length := by simp; omega
        have hfi : listed.toList[i] = false := by
          rw [Array.getD_eq_getD_getElem?, Array.getElem?_eq_getElem (by omega)] at hlif
          simpa using hlif
        have := List.count_set (a := true) (b := false) (l := listed.toList) (i := i) hi'
        rw [Array.toList_setIfInBounds, this, hfi]
        simp only [beq_self_eq_true, if_true]
        have hpos : 0 < listed.toList.count false := by
          rw [List.count_pos_iff, ← hfi]; exact List.getElem_mem hi'
        have hz : (if (true == false) = true then 1 else 0) = 0 := rfl
        rw [hz]
        clear this
        omega
      · intro j oj hoj hs e he hb
        simp only [] at hs ⊢
        rw [hset] at hs ⊢
        split
        · rfl
        · split at hs
          · rename_i hji
            subst hji
            rw [ho] at hoj; cases hoj
            exact hpre e he hb
          · exact hcl j oj hoj hs e he hb
      · rw [e1, h1]
        funext t
        by_cases ht : o.dst = some t
        · rw [ht]
          simp only [putF, if_true]
          have hle := envS_next ops.toList evs 0 i E o ev ho' hevi
          have : envS (fun x => decide (x < 0 + i + 1)) 0 ops.toList evs E t = ev.v := by rw [hle, ht]; simp [putF]
          rw [← this]
          refine envS_agree _ _ _ _ _ rfl fun j oj hoj hd => ?_
          rw [htl] at hoj
          obtain ⟨ej, hej⟩ := hev j oj hoj
          simp only [Nat.zero_add, hset]
          rcases Nat.lt_trichotomy j i with q | rfl | q
          · have hne : ¬ j = i := by omega
            have hl : j < i + 1 := by omega
            simp only [hne, hl, decide_true, if_false]
            cases hs : listed.getD j false with
            | true => rfl
            | false => exact ((hlt j oj ej hoj hej q hs).dd t hd ht).elim
          · simp
          · have hne : ¬ j = i := by omega
            have hl : ¬ j < i + 1 := by omega
            simp only [hne, hl, decide_false, if_false]
            cases hs : listed.getD j false with
            | false => rfl
            | true => exact ((hgt j oj ej hoj hej q hs).dd t ht hd).elim
        · have : ∀ (E : Nat → AV) v, putF E o.dst v t = E t := by
            intro E v
            cases hq : o.dst with
            | none => rfl
            | some u =>
              show (if u = t then v else E t) = E t
              rw [if_neg]; rintro rfl; exact ht hq
          rw [this]
          refine envS_agree _ _ _ _ _ rfl fun j oj hoj hd => ?_
          rw [htl] at hoj
          simp only [Nat.zero_add, hset]
          split
          · rename_i hji; subst hji; rw [ho] at hoj; cases hoj; exact (ht hd).elim
          · rfl
      · rw [e2, h2]
        funext id
        by_cases ht : hget ev.u id = none
        · have : ∀ (H : Nat → Option Obj), hpU ev.u H id = H id := by intro H; unfold hpU; rw [ht]
          rw [this]
          refine heapS_agree _ _ _ _ _ rfl fun j ej hej hl hd => ?_
          simp only [Nat.zero_add, hset]
          split
          · rename_i hji; subst hji; rw [hevi] at hej; cases hej; exact (hd ht).elim
          · rfl
        · have hle := heapS_next ops.toList evs 0 i H o ev ho' hevi
          have : hpU ev.u (heapS (fun i => listed.getD i false) 0 ops.toList evs H) id = heapS (fun x => decide (x < 0 + i + 1)) 0 ops.toList evs H id := by
            rw [hle]
            unfold hpU
            cases hq : hget ev.u id with
            | none => exact (ht hq).elim
            | some o => rfl
          rw [this]
          have hwi : id ∈ ev.log.wr := by
            have hs := hsf.2
            split at hs
            · rw [hs.2]; exact hget_wr ht
            · rw [hs.2.1] at ht; exact (ht rfl).elim
          refine heapS_agree _ _ _ _ _ rfl fun j ej hej hl hd => ?_
          obtain ⟨oj, hoj⟩ := hoe j ej hej
          have hw : id ∈ ej.log.wr := by
            have hs := (hst j oj ej (by rw [htl]; exact hoj) hej).2
            split at hs
            · rw [hs.2]; exact hget_wr hd
            · rw [hs.2.1] at hd; exact (hd rfl).elim
          simp only [Nat.zero_add, hset]
          rcases Nat.lt_trichotomy j i with q | rfl | q
          · have hne : ¬ j = i := by omega
            have hl : j < i + 1 := by omega
            simp only [hne, hl, decide_true, if_false]
            cases hs : listed.getD j false with
            | true => rfl
            | false => exact ((hlt j oj ej hoj hej q hs).ww id hw hwi).elim
          · simp
          · have hne : ¬ j = i := by omega
            have hl : ¬ j < i + 1 := by omega
            simp only [hne, hl, decide_false, if_false]
            cases hs : listed.getD j false with
            | false => rfl
            | true => exact ((hgt j oj ej hoj hej q hs).ww id hwi hw).elim
    have hg : guardK ops σ o (fun want _ => some want) = some ev.want := by
      have := hsf'.1
      unfold guardK
      split at this
      · rename_i hg; rw [hg]; simp [this]
      · rename_i j wn hg
        obtain ⟨t, t1, t2⟩ := this
        rw [hg]
        rcases t2 with ⟨b, t2, t3⟩ | ⟨t2, t3⟩
        · simp only [t1, t2]
          rw [t3]
          cases b <;> cases wn <;> rfl
        · simp only [t1, t2]
          rw [t3]
    obtain ⟨want, _, g1, g2, _⟩ := guardK_ok hg hok
    cases g1
    have hd : dstOk n lo o = true := hdst o (List.mem_of_getElem? ho')
    unfold wpOp
    rw [ho]
    simp only [g2]
    cases hwant : ev.want with
    | true =>
      simp only [if_true]
      have hs2 := hsf'.2
      rw [if_pos hwant] at hs2
      have hsk : stepK P A fid C σ o (fun v u => some (v, u)) = some (ev.v, ev.u) := by
        unfold stepK
        rw [evO_look, restr_hget]
        exact hs2.1
      refine .inl (stepK_ok hC hsk hok hd fun v u v' w' hk hok' => ?_)
      cases hk
      exact hnext _ _ _ (look_put _ _ _) (hget_hput _ _) hok'
    | false =>
      simp only [Bool.false_eq_true, if_false]
      have hs2 := hsf'.2
      rw [hwant] at hs2
      simp only [Bool.false_eq_true, if_false] at hs2
      obtain ⟨c, hcw, hc'⟩ := hok
      refine hnext ⟨put σ.env o.dst (.tup []), σ.heap⟩ _ _ ?_ ?_ ⟨c, hcw, hc'.te, hc'.hp, hc'.mem, hc'.regs.put (fun d hd' => (dst_lt hd d hd').1) (rep_tup0 _), hc'.glob, pin_put hd hc'.pin undef⟩
      · rw [hs2.1]; exact look_put _ _ _
      · rw [hs2.2.1]; funext id; rfl
theorem ok_grew {σ : St} {a : Act} {w w' : World} (h : Ok A.te Gl w0 M n lo a0 σ a w) (g : Grew w w') : Ok A.te Gl w0 M n lo a0 σ a w' := by
  obtain ⟨c, rfl, h⟩ := h
  have he := Ext.grew h.mem g
  exact ⟨{ c with w := w' }, rfl, h.te, h.hp, h.mem.grew g, he.regs h.regs, h.glob.ext he, h.pin⟩
/-- A region whose order is drawn. -/
theorem regionD_ok (hC : SoundC P A.te Gl C) (hmx : P.follows .mixedOrders = true) {id : Nat} {ops : Array Oper} {Q : Exit → Act → World → Prop} {K : List Log → St → Option R} {rr : R} {σ : St} {a : Act} {w : World}
    (hs : runOpsD P A fid n lo C ops ops.toList [] σ K = some rr) (hed : edgesOk 0 ops.toList = true)
    (hK : ∀ lg σ', K lg σ' = some rr → logOk ops (Region.before ops) 0 ops.toList lg.reverse = true ∧ ∀ σ'' a w, look σ''.env = look σ'.env → hget σ''.heap = hget σ'.heap → Ok A.te Gl w0 M n lo a0 σ'' a w → Q .normal a w)
    (hok : Ok A.te Gl w0 M n lo a0 σ a w) : (Code.region id ops true).wp P Q a w := by
  obtain ⟨evs, σ', h1, h2, h3⟩ := runOpsD_run _ _ _ _ hs
  obtain ⟨k1, k2⟩ := hK _ _ h3
  rw [List.append_nil, List.reverse_reverse] at k1
  refine wp_region_any hmx (wpAny_ok hC h1 h2 hed k1 (fun σ'' a w e1 e2 hk => k2 σ'' a w e1 e2 hk) ops.size _ σ a _ (by simp) (by simp) ?_ ?_ ?_ (ok_grew hok ⟨rfl, rfl, rfl, Nat.le_refl _, fun _ _ => rfl⟩))
  · intro j o ho hs
    simp only [] at hs
    rw [Array.getD_eq_getD_getElem?, Array.getElem?_replicate] at hs
    split at hs <;> cases hs
  · rw [envS_none]
    intro j _
    rw [Array.getD_eq_getD_getElem?, Array.getElem?_replicate]
    split <;> rfl
  · rw [heapS_none]
    intro j _
    rw [Array.getD_eq_getD_getElem?, Array.getElem?_replicate]
    split <;> rfl
end
end Go.Eng
