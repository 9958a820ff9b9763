/- A function's code: what comes of it. -/
import Derived.Test.YtfkiapjkeopgfaaE24
import Derived.LoopN
set_option linter.all false
set_option linter.unusedVariables false
set_option linter.unusedSimpArgs false
set_option linter.deprecated false
namespace Go.Eng
open Go.RowKit
theorem beq_ne {a b : Nat} (h : a ≠ b) : Nat.beq a b = false := by
  cases hb : Nat.beq a b with
  | true => exact (h (Nat.eq_of_beq_eq_true hb)).elim
  | false => rfl
theorem beq_eq (a : Nat) : Nat.beq a a = true := Nat.beq_refl a
theorem lkr_none : ∀ {l : List (Nat × Nat)} {n : Nat}, (l.map (·.2)).contains n = false → lkr l n = none
  | [], _, _ => rfl
  | (o, m) :: r, n, h => by
    simp only [List.map_cons, List.contains_cons, Bool.or_eq_false_iff, beq_eq_false_iff_ne, ne_eq] at h
    simp only [lkr, beq_ne (fun e => h.1 e.symm), cond_false]
    exact lkr_none h.2
theorem lkr_mem : ∀ {l : List (Nat × Nat)} {n o : Nat}, lkr l n = some o → (o, n) ∈ l
  | (o, m) :: r, n, u, h => by
    simp only [lkr] at h
    cases hb : Nat.beq m n with
    | true =>
      rw [hb] at h
      have := Nat.eq_of_beq_eq_true hb
      simp only [cond_true, Option.some.injEq] at h
      subst h; subst this; simp
    | false => rw [hb] at h; exact List.mem_cons_of_mem _ (lkr_mem h)
theorem lk_mem : ∀ {l : List (Nat × Nat)} {n o : Nat}, lk l o = some n → (o, n) ∈ l
  | (o, m) :: r, n, u, h => by
    simp only [lk] at h
    cases hb : Nat.beq o u with
    | true =>
      rw [hb] at h
      have := Nat.eq_of_beq_eq_true hb
      simp only [cond_true, Option.some.injEq] at h
      subst h; subst this; simp
    | false => rw [hb] at h; exact List.mem_cons_of_mem _ (lk_mem h)
theorem lkr_of_mem : ∀ {l : List (Nat × Nat)} {n o : Nat}, dupF (l.map (·.2)) = true → (o, n) ∈ l → lkr l n = some o
  | (o', m) :: r, n, o, hd, h => by
    simp only [List.map_cons, dupF, Bool.and_eq_true, Bool.not_eq_true'] at hd
    rcases List.mem_cons.1 h with h | h
    · cases h; simp [lkr]
    · have hne : m ≠ n := by
        rintro rfl
        have : (r.map (·.2)).contains m = true := by simp only [List.contains_eq_mem, decide_eq_true_eq]; exact List.mem_map.2 ⟨_, h, rfl⟩
        rw [this] at hd; cases hd.1
      simp only [lkr, beq_ne hne, cond_false]
      exact lkr_of_mem hd.2 h
theorem old_one : ∀ {l : List (Nat × Nat)} {n n' o : Nat}, dupF (l.map (·.1)) = true → (o, n) ∈ l → (o, n') ∈ l → n = n'
  | (o', m) :: r, n, n', o, hd, h, h' => by
    simp only [List.map_cons, dupF, Bool.and_eq_true, Bool.not_eq_true'] at hd
    have hnot : ∀ x, (o', x) ∈ r → False := by
      intro x hx
      have : (r.map (·.1)).contains o' = true := by simp only [List.contains_eq_mem, decide_eq_true_eq]; exact List.mem_map.2 ⟨_, hx, rfl⟩
      rw [this] at hd; cases hd.1
    rcases List.mem_cons.1 h with h | h <;> rcases List.mem_cons.1 h' with h' | h'
    · cases h; cases h'; rfl
    · cases h; exact (hnot _ h').elim
    · cases h'; exact (hnot _ h).elim
    · exact old_one hd.2 h h'
theorem hget_ren (f : Obj → Obj) (h : List (Nat × Obj)) (n : Nat) : ∀ (l : List (Nat × Nat)), dupF (l.map (·.2)) = true →
    hget (l.filterMap fun p => match hget h p.1 with | some o => some (p.2, f o) | none => none) n = (lkr l n).bind fun o => (hget h o).map f
  | [], _ => rfl
  | (o, m) :: r, hd => by
    simp only [List.map_cons, dupF, Bool.and_eq_true, Bool.not_eq_true'] at hd
    have ih := hget_ren f h n r hd.2
    rw [List.filterMap_cons]
    by_cases e : m = n
    · subst e
      simp only [lkr, beq_eq, cond_true, Option.bind_some]
      cases hq : hget h o with
      | none =>
        simp only
        rw [ih, lkr_none hd.1]; rfl
      | some ob => simp only [hget, beq_eq, cond_true]; rfl
    · simp only [lkr, beq_ne e, cond_false]
      cases hq : hget h o with
      | none => simp only; exact ih
      | some ob => simp only [hget, beq_ne e, cond_false]; exact ih
theorem look_kept (f : AV → AV) (hf : f .undef = .undef) (env : List (Nat × AV)) (t : Nat) : ∀ (keep : List Nat), look (keep.map fun t => (t, f (look env t))) t = f (look env t) ∨ look (keep.map fun t => (t, f (look env t))) t = .undef
  | [] => .inr rfl
  | u :: r => by
    simp only [List.map_cons, look]
    cases hq : Nat.beq u t with
    | true =>
      have := Nat.eq_of_beq_eq_true hq
      subst this
      exact .inl rfl
    | false => exact look_kept f hf env t r
section
variable {P : Program} {A : Ann} {fid : Nat} {Gl : Nat → Option Go.Obj} {C : CallF} {w0 : World} {M : MS} {n lo : Nat} {a0 : Array Value} {R : Type}
theorem renewS_rep {c c' : Cx} {l : List (Nat × Nat)} {h : List (Nat × Obj)} (hte : c'.te = c.te) (hw : c'.w = c.w) (hS : c'.S = c.S) (hsub : ∀ id o, hget h id = some o → c.hp id = some o)
    (hβ : ∀ id n, lk l id = some n → c'.β n = c.β id) (hhp : ∀ id n, lk l id = some n → c'.hp n = (hget h id).map (renewO l h))
    {s : S} {v : Value} (hr : RepS c s v) : RepS c' (renewS l h s) v := by
  cases s with
  | undef => exact hr
  | bool b => exact hr
  | int k n => exact hr
  | str s => exact hr
  | err e => simp only [renewS, RepS] at hr ⊢; rw [hte]; exact hr
  | fn f => exact hr
  | nilS => exact hr
  | sl k xs => simp only [renewS, RepS] at hr ⊢; rw [hte, hw, hS]; exact hr
  | vw id g =>
    simp only [renewS]
    split
    · rename_i k xs gen hist frz nn hq hl
      cases hg : Nat.beq g gen with
      | false => exact hr.1
      | true =>
        have hg := Nat.eq_of_beq_eq_true hg
        subst hg
        obtain ⟨h1, o, h2, h3⟩ := hr
        have := hsub id _ hq
        rw [h2] at this; cases this
        refine ⟨h1, _, by rw [hhp id nn hl, hq]; rfl, ?_⟩
        intro k' xs' gen' hist' frz' he
        cases he
        refine ⟨Nat.le_refl _, fun _ => ?_, fun h => (h rfl).elim⟩
        have := (h3 _ _ _ _ _ rfl).2.1 rfl
        unfold VwNow at this ⊢
        rw [hβ id nn hl, hw]; exact this
    · exact hr.1
  | pv id g off len =>
    simp only [renewS]
    split
    · rename_i k xs gen hist frz nn hq hl
      cases hg : Nat.beq g gen with
      | false => exact hr.1
      | true =>
        have hg := Nat.eq_of_beq_eq_true hg
        subst hg
        obtain ⟨h1, o, h2, h3⟩ := hr
        have := hsub id _ hq
        rw [h2] at this; cases this
        refine ⟨h1, _, by rw [hhp id nn hl, hq]; rfl, ?_⟩
        intro k' xs' gen' hist' frz' he
        cases he
        refine ⟨Nat.le_refl _, fun _ => ?_⟩
        have := (h3 _ _ _ _ _ rfl).2 rfl
        unfold VwNow at this ⊢
        rw [hβ id nn hl, hw]; exact this
    · exact hr.1
  | ptr id g i p =>
    simp only [renewS]
    split
    · rename_i k xs gen hist frz nn hq hl
      cases hg : Nat.beq g gen with
      | false => exact hr.1
      | true =>
        have hg := Nat.eq_of_beq_eq_true hg
        subst hg
        obtain ⟨h1, o, h2, h3, h4, h5⟩ := hr
        have := hsub id _ hq
        rw [h2] at this; cases this
        refine ⟨h1, _, by rw [hhp id nn hl, hq]; rfl, h3, fun cs he => ?_, fun k' xs' gen' hist' frz' he => ?_⟩
        · cases he
        · cases he
          refine ⟨Nat.le_refl _, fun _ => ?_⟩
          have := (h5 _ _ _ _ _ rfl).2 rfl
          rw [hβ id nn hl]; exact this
    · rename_i cs nn hq hl
      obtain ⟨h1, o, h2, h3, h4, h5⟩ := hr
      have := hsub id _ hq
      rw [h2] at this; cases this
      refine ⟨h1, _, by rw [hhp id nn hl, hq]; rfl, h3, fun cs' he hne => ?_, fun k' xs' gen' hist' frz' he => ?_⟩
      · cases he
        rw [hβ id nn hl]
        exact h4 cs rfl (by rintro rfl; exact hne rfl)
      · cases he
    · exact hr.1
  | mp id =>
    simp only [renewS]
    split
    · rename_i k es nn hq hl
      obtain ⟨h1, o, h2, h3⟩ := hr
      have := hsub id _ hq
      rw [h2] at this; cases this
      refine ⟨h1, _, by rw [hhp id nn hl, hq]; rfl, fun k' es' he => ?_⟩
      rw [hβ id nn hl]
      exact h3 _ _ rfl
    · exact hr.1
  | clo f k x => simp only [renewS, RepS] at hr ⊢; rw [hte, hw, hS]; exact hr
  | ipt k x p => simp only [renewS, RepS] at hr ⊢; rw [hte, hw, hS]; exact hr
  | mv k xs => exact hr
  | io k x => exact hr
theorem lr_renew {c c' : Cx} {l : List (Nat × Nat)} {h : List (Nat × Obj)} (hs : ∀ s v, RepS c s v → RepS c' (renewS l h s) v) : ∀ {cs : List S} {vs : List Value}, LR (RepS c) cs vs → LR (RepS c') (cs.map (renewS l h)) vs
  | [], [], _ => trivial
  | _ :: _, _ :: _, q => ⟨hs _ _ q.1, lr_renew hs q.2⟩
  | [], _ :: _, q => q.elim
  | _ :: _, [], q => q.elim
theorem lr_renewP {c c' : Cx} {l : List (Nat × Nat)} {h : List (Nat × Obj)} (hs : ∀ s v, RepS c s v → RepS c' (renewS l h s) v) : ∀ {vs : List (Bool × List S)} {us : List Value},
    LR (fun (p : Bool × List S) u => if p.1 then ∃ a, u = Value.agg a ∧ LR (RepS c) p.2 a.toList else ∃ s, p.2 = [s] ∧ RepS c s u) vs us →
    LR (fun (p : Bool × List S) u => if p.1 then ∃ a, u = Value.agg a ∧ LR (RepS c') p.2 a.toList else ∃ s, p.2 = [s] ∧ RepS c' s u) (vs.map fun v => (v.1, v.2.map (renewS l h))) us
  | [], [], _ => trivial
  | (true, cs) :: _, _ :: _, q => by
    obtain ⟨⟨a, q1, q2⟩, q3⟩ := q
    exact ⟨⟨a, q1, lr_renew hs q2⟩, lr_renewP hs q3⟩
  | (false, cs) :: _, _ :: _, q => by
    obtain ⟨⟨s, q1, q2⟩, q3⟩ := q
    dsimp only at q1
    subst q1
    exact ⟨⟨renewS l h s, rfl, hs _ _ q2⟩, lr_renewP hs q3⟩
  | [], _ :: _, q => q.elim
  | _ :: _, [], q => q.elim
theorem renewV_rep {c c' : Cx} {l : List (Nat × Nat)} {h : List (Nat × Obj)} (hs : ∀ s v, RepS c s v → RepS c' (renewS l h s) v) {a : AV} {v : Value} (hr : RepV c a v) : RepV c' (renewV l h a) v := by
  cases a with
  | undef => trivial
  | val g cs =>
    cases g with
    | true => obtain ⟨arr, h1, h2⟩ := hr; exact ⟨arr, h1, lr_renew hs h2⟩
    | false => obtain ⟨s, rfl, h2⟩ := hr; exact ⟨_, rfl, hs _ _ h2⟩
  | tup vs => obtain ⟨arr, h1, h2⟩ := hr; exact ⟨arr, h1, lr_renewP hs h2⟩
theorem renewO_live (l : List (Nat × Nat)) (h : List (Nat × Obj)) (o : Obj) : (renewO l h o).live = o.live := by
  cases o with
  | row k xs g hi f => rfl
  | box cs => cases cs <;> rfl
  | mp k es => rfl
/-- A loop's head. -/
theorem norm_ok {keep : List Nat} {σ : St} {a : Act} {w : World} (hok : Ok A.te Gl w0 M n lo a0 σ a w) : Ok A.te Gl w0 M n lo a0 (norm keep σ) a w := by
  obtain ⟨c, rfl, hc⟩ := hok
  have hsub : ∀ id o, hget σ.heap id = some o → c.hp id = some o := by
    intro id o ho
    rw [hc.hp]; exact ho
  unfold norm
  generalize named2 σ.heap keep (named σ.env keep []) = l
  dsimp only
  cases hd : dupF (l.map (·.1)) && dupF (l.map (·.2)) with
  | false =>
    simp only [cond_false]
    refine ⟨{ c with hp := fun _ => none }, rfl, hc.te, rfl, ⟨hc.mem.fr, hc.mem.below, fun id o ho => (by cases ho), fun id b hl => ?_, fun id id' b hl _ => ?_, hc.mem.sup, hc.mem.inf⟩, ⟨hc.regs.size, hc.regs.defers, fun t => trivial⟩, hc.glob, hc.pin⟩
    · obtain ⟨_, o, h2, _⟩ := hl; cases h2
    · obtain ⟨_, o, h2, _⟩ := hl; cases h2
  | true =>
    simp only [cond_true]
    simp only [Bool.and_eq_true] at hd
    obtain ⟨hd1, hd2⟩ := hd
    have hgr := fun n => hget_ren (renewO l σ.heap) σ.heap n l hd2
    generalize hH : (l.filterMap fun p => match hget σ.heap p.1 with | some o => some (p.2, renewO l σ.heap o) | none => none) = H' at hgr ⊢
    obtain ⟨c', hc'⟩ : ∃ c' : Cx, c' = { c with hp := hget H', β := fun j => (lkr l j).bind c.β } := ⟨_, rfl⟩
    have e1 : c'.te = c.te := by rw [hc']
    have e2 : c'.w = c.w := by rw [hc']
    have e3 : c'.S = c.S := by rw [hc']
    have e4 : c'.hp = hget H' := by rw [hc']
    have e5 : ∀ j, c'.β j = (lkr l j).bind c.β := fun j => by rw [hc']
    have hfw : ∀ id n, lk l id = some n → lkr l n = some id := fun id n h => lkr_of_mem hd2 (lk_mem h)
    have hβ : ∀ id n, lk l id = some n → c'.β n = c.β id := fun id n h => by rw [e5, hfw id n h]; rfl
    have hhp : ∀ id n, lk l id = some n → c'.hp n = (hget σ.heap id).map (renewO l σ.heap) := fun id n h => by rw [e4, hgr, hfw id n h]; rfl
    have hs : ∀ s v, RepS c s v → RepS c' (renewS l σ.heap s) v := fun s v hr => renewS_rep e1 e2 e3 hsub hβ hhp hr
    have hlive : ∀ id b, Live c' id b → ∃ o, lkr l id = some o ∧ Live c o b := by
      rintro id b ⟨h1, o, h2, h3⟩
      rw [e4, hgr] at h2
      rw [e5] at h1
      cases hq : lkr l id with
      | none => rw [hq] at h2; cases h2
      | some u =>
        rw [hq] at h1 h2
        simp only [Option.bind_some] at h1 h2
        cases hq' : hget σ.heap u with
        | none => rw [hq'] at h2; cases h2
        | some o' =>
          rw [hq'] at h2
          simp only [Option.map_some, Option.some.injEq] at h2
          subst h2
          rw [renewO_live] at h3
          exact ⟨u, rfl, h1, o', hsub u o' hq', h3⟩
    refine ⟨c', e2, e1.trans hc.te, e4, ⟨by rw [e2]; exact hc.mem.fr, by rw [e2, e3]; exact hc.mem.below, fun id o ho => ?_, fun id b hl => ?_, fun id id' b hl hl' => ?_, by rw [e3]; exact hc.mem.sup, by rw [e3]; exact hc.mem.inf⟩,
      ⟨hc.regs.size, hc.regs.defers, fun t => ?_⟩, by rw [e2, e3]; exact hc.glob, hc.pin⟩
    · rw [e4, hgr] at ho
      cases hq : lkr l id with
      | none => rw [hq] at ho; cases ho
      | some u =>
        rw [hq] at ho
        simp only [Option.bind_some] at ho
        cases hq' : hget σ.heap u with
        | none => rw [hq'] at ho; cases ho
        | some o' =>
          rw [hq'] at ho
          simp only [Option.map_some, Option.some.injEq] at ho
          subst ho
          have hro := hc.mem.obj u o' (hsub u o' hq')
          have hb : c'.β id = c.β u := by rw [e5, hq]; rfl
          cases o' with
          | row k xs gen hist frz =>
            simp only [RepO, renewO] at hro ⊢
            rw [hb]
            unfold RowIn at hro ⊢
            rw [e1, e2, e3]
            exact hro
          | mp k es =>
            obtain ⟨b, ents, clock, h1, h2, h3⟩ := hro
            exact ⟨b, ents, clock, hb.trans h1, by rw [e2]; exact h2, h3⟩
          | box cs =>
            intro hne
            obtain ⟨b, arr, h1, h2, h3⟩ := hro (by rintro rfl; exact hne rfl)
            refine ⟨b, arr, hb.trans h1, by rw [e2]; exact h2, ?_⟩
            rw [List.length_map]
            exact lr_renew hs h3
    · obtain ⟨o, _, h2⟩ := hlive id b hl
      rw [e2, e3]
      exact hc.mem.live o b h2
    · obtain ⟨o, h1, h2⟩ := hlive id b hl
      obtain ⟨o', h1', h2'⟩ := hlive id' b hl'
      have := hc.mem.one o o' b h2 h2'
      subst this
      exact old_one hd1 (lkr_mem h1) (lkr_mem h1')
    · rcases look_kept (renewV l σ.heap) rfl σ.env t keep with h | h
      · show RepV c' (look (keep.map fun t => (t, renewV l σ.heap (look σ.env t))) t) _
        rw [h]
        exact renewV_rep hs (hc.regs.rep t)
      · show RepV c' (look (keep.map fun t => (t, renewV l σ.heap (look σ.env t))) t) _
        rw [h]; trivial
def exC : Ex → Exit
  | .normal => .normal
  | .ret => .ret
  | .exit id => .exit id
theorem repO_slot {c : Cx} {n : Nat} {env : List (Nat × AV)} {a : Act} (h : Regs c n env a) (x : Operand) : RepV c (evalO env x) (a.eval x) := by
  cases x with
  | tmp t => exact h.rep t
  | const v => exact rep_const c v
  | global g => trivial
  | func f => exact ⟨_, rfl, rfl⟩
theorem runReg_ok (hC : SoundC P A.te Gl C) (hmx : P.follows .mixedOrders = true) {rr : R} (id : Nat) {ops : Array Oper} {d : Bool} {σ : St} {K : St → Option R} {a : Act} {w : World} {Q : Exit → Act → World → Prop}
    (h : runReg P A fid n lo C ops d σ K = some rr) (hok : Ok A.te Gl w0 M n lo a0 σ a w) (hK : ∀ σ' a' w', K σ' = some rr → Ok A.te Gl w0 M n lo a0 σ' a' w' → Q .normal a' w') : (Code.region id ops d).wp P Q a w := by
    cases d with
    | false =>
      refine wp_region (runOps_ok hC (fun σ' a' w' hk hok' => hK σ' a' w' hk hok') ops.toList (List.range ops.size) σ a w (by simp) (fun j i hj => ?_) h hok)
      rw [List.getElem?_range] at hj
      · cases hj; rw [Array.getElem?_toList]
      · have := (List.getElem?_eq_some_iff.1 hj).1
        simpa using this
    | true =>
      simp only [runReg] at h
      cases hed : edgesOk 0 ops.toList with
      | false => rw [hed] at h; cases h
      | true =>
        rw [hed] at h
        simp only [cond_true] at h
        refine regionD_ok hC hmx h hed (fun lg σ' hk => ?_) hok
        cases hl : logOk ops (Region.before ops) 0 ops.toList lg.reverse with
        | false => rw [hl] at hk; cases hk
        | true =>
          rw [hl] at hk
          simp only [cond_true] at hk
          refine ⟨rfl, fun σ'' a w e1 e2 hok' => hK σ' a w hk ?_⟩
          obtain ⟨c, hcw, hc⟩ := hok'
          exact ⟨c, hcw, hc.te, hc.hp.trans e2, hc.mem, ⟨hc.regs.size, hc.regs.defers, fun t => by rw [← e1]; exact hc.regs.rep t⟩, hc.glob, hc.pin⟩
theorem runCode_ok (hC : SoundC P A.te Gl C) (hmx : P.follows .mixedOrders = true) {fuel : Nat} {rr : R} : ∀ (c : Code) (blk : Nat) (σ : St) (K : Ex → St → Option R) (a : Act) (w : World) (Q : Exit → Act → World → Prop),
    runCode P A fid n lo fuel C blk c σ K = some rr → Ok A.te Gl w0 M n lo a0 σ a w → (∀ e σ' a' w', K e σ' = some rr → Ok A.te Gl w0 M n lo a0 σ' a' w' → Q (exC e) a' w') → c.wp P Q a w := by
  intro c
  induction c with
  | skip => intro blk σ K a w Q h hok hK; exact wp_skip (hK .normal σ a w h hok)
  | region id ops d =>
    intro blk σ K a w Q h hok hK
    simp only [runCode] at h
    split at h
    · exact runReg_ok hC hmx id h hok fun σ' a' w' hk hok' => hK .normal σ' a' w' hk hok'
    · rename_i keep _
      cases fuel with
      | zero => cases h
      | succ f => exact runReg_ok hC hmx id h (norm_ok hok) fun σ' a' w' hk hok' => hK .normal σ' a' w' hk hok'
  | seq x y ihx ihy =>
    intro blk σ K a w Q h hok hK
    simp only [runCode] at h
    refine wp_seq (ihx blk σ _ a w _ h hok fun e σ' a' w' hk hok' => ?_)
    cases e with
    | normal => exact ihy blk σ' K a' w' Q hk hok' hK
    | ret => exact hK .ret σ' a' w' hk hok'
    | exit id => exact hK (.exit id) σ' a' w' hk hok'
  | cond cnd x y ihx ihy =>
    intro blk σ K a w Q h hok hK
    simp only [runCode] at h
    split at h
    · rename_i v hv
      have hb : a.eval cnd = .bool v := by
        obtain ⟨c, rfl, hc⟩ := hok
        exact slot_rep (fun x => repO_slot hc.regs x) hv
      cases v with
      | true => exact wp_cond_true hb (ihx blk σ K a w Q h hok hK)
      | false => exact wp_cond_false hb (ihy blk σ K a w Q h hok hK)
    · cases h
  | block id x ih =>
    intro blk σ K a w Q h hok hK
    simp only [runCode] at h
    refine wp_block (ih id σ _ a w _ h hok fun e σ' a' w' hk hok' => ?_)
    cases e with
    | normal => exact hK .normal σ' a' w' hk hok'
    | ret => exact hK .ret σ' a' w' hk hok'
    | exit j =>
      show if j = id then Q .normal a' w' else Q (.exit j) a' w'
      dsimp only at hk
      cases hq : Nat.beq j id with
      | true =>
        rw [hq] at hk
        rw [if_pos (Nat.eq_of_beq_eq_true hq)]
        exact hK .normal σ' a' w' hk hok'
      | false =>
        rw [hq] at hk
        rw [if_neg (fun e => by rw [e] at hq; simp at hq)]
        exact hK (.exit j) σ' a' w' hk hok'
  | loop x ih =>
    intro blk σ K a w Q h hok hK
    simp only [runCode] at h
    have key : ∀ (m : Nat) (σ : St) (a : Act) (w : World), loopN (A.keep fid blk) (fun σ K' => runCode P A fid n lo fuel C blk x σ K') m σ K = some rr → Ok A.te Gl w0 M n lo a0 σ a w → Code.rounds P x Q m a w := by
      intro m
      induction m with
      | zero => intro σ a w h _; cases h
      | succ m ihm =>
        intro σ a w h hok
        simp only [loopN] at h
        rw [rounds_succ]
        refine ih blk σ _ a w _ h hok fun e σ' a' w' hk hok' => ?_
        cases e with
        | normal => exact ihm _ a' w' hk (norm_ok hok')
        | ret => exact hK .ret σ' a' w' hk hok'
        | exit id => exact hK (.exit id) σ' a' w' hk hok'
    exact wp_loop_rounds fuel (key fuel _ a w h (norm_ok hok))
  | exit id => intro blk σ K a w Q h hok hK; exact wp_exit (hK (.exit id) σ a w h hok)
  | ret => intro blk σ K a w Q h hok hK; exact wp_ret (hK .ret σ a w h hok)
  | _ => intros; rename_i h _ _; cases h
end
end Go.Eng
