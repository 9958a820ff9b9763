/- Memory that grows, and memory that is written: what was told stays told. -/
import Derived.Test.YtfkiapjkeopgfaaE2
set_option linter.all false
set_option linter.unusedVariables false
set_option linter.unusedSimpArgs false
set_option linter.deprecated false
namespace Go.Eng
open Go.RowKit
def Obj.isRow : Obj → Bool
  | .row .. => true
  | .box _ => false
  | .mp _ _ => false
structure Ext (c c' : Cx) : Prop where
  te : c'.te = c.te
  stab : ∀ b, c.S b → c'.w.heap[b]? = c.w.heap[b]?
  sub : ∀ b, c.S b → c'.S b
  ids : ∀ id s v, s.ids = [id] → RepS c s v → RepS c' s v
theorem Ext.rep {c c' : Cx} (h : Ext c c') {s : S} {v : Value} (hr : RepS c s v) : RepS c' s v := by
  cases s with
  | undef => exact hr
  | bool b => exact hr
  | int k n => exact hr
  | str s => exact hr
  | err e => simp only [RepS] at hr ⊢; rw [h.te]; exact hr
  | fn f => exact hr
  | nilS => exact hr
  | sl k xs => simp only [RepS] at hr ⊢; rw [h.te]; exact RepT.mono h.stab h.sub hr
  | vw id g => exact h.ids id _ v rfl hr
  | pv id g off len => exact h.ids id _ v rfl hr
  | ptr id g i p => exact h.ids id _ v rfl hr
  | mp id => exact h.ids id _ v rfl hr
  | clo f k x =>
    simp only [RepS] at hr ⊢
    obtain ⟨b, o, vs, hS, hv, ht, ha⟩ := hr
    exact ⟨b, o, vs, h.sub _ hS, hv, by rw [h.te]; exact RepT.mono h.stab h.sub ht, ha.of (h.stab _ hS)⟩
  | ipt k x p =>
    simp only [RepS] at hr ⊢
    obtain ⟨hp, b, o, vs, hS, hv, ht, ha⟩ := hr
    exact ⟨hp, b, o, vs, h.sub _ hS, hv, by rw [h.te]; exact RepT.mono h.stab h.sub ht, ha.of (h.stab _ hS)⟩
  | mv k xs => exact hr
  | io k x => exact hr
theorem Ext.repV {c c' : Cx} (h : Ext c c') {a : AV} {v : Value} (hr : RepV c a v) : RepV c' a v := by
  cases a with
  | undef => trivial
  | val g cs =>
    cases g with
    | true => obtain ⟨arr, hv, hl⟩ := hr; exact ⟨arr, hv, hl.mono fun _ _ _ => h.rep⟩
    | false => obtain ⟨s, hc, hs⟩ := hr; exact ⟨s, hc, h.rep hs⟩
  | tup vs =>
    obtain ⟨arr, hv, hl⟩ := hr
    refine ⟨arr, hv, hl.mono fun p _ u hu => ?_⟩
    split at hu
    · rename_i hp; rw [if_pos hp]; obtain ⟨a, h1, h2⟩ := hu; exact ⟨a, h1, h2.mono fun _ _ _ => h.rep⟩
    · rename_i hp; rw [if_neg hp]; obtain ⟨a, h1, h2⟩ := hu; exact ⟨a, h1, h.rep h2⟩
theorem Ext.regs {c c' : Cx} {n : Nat} {env : List (Nat × AV)} {a : Act} (h : Ext c c') (hr : Regs c n env a) : Regs c' n env a :=
  ⟨hr.size, hr.defers, fun t => h.repV (hr.rep t)⟩
theorem Ext.refl (c : Cx) : Ext c c := ⟨rfl, fun _ _ => rfl, fun _ h => h, fun _ _ _ _ h => h⟩
theorem Ext.trans {c c' c'' : Cx} (h : Ext c c') (k : Ext c' c'') : Ext c c'' :=
  ⟨k.te.trans h.te, fun b hb => (k.stab b (h.sub b hb)).trans (h.stab b hb), fun b hb => k.sub b (h.sub b hb), fun id s v hs hr => k.ids id s v hs (h.ids id s v hs hr)⟩
/-- Where blocks that are told stay as they are: an object is told as it was. -/
theorem Ext.repO {c c' : Cx} (h : Ext c c') {id : Nat} {o : Obj} (hβ : c'.β id = c.β id) (hb : ∀ b, c.β id = some b → o.live = true ∨ o.isRow = true → c'.w.heap[b]? = c.w.heap[b]?) (hr : RepO c id o) : RepO c' id o := by
  cases o with
  | box cs =>
    intro hne
    obtain ⟨b, arr, h1, ⟨T, fz, h2, h3⟩, h4⟩ := hr hne
    exact ⟨b, arr, by rw [hβ]; exact h1, ⟨T, fz, by rw [hb b h1 (.inl (by simp [Obj.live, hne]))]; exact h2, h3⟩, h4.mono fun _ _ _ => h.rep⟩
  | mp k es =>
    obtain ⟨b, ents, clock, h1, h2, h3⟩ := hr
    exact ⟨b, ents, clock, by rw [hβ]; exact h1, by rw [hb b h1 (.inl rfl)]; exact h2, h3⟩
  | row k xs gen hist frz =>
    simp only [RepO] at hr ⊢
    rw [hβ]
    cases hbb : c.β id with
    | none => rw [hbb] at hr; exact hr
    | some b =>
      rw [hbb] at hr
      obtain ⟨⟨arr, ⟨T, fz, h1⟩, h2, h3⟩, h4, h5⟩ := hr
      have e := hb b hbb (.inr rfl)
      refine ⟨⟨arr, ⟨T, fz, by rw [e]; exact h1⟩, h2, fun i x hx => ?_⟩, fun hf => ?_, fun hf => h.sub b (h5 hf)⟩
      · obtain ⟨vs, q1, q2⟩ := h3 i x hx
        exact ⟨vs, by rw [h.te]; exact RepT.mono h.stab h.sub q1, q2⟩
      · obtain ⟨arr', T', fz', q1, q2⟩ := h4 hf
        exact ⟨arr', T', fz', by rw [e]; exact q1, q2⟩
theorem VwNow.of {c c' : Cx} {id : Nat} {k : K} {off len n : Nat} {v : Value} (hβ : c'.β id = c.β id) (hb : ∀ b, c.β id = some b → ∀ arr, Blk c.w b arr → ∃ arr', Blk c'.w b arr' ∧ arr.size ≤ arr'.size) (h : VwNow c id k off len n v) : VwNow c' id k off len n v := by
  simp only [VwNow] at h ⊢
  rw [hβ]
  cases hbb : c.β id with
  | none => rw [hbb] at h; exact h
  | some b =>
    rw [hbb] at h
    obtain ⟨cap, arr, a, h1, h2, h3, h4, h5⟩ := h
    obtain ⟨arr', q1, q2⟩ := hb b hbb arr h3
    exact ⟨cap, arr', a, h1, h2, q1, h4, fun hc => ⟨(h5 hc).1, Nat.le_trans (h5 hc).2 q2⟩⟩
theorem VwOld.of {c c' : Cx} {id n n' : Nat} {k : K} {ys : List k.T} {v : Value} (hn : n ≤ n') (te : c'.te = c.te) (stab : ∀ b, c.S b → c'.w.heap[b]? = c.w.heap[b]?) (sub : ∀ b, c.S b → c'.S b)
    (hβ : c'.β id = c.β id) (hb : ∀ b, c.β id = some b → c'.w.heap[b]? = c.w.heap[b]?) (h : VwOld c id n k ys v) : VwOld c' id n' k ys v := by
  obtain ⟨a, cap, h1, h2, h3⟩ := h
  refine ⟨a, cap, h1, h2, fun hne => ?_⟩
  obtain ⟨ad, q1, q2, q3, q4⟩ := h3 hne
  refine ⟨ad, q1, q2, q3.imp (sub _) (fun e => by rw [hβ]; exact ⟨e.1, Nat.le_trans e.2 (Nat.mul_le_mul_right _ hn)⟩), fun i x hx => ?_⟩
  obtain ⟨vs, r1, r2⟩ := q4 i x hx
  refine ⟨vs, by rw [te]; exact RepT.mono stab sub r1, r2.of ?_⟩
  rcases q3 with q3 | q3
  · exact stab _ q3
  · exact hb _ q3.1
/-- Ids that are not touched. -/
theorem RepS.same {c c' : Cx} {id : Nat} {s : S} {v : Value} (te : c'.te = c.te) (stab : ∀ b, c.S b → c'.w.heap[b]? = c.w.heap[b]?) (sub : ∀ b, c.S b → c'.S b)
    (hβ : c'.β id = c.β id) (hb : ∀ b o, c.β id = some b → c.hp id = some o → o.isRow = true → c'.w.heap[b]? = c.w.heap[b]?) (ho : ∀ o, c.hp id = some o → c'.hp id = some o) (hs : s.ids = [id]) (h : RepS c s v) : RepS c' s v := by
  cases s <;> simp only [S.ids, List.cons.injEq, and_true, reduceCtorEq] at hs
  case vw j g =>
    subst hs
    obtain ⟨h0, o, h1, h2⟩ := h
    refine ⟨h0, o, ho o h1, fun k xs gen hist frz e => ?_⟩
    have hb' : ∀ b, c.β j = some b → c'.w.heap[b]? = c.w.heap[b]? := fun b hbb => hb b o hbb h1 (by rw [e]; rfl)
    refine ⟨(h2 k xs gen hist frz e).1, fun hg => ?_, fun hg ys hy => ?_⟩
    · exact VwNow.of hβ (fun b hbb arr ⟨T, fz, q⟩ => ⟨arr, ⟨T, fz, by rw [hb' b hbb]; exact q⟩, Nat.le_refl _⟩) ((h2 k xs gen hist frz e).2.1 hg)
    · exact VwOld.of (Nat.le_refl _) te stab sub hβ hb' ((h2 k xs gen hist frz e).2.2 hg ys hy)
  case pv j g off len =>
    subst hs
    obtain ⟨h0, o, h1, h2⟩ := h
    refine ⟨h0, o, ho o h1, fun k xs gen hist frz e => ⟨(h2 k xs gen hist frz e).1, fun hg => ?_⟩⟩
    exact VwNow.of hβ (fun b hbb arr ⟨T, fz, q⟩ => ⟨arr, ⟨T, fz, by rw [hb b o hbb h1 (by rw [e]; rfl)]; exact q⟩, Nat.le_refl _⟩) ((h2 k xs gen hist frz e).2 hg)
  case ptr j g i p =>
    subst hs
    obtain ⟨h0, o, h1, hp, h2, h3⟩ := h
    refine ⟨h0, o, ho o h1, hp, fun cs e hne => ?_, fun k xs gen hist frz e => ?_⟩
    · rw [hβ]; exact h2 cs e hne
    · rw [hβ]; exact h3 k xs gen hist frz e
  case mp j =>
    subst hs
    obtain ⟨h0, o, h1, h2⟩ := h
    exact ⟨h0, o, ho o h1, fun k es e => by rw [hβ]; exact h2 k es e⟩

/-! A new block, and with it a new name. -/
def upd {α : Type} (f : Nat → Option α) (i : Nat) (a : α) : Nat → Option α := fun j => if j = i then some a else f j
def Cx.new (c : Cx) (w' : World) (d b : Nat) (o : Obj) : Cx := { c with w := w', β := upd c.β d b, hp := upd c.hp d o }
theorem blk_of_repO {c : Cx} {id b : Nat} {o : Obj} (h : RepO c id o) (hl : o.live = true ∨ o.isRow = true) (hβ : c.β id = some b) : ∃ x, c.w.heap[b]? = some x := by
  cases o with
  | box cs =>
    rcases hl with hl | e
    · simp [Obj.live] at hl
      obtain ⟨b', arr, h1, ⟨T, fz, h2, h3⟩, h4⟩ := h hl
      rw [hβ] at h1; cases h1; exact ⟨_, h2⟩
    · cases e
  | mp k es =>
    obtain ⟨b', ents, clock, h1, h2, _⟩ := h
    rw [hβ] at h1; cases h1; exact ⟨_, h2⟩
  | row k xs gen hist frz =>
    simp only [RepO, hβ] at h
    obtain ⟨⟨arr, ⟨T, fz, h1⟩, _⟩, _⟩ := h
    exact ⟨_, h1⟩
/-- The heap has grown; nothing of it has turned. -/
def Grew (w w' : World) : Prop := w'.os = w.os ∧ w'.tape = w.tape ∧ w'.output = w.output ∧ w.heap.size ≤ w'.heap.size ∧ ∀ b, b < w.heap.size → w'.heap[b]? = w.heap[b]?
theorem Grew.refl (w : World) : Grew w w := ⟨rfl, rfl, rfl, Nat.le_refl _, fun _ _ => rfl⟩
theorem Grew.trans {a b c : World} (h : Grew a b) (k : Grew b c) : Grew a c := by
  obtain ⟨h1, h2, h3, h4, h5⟩ := h
  obtain ⟨k1, k2, k3, k4, k5⟩ := k
  exact ⟨k1.trans h1, k2.trans h2, k3.trans h3, Nat.le_trans h4 k4, fun i hi => (k5 i (by omega)).trans (h5 i hi)⟩
theorem lt_of_some {w : World} {b : Nat} {x : Go.Obj} (h : w.heap[b]? = some x) : b < w.heap.size := by
  rcases Nat.lt_or_ge b w.heap.size with q | q
  · exact q
  · rw [Array.getElem?_eq_none q] at h; cases h
theorem Fr.grew {w0 w w' : World} {M : Nat → Prop} (h : Fr w0 M w) (g : Grew w w') : Fr w0 M w' := by
  obtain ⟨h1, h2, h3, h4, h5⟩ := g
  exact ⟨h1.trans h.os, h2.trans h.tape, h3.trans h.output, Nat.le_trans h.size h4, fun b hb hm => (h5 b (Nat.lt_of_lt_of_le hb h.size)).trans (h.block b hb hm)⟩
/-- Memory grown alone: the names stay. -/
theorem Ext.grew {c : Cx} {w' : World} {w0 : World} {M : MS} (hm : Mem w0 M c) (g : Grew c.w w') : Ext c { c with w := w' } := by
  refine ⟨rfl, fun b hb => g.2.2.2.2 b (hm.below b hb), fun _ h => h, fun id s v hs hr => ?_⟩
  cases s <;> simp only [S.ids, List.cons.injEq, and_true, reduceCtorEq] at hs
  case vw j g' =>
    subst hs
    obtain ⟨h0, o, h1, h2⟩ := hr
    refine ⟨h0, o, h1, fun k xs gen hist frz e => ⟨(h2 k xs gen hist frz e).1, fun hg => ?_, fun hg ys hy => ?_⟩⟩
    · refine VwNow.of (c := c) (c' := { c with w := w' }) rfl (fun b hbb arr ⟨T, fz, q⟩ => ⟨arr, ⟨T, fz, (g.2.2.2.2 b (lt_of_some q)).trans q⟩, Nat.le_refl _⟩) ((h2 k xs gen hist frz e).2.1 hg)
    · obtain ⟨a, cap, q1, q2, q3⟩ := (h2 k xs gen hist frz e).2.2 hg ys hy
      refine ⟨a, cap, q1, q2, fun hne => ?_⟩
      obtain ⟨ad, r1, r2, r3, r4⟩ := q3 hne
      refine ⟨ad, r1, r2, r3, fun i x hx => ?_⟩
      obtain ⟨vs, t1, t2⟩ := r4 i x hx
      refine ⟨vs, RepT.mono (fun b hb => g.2.2.2.2 b (hm.below b hb)) (fun _ h => h) t1, fun j v hv => ?_⟩
      have := t2 j v hv
      refine (World.cell?_of_block (a := ⟨ad.block, ad.off + i * k.size + j, none⟩) (g.2.2.2.2 ad.block ?_)).trans this
      simp only [World.cell?] at this
      split at this
      · rename_i q; exact lt_of_some q
      · cases this
  case pv j g' off len =>
    subst hs
    obtain ⟨h0, o, h1, h2⟩ := hr
    refine ⟨h0, o, h1, fun k xs gen hist frz e => ⟨(h2 k xs gen hist frz e).1, fun hg => ?_⟩⟩
    exact VwNow.of (c := c) (c' := { c with w := w' }) rfl (fun b hbb arr ⟨T, fz, q⟩ => ⟨arr, ⟨T, fz, (g.2.2.2.2 b (lt_of_some q)).trans q⟩, Nat.le_refl _⟩) ((h2 k xs gen hist frz e).2 hg)
  case ptr j g' i p => exact hr
  case mp j => exact hr
theorem Mem.grew {c : Cx} {w' : World} {w0 : World} {M : MS} (hm : Mem w0 M c) (g : Grew c.w w') : Mem w0 M { c with w := w' } := by
  have he := Ext.grew hm g
  refine ⟨hm.fr.grew g, fun b hb => Nat.lt_of_lt_of_le (hm.below b hb) g.2.2.2.1, fun id o ho => ?_, fun id b hl => ?_, hm.one, hm.sup, hm.inf⟩
  · have hr := hm.obj id o ho
    refine he.repO rfl (fun b hb hl => g.2.2.2.2 b ?_) hr
    obtain ⟨x, hx⟩ := blk_of_repO hr hl hb
    exact lt_of_some hx
  · obtain ⟨h1, h2, h3⟩ := hm.live id b hl
    exact ⟨Nat.lt_of_lt_of_le h1 g.2.2.2.1, h2, h3⟩
/-- A new name for a block that nobody names. -/
theorem Ext.name {c : Cx} {d : Nat} {β' : Nat → Option Nat} {o : Obj} (hd : c.hp d = none) (hβ : ∀ id, id ≠ d → β' id = c.β id) : Ext c { c with β := β', hp := upd c.hp d o } := by
  refine ⟨rfl, fun _ _ => rfl, fun _ h => h, fun id s v hs hr => ?_⟩
  have hne : id ≠ d := by
    rintro rfl
    cases s <;> simp only [S.ids, List.cons.injEq, and_true, reduceCtorEq] at hs <;> subst hs <;> (obtain ⟨_, o, h1, _⟩ := hr; rw [hd] at h1; cases h1)
  exact RepS.same (id := id) (c := c) rfl (fun _ _ => rfl) (fun _ h => h) (hβ id hne) (fun _ _ _ _ _ => rfl) (fun o ho => by simp [upd, hne, ho]) hs hr
theorem Mem.name {c : Cx} {w0 : World} {M : MS} {d : Nat} {β' : Nat → Option Nat} {o : Obj} (hm : Mem w0 M c) (hd : c.hp d = none) (hβ : ∀ id, id ≠ d → β' id = c.β id)
    (ho : RepO { c with β := β', hp := upd c.hp d o } d o)
    (hb : ∀ b, β' d = some b → o.live = true → b < c.w.heap.size ∧ ¬ c.S b ∧ (w0.heap.size ≤ b ∨ M b) ∧ ∀ id, ¬ Live c id b) : Mem w0 M { c with β := β', hp := upd c.hp d o } := by
  have he := Ext.name (c := c) (o := o) hd hβ
  have hlive : ∀ id b, Live { c with β := β', hp := upd c.hp d o } id b → (id = d ∧ β' d = some b ∧ o.live = true) ∨ (id ≠ d ∧ Live c id b) := by
    rintro id b ⟨h1, o', h2, h3⟩
    by_cases e : id = d
    · subst e
      simp [upd] at h2; subst h2
      exact .inl ⟨rfl, h1, h3⟩
    · simp [upd, e] at h2
      exact .inr ⟨e, (hβ id e).symm.trans h1, o', h2, h3⟩
  refine ⟨hm.fr, hm.below, fun id o' h => ?_, fun id b hl => ?_, fun id id' b hl hl' => ?_, hm.sup, hm.inf⟩
  · by_cases e : id = d
    · subst e; simp [upd] at h; subst h; exact ho
    · simp [upd, e] at h
      exact he.repO (hβ id e) (fun _ _ _ => rfl) (hm.obj id o' h)
  · rcases hlive id b hl with ⟨rfl, h1, h2⟩ | ⟨_, h⟩
    · obtain ⟨q1, q2, q3, _⟩ := hb b h1 h2; exact ⟨q1, q2, q3⟩
    · exact hm.live id b h
  · rcases hlive id b hl with ⟨rfl, h1, h2⟩ | ⟨_, h⟩ <;> rcases hlive id' b hl' with ⟨rfl, k1, k2⟩ | ⟨_, k⟩
    · rfl
    · exact ((hb b h1 h2).2.2.2 _ k).elim
    · exact ((hb b k1 k2).2.2.2 _ h).elim
    · exact hm.one id id' b h k
/-! One object is told anew: its own block may have been written, or another one stands for it. -/
def Cx.turn (c : Cx) (id : Nat) (w' : World) (S' : Nat → Prop) (β' : Option Nat) (o' : Obj) : Cx :=
  { c with w := w', S := S', β := fun j => if j = id then β' else c.β j, hp := upd c.hp id o' }
structure Turn (w0 : World) (M : MS) (c : Cx) (id : Nat) (w' : World) (S' : Nat → Prop) (β' : Option Nat) (o' : Obj) : Prop where
  os : w'.os = c.w.os
  tape : w'.tape = c.w.tape
  output : w'.output = c.w.output
  size : c.w.heap.size ≤ w'.heap.size
  blk : ∀ b, b < c.w.heap.size → ¬ Live c id b → w'.heap[b]? = c.w.heap[b]?
  sub : ∀ b, c.S b → S' b
  sup : ∀ b, S' b → b < w'.heap.size ∧ (c.S b ∨ Live c id b)
  known : ∃ o, c.hp id = some o
  obj : RepO (c.turn id w' S' β' o') id o'
  fresh : ∀ b, β' = some b → o'.live = true → b < w'.heap.size ∧ ¬ S' b ∧ (Live c id b ∨ c.w.heap.size ≤ b)
  ids : ∀ s v, s.ids = [id] → RepS c s v → RepS (c.turn id w' S' β' o') s v
theorem Turn.stab {w0 : World} {M : MS} {c : Cx} {id : Nat} {w' : World} {S' : Nat → Prop} {β' : Option Nat} {o' : Obj} (hm : Mem w0 M c) (h : Turn w0 M c id w' S' β' o') (b : Nat) (hb : c.S b) : w'.heap[b]? = c.w.heap[b]? :=
  h.blk b (hm.below b hb) fun hl => (hm.live id b hl).2.1 hb
/-- Another object's block is not touched. -/
theorem Turn.other {w0 : World} {M : MS} {c : Cx} {id : Nat} {w' : World} {S' : Nat → Prop} {β' : Option Nat} {o' : Obj} (hm : Mem w0 M c) (h : Turn w0 M c id w' S' β' o') {j b : Nat} {o : Obj} (hj : j ≠ id)
    (hβ : c.β j = some b) (ho : c.hp j = some o) (hl : o.live = true ∨ o.isRow = true) : w'.heap[b]? = c.w.heap[b]? := by
  obtain ⟨x, hx⟩ := blk_of_repO (hm.obj j o ho) hl hβ
  refine h.blk b (lt_of_some hx) fun hid => ?_
  by_cases hv : o.live = true
  · exact hj (hm.one j id b ⟨hβ, o, ho, hv⟩ hid)
  · cases o with
    | mp k es => exact absurd rfl hv
    | box cs => rcases hl with hl | hl
                · exact hv hl
                · cases hl
    | row k xs gen hist frz =>
      have hf : frz = true := by simpa [Obj.live] using hv
      have := hm.obj j _ ho
      simp only [RepO, hβ] at this
      exact (hm.live id b hid).2.1 (this.2.2 hf)
theorem Turn.ext {w0 : World} {M : MS} {c : Cx} {id : Nat} {w' : World} {S' : Nat → Prop} {β' : Option Nat} {o' : Obj} (hm : Mem w0 M c) (h : Turn w0 M c id w' S' β' o') : Ext c (c.turn id w' S' β' o') := by
  refine ⟨rfl, h.stab hm, h.sub, fun j s v hs hr => ?_⟩
  by_cases hj : j = id
  · subst hj; exact h.ids s v hs hr
  · refine RepS.same (id := j) (c := c) rfl (h.stab hm) h.sub (by simp [Cx.turn, hj]) (fun b o hb ho hrow => h.other hm hj hb ho (.inr hrow)) (fun o ho => by simp [Cx.turn, upd, hj, ho]) hs hr
theorem Turn.mem {w0 : World} {M : MS} {c : Cx} {id : Nat} {w' : World} {S' : Nat → Prop} {β' : Option Nat} {o' : Obj} (hm : Mem w0 M c) (h : Turn w0 M c id w' S' β' o') : Mem w0 M (c.turn id w' S' β' o') := by
  have he := h.ext hm
  have hlive : ∀ j b, Live (c.turn id w' S' β' o') j b → (j = id ∧ β' = some b ∧ o'.live = true) ∨ (j ≠ id ∧ Live c j b) := by
    rintro j b ⟨h1, o, h2, h3⟩
    by_cases e : j = id
    · subst e
      simp [Cx.turn, upd] at h1 h2; subst h2
      exact .inl ⟨rfl, h1, h3⟩
    · simp [Cx.turn, upd, e] at h1 h2
      exact .inr ⟨e, h1, o, h2, h3⟩
  refine ⟨⟨h.os.trans hm.fr.os, h.tape.trans hm.fr.tape, h.output.trans hm.fr.output, Nat.le_trans hm.fr.size h.size, fun b hb hM => ?_⟩, fun b hb => (h.sup b hb).1, fun j o ho => ?_, fun j b hl => ?_, fun j j' b hl hl' => ?_, fun b hb => (h.sup b hb).2.elim (hm.sup b) (fun hl => .inr (hm.live id b hl).2.2), fun b hb => h.sub b (hm.inf b hb)⟩
  · refine (h.blk b (Nat.lt_of_lt_of_le hb hm.fr.size) fun hl => ?_).trans (hm.fr.block b hb hM)
    rcases (hm.live id b hl).2.2 with q | q
    · omega
    · exact hM q
  · by_cases e : j = id
    · subst e; simp [Cx.turn, upd] at ho; subst ho; exact h.obj
    · simp [Cx.turn, upd, e] at ho
      exact he.repO (by simp [Cx.turn, e]) (fun b hb hl => h.other hm e hb ho hl) (hm.obj j o ho)
  · rcases hlive j b hl with ⟨rfl, h1, h2⟩ | ⟨hj, h1⟩
    · obtain ⟨q1, q2, q3⟩ := h.fresh b h1 h2
      refine ⟨q1, q2, ?_⟩
      rcases q3 with q3 | q3
      · exact (hm.live j b q3).2.2
      · exact .inl (Nat.le_trans hm.fr.size q3)
    · obtain ⟨q1, q2, q3⟩ := hm.live j b h1
      refine ⟨Nat.lt_of_lt_of_le q1 h.size, fun hs => ?_, q3⟩
      rcases (h.sup b hs).2 with r | r
      · exact q2 r
      · exact hj (hm.one j id b h1 r)
  · rcases hlive j b hl with ⟨rfl, h1, h2⟩ | ⟨hj, h1⟩ <;> rcases hlive j' b hl' with ⟨e', k1, k2⟩ | ⟨hj', k1⟩
    · exact e'.symm
    · rcases (h.fresh b h1 h2).2.2 with q | q
      · exact hm.one _ _ b q k1
      · have := (hm.live j' b k1).1; omega
    · subst e'
      rcases (h.fresh b k1 k2).2.2 with q | q
      · exact hm.one _ _ b h1 q
      · have := (hm.live j b h1).1; omega
    · exact hm.one j j' b h1 k1
end Go.Eng
