/- Several objects that are told anew at once; what is handed to a call. -/
import Derived.Test.YtfkiapjkeopgfaaE19
set_option linter.all false
set_option linter.unusedVariables false
set_option linter.unusedSimpArgs false
set_option linter.deprecated false
namespace Go.Eng
open Go.RowKit
structure Turns (w0 : World) (M : MS) (c : Cx) (I : Nat → Prop) (c' : Cx) : Prop where
  te : c'.te = c.te
  os : c'.w.os = c.w.os
  tape : c'.w.tape = c.w.tape
  output : c'.w.output = c.w.output
  size : c.w.heap.size ≤ c'.w.heap.size
  blk : ∀ b, b < c.w.heap.size → (∀ id, I id → ¬ Live c id b) → c'.w.heap[b]? = c.w.heap[b]?
  sub : ∀ b, c.S b → c'.S b
  sup : ∀ b, c'.S b → b < c'.w.heap.size ∧ (c.S b ∨ (∃ id, I id ∧ Live c id b) ∨ c.w.heap.size ≤ b)
  out : ∀ id, ¬ I id → c'.hp id = c.hp id ∧ c'.β id = c.β id
  obj : ∀ id o, I id → c'.hp id = some o → RepO c' id o
  live : ∀ id b, I id → Live c' id b → ¬ c'.S b ∧ Live c id b
  ids : ∀ id s v, I id → s.ids = [id] → RepS c s v → RepS c' s v
theorem Turns.stab {w0 : World} {M : MS} {c c' : Cx} {I : Nat → Prop} (hm : Mem w0 M c) (h : Turns w0 M c I c') (b : Nat) (hb : c.S b) : c'.w.heap[b]? = c.w.heap[b]? :=
  h.blk b (hm.below b hb) fun id _ hl => (hm.live id b hl).2.1 hb
theorem Turns.other {w0 : World} {M : MS} {c c' : Cx} {I : Nat → Prop} (hm : Mem w0 M c) (h : Turns w0 M c I c') {j b : Nat} {o : Obj} (hj : ¬ I j)
    (hβ : c.β j = some b) (ho : c.hp j = some o) (hl : o.live = true ∨ o.isRow = true) : c'.w.heap[b]? = c.w.heap[b]? := by
  obtain ⟨x, hx⟩ := blk_of_repO (hm.obj j o ho) hl hβ
  refine h.blk b (lt_of_some hx) fun id hi hid => ?_
  by_cases hv : o.live = true
  · have := hm.one j id b ⟨hβ, o, ho, hv⟩ hid
    subst this; exact hj hi
  · cases o with
    | mp k es => exact absurd rfl hv
    | box cs => rcases hl with hl | hl
                · exact hv hl
                · cases hl
    | row k xs gen hist frz =>
      have hf : frz = true := by simpa [Obj.live] using hv
      have := hm.obj j _ ho
      simp only [RepO, hβ] at this
      exact (hm.live id b hid).2.1 (this.2.2 hf)
theorem Turns.ext {w0 : World} {M : MS} {c c' : Cx} {I : Nat → Prop} (hm : Mem w0 M c) (h : Turns w0 M c I c') : Ext c c' := by
  refine ⟨h.te, h.stab hm, h.sub, fun j s v hs hr => ?_⟩
  by_cases hj : I j
  · exact h.ids j s v hj hs hr
  · refine RepS.same (id := j) (c := c) h.te (h.stab hm) h.sub (h.out j hj).2 (fun b o hb ho hrow => h.other hm hj hb ho (.inr hrow)) (fun o ho => by rw [(h.out j hj).1]; exact ho) hs hr
theorem Turns.mem {w0 : World} {M : MS} {c c' : Cx} {I : Nat → Prop} (hm : Mem w0 M c) (h : Turns w0 M c I c') : Mem w0 M c' := by
  have he := h.ext hm
  have hlive : ∀ j b, Live c' j b → (I j ∧ ¬ c'.S b ∧ Live c j b) ∨ (¬ I j ∧ Live c j b) := by
    rintro j b hl
    by_cases e : I j
    · obtain ⟨h1, h2⟩ := h.live j b e hl
      exact .inl ⟨e, h1, h2⟩
    · obtain ⟨h1, h2⟩ := h.out j e
      obtain ⟨q1, o, q2, q3⟩ := hl
      exact .inr ⟨e, by rw [← h2]; exact q1, o, by rw [← h1]; exact q2, q3⟩
  refine ⟨⟨h.os.trans hm.fr.os, h.tape.trans hm.fr.tape, h.output.trans hm.fr.output, Nat.le_trans hm.fr.size h.size, fun b hb hM => ?_⟩, fun b hb => (h.sup b hb).1, fun j o ho => ?_, fun j b hl => ?_, fun j j' b hl hl' => ?_, fun b hb => (h.sup b hb).2.elim (hm.sup b) (fun q => q.elim (fun ⟨id, _, hl⟩ => .inr (hm.live id b hl).2.2) (fun q => .inr (.inl (Nat.le_trans hm.fr.size q)))), fun b hb => h.sub b (hm.inf b hb)⟩
  · refine (h.blk b (Nat.lt_of_lt_of_le hb hm.fr.size) fun id _ hl => ?_).trans (hm.fr.block b hb hM)
    rcases (hm.live id b hl).2.2 with q | q
    · omega
    · exact hM q
  · by_cases e : I j
    · exact h.obj j o e ho
    · rw [(h.out j e).1] at ho
      exact he.repO (h.out j e).2 (fun b hb hl => h.other hm e hb ho hl) (hm.obj j o ho)
  · rcases hlive j b hl with ⟨_, h1, h2⟩ | ⟨hj, h2⟩
    · obtain ⟨q1, q2, q3⟩ := hm.live j b h2
      exact ⟨Nat.lt_of_lt_of_le q1 h.size, h1, q3⟩
    · obtain ⟨q1, q2, q3⟩ := hm.live j b h2
      refine ⟨Nat.lt_of_lt_of_le q1 h.size, fun hs => ?_, q3⟩
      rcases (h.sup b hs).2 with r | ⟨id, hi, r⟩ | r
      · exact q2 r
      · have := hm.one j id b h2 r
        subst this; exact hj hi
      · omega
  · have h1 : Live c j b := by rcases hlive j b hl with ⟨_, _, q⟩ | ⟨_, q⟩ <;> exact q
    have h2 : Live c j' b := by rcases hlive j' b hl' with ⟨_, _, q⟩ | ⟨_, q⟩ <;> exact q
    exact hm.one j j' b h1 h2

/-! What names nothing. -/
def clC (te : TypeId) (w : World) (Sb : Nat → Prop) : Cx := ⟨te, w, Sb, fun _ => none, fun _ => none⟩
theorem closed_rep {te : TypeId} {w : World} {Sb : Nat → Prop} {c : Cx} (hte : c.te = te) (hst : ∀ b, Sb b → c.w.heap[b]? = w.heap[b]?) (hsub : ∀ b, Sb b → c.S b) {s : S} {v : Value} (h : RepS (clC te w Sb) s v) : RepS c s v := by
  subst hte
  cases s with
  | vw id g => obtain ⟨_, o, h1, _⟩ := h; cases h1
  | pv id g off len => obtain ⟨_, o, h1, _⟩ := h; cases h1
  | ptr id g i p => obtain ⟨_, o, h1, _⟩ := h; cases h1
  | mp id => obtain ⟨_, o, h1, _⟩ := h; cases h1
  | clo f k x =>
    obtain ⟨b, o, vs, h1, h2, h3, h4⟩ := h
    exact ⟨b, o, vs, hsub b h1, h2, RepT.mono (w := w) hst hsub h3, h4.of (hst b h1)⟩
  | sl k xs => exact RepT.mono (w := w) hst hsub h
  | ipt k x p =>
    obtain ⟨hp, b, o, vs, h1, h2, h3, h4⟩ := h
    exact ⟨hp, b, o, vs, hsub b h1, h2, RepT.mono (w := w) hst hsub h3, h4.of (hst b h1)⟩
  | undef => exact h
  | bool b => exact h
  | int k n => exact h
  | str q => exact h
  | err e => exact h
  | fn f => exact h
  | nilS => exact h
  | mv k xs => exact h
  | io k x => exact h
theorem closed_repV {te : TypeId} {w : World} {Sb : Nat → Prop} {c : Cx} (hte : c.te = te) (hst : ∀ b, Sb b → c.w.heap[b]? = w.heap[b]?) (hsub : ∀ b, Sb b → c.S b) {a : AV} {v : Value} (h : RepV (clC te w Sb) a v) : RepV c a v := by
  cases a with
  | undef => trivial
  | val g cs =>
    cases g with
    | true => obtain ⟨arr, hv, hl⟩ := h; exact ⟨arr, hv, hl.mono fun _ _ _ => closed_rep hte hst hsub⟩
    | false => obtain ⟨s, hc, hs⟩ := h; exact ⟨s, hc, closed_rep hte hst hsub hs⟩
  | tup vs =>
    obtain ⟨arr, hv, hl⟩ := h
    refine ⟨arr, hv, hl.mono fun p _ u hu => ?_⟩
    split at hu
    · rename_i hp; rw [if_pos hp]; obtain ⟨a, h1, h2⟩ := hu; exact ⟨a, h1, h2.mono fun _ _ _ => closed_rep hte hst hsub⟩
    · rename_i hp; rw [if_neg hp]; obtain ⟨a, h1, h2⟩ := hu; exact ⟨a, h1, closed_rep hte hst hsub h2⟩
def RowArg (te : TypeId) (w : World) (Sb : Nat → Prop) (ob : Option Nat) (k : K) (xs : List k.T) (v : Value) : Prop :=
  match ob with
  | none => v = .slice none 0 0 ∧ xs = []
  | some b => ∃ cap arr a, v = .slice (some a) xs.length cap ∧ xs.length ≤ cap ∧ (0 < cap → a = ⟨b, 0, none⟩ ∧ cap * k.size ≤ arr.size) ∧ BlkFree w b arr ∧ xs.length * k.size ≤ arr.size ∧
      ∀ (i : Nat) (x : k.T), xs[i]? = some x → ∃ vs, RepT te w Sb k x vs ∧ ∀ (j : Nat) v, vs[j]? = some v → arr[i * k.size + j]? = some v
def BoxArg (te : TypeId) (w : World) (Sb : Nat → Prop) (b : Nat) (cs : List S) : Prop := ∃ arr, BlkFree w b arr ∧ LR (RepS (clC te w Sb)) cs (arr.toList.take cs.length)
def ArgRel (te : TypeId) (w : World) (Sb : Nat → Prop) : AV → Value → Option Nat → Prop
  | .val false [.mv k xs], v, b => RowArg te w Sb b k xs v
  | .val false [.io k x], v, b => ∃ b', b = some b' ∧ v = .pointer (some ⟨b', 0, none⟩) ∧ BoxArg te w Sb b' (leaves k x)
  | a, v, b => b = none ∧ RepV (clC te w Sb) a v
/-- Where a handed argument's block lies. -/
def Hand.blk (β : Nat → Option Nat) (h : Hand) : Option Nat :=
  match h.mv, h.io with
  | id :: _, _ => β id
  | [], (id, _) :: _ => β id
  | [], [] => none
theorem row_arg {c : Cx} {w0 : World} {M : MS} (hm : Mem w0 M c) {id : Nat} {k : K} {xs : List k.T} {gen : Nat} {hist : List (List k.T)} (ho : c.hp id = some (.row k xs gen hist false)) {v : Value} (hv : RepS c (.vw id gen) v) {S' : Nat → Prop} (hs : ∀ b, c.S b → S' b) :
    RowArg c.te c.w S' (c.β id) k xs v := by
  obtain ⟨_, o, e1, e2⟩ := hv
  rw [ho] at e1; cases e1
  have hnow := (e2 _ _ _ _ _ rfl).2.1 rfl
  have hro := hm.obj id _ ho
  unfold RowArg
  simp only [VwNow] at hnow
  unfold RepO at hro
  cases hb : c.β id with
  | none =>
    rw [hb] at hnow
    simp only [hb] at hro
    exact ⟨hnow.1, hro⟩
  | some b =>
    rw [hb] at hnow
    simp only [hb] at hro
    obtain ⟨cap, arr, a, q1, q2, q3, q4, q5⟩ := hnow
    obtain ⟨⟨arr1, p1, p2, p3⟩, p4, _⟩ := hro
    have := q3.uniq p1; subst this
    obtain ⟨arr2, p5⟩ := p4 trivial
    have := q3.uniq p5.blk; subst this
    exact ⟨cap, arr, a, q1, q2, fun hc => ⟨by simpa using (q5 hc).1, by simpa using (q5 hc).2⟩, p5, p2, fun i x hx => by
      obtain ⟨vs, t1, t2⟩ := p3 i x hx
      exact ⟨vs, RepT.mono (fun _ _ => rfl) hs t1, t2⟩⟩
theorem plain_inj (k : K) (x : k.T) : (∀ k' xs, inj k x = .val false [.mv k' xs] → False) ∧ (∀ k' y, inj k x = .val false [.io k' y] → False) := by
  cases k <;> simp [inj, leaves, K.isAgg]
theorem handV_some {P : Program} {hp : Nat → Option Obj} {t : TypeId} {g : Bool} {cs : List S} {h : Hand} (hd : handV P hp t g cs = some h) : ∃ k x, g = k.isAgg ∧ rei1 hp k cs = some x ∧ h = ⟨inj k x, idsOf cs, [], []⟩ := by
  unfold handV at hd
  split at hd
  · rename_i k _
    cases hg : (g == k.isAgg) with
    | false => rw [hg] at hd; cases hd
    | true =>
      rw [hg] at hd
      simp only [cond_true] at hd
      split at hd
      · rename_i x hx
        simp only [Option.some.injEq] at hd
        exact ⟨k, x, by simpa using hg, hx, hd.symm⟩
      · cases hd
  · cases hd
theorem handV_rep {P : Program} {c : Cx} {w0 : World} {M : MS} (hm : Mem w0 M c) {hp : Nat → Option Obj} (hh : ∀ id o, hp id = some o → c.hp id = some o) {t : TypeId} {g : Bool} {cs : List S} {h : Hand} {v : Value} (hd : handV P hp t g cs = some h) (hr : RepV c (.val g cs) v) {S' : Nat → Prop} (hs : ∀ b, c.S b → S' b) (hi : ∀ id ∈ h.frz, ∀ b, c.β id = some b → S' b) :
    ArgRel c.te c.w S' h.arg v none ∧ h.mv = [] ∧ h.io = [] := by
  obtain ⟨k, x, hg, hx, rfl⟩ := handV_some hd
  refine ⟨?_, rfl, rfl⟩
  have hc : RepV (clC c.te c.w S') (inj k x) v := by
    unfold inj
    cases g with
    | true =>
      obtain ⟨arr, rfl, hl⟩ := hr
      rw [← hg]
      exact ⟨arr, rfl, (leaves_rep (c := clC c.te c.w S') k x _).2 (rei1_rep hm hh hs hi hl hx)⟩
    | false =>
      obtain ⟨s, rfl, hrs⟩ := hr
      rw [← hg]
      have hl := (leaves_rep (c := clC c.te c.w S') k x _).2 (rei1_rep hm hh hs hi (vs := [v]) ⟨hrs, trivial⟩ hx)
      match hlv : leaves k x, hl with
      | [s'], hl => exact ⟨s', rfl, hl.1⟩
  show ArgRel c.te c.w S' (inj k x) v none
  unfold ArgRel
  split
  · rename_i e; exact ((plain_inj k x).1 _ _ e).elim
  · rename_i e; exact ((plain_inj k x).2 _ _ e).elim
  · exact ⟨rfl, hc⟩
theorem handArg_rep {P : Program} {c : Cx} {w0 : World} {M : MS} (hm : Mem w0 M c) {hp : Nat → Option Obj} (hh : ∀ id o, hp id = some o → c.hp id = some o) {mv : Bool} {t : TypeId} {a : AV} {h : Hand} {v : Value} (hd : handArg P hp mv t a = some h) (hr : RepV c a v) {S' : Nat → Prop} (hs : ∀ b, c.S b → S' b) (hi : ∀ id ∈ h.frz, ∀ b, c.β id = some b → S' b) :
    ArgRel c.te c.w S' h.arg v (h.blk c.β) ∧ (∀ b, h.blk c.β = some b → ∃ id ∈ h.excl, Live c id b) ∧ (∀ id ∈ h.excl, id ∈ a.ids) ∧ (h.mv = [] ∨ h.io = []) ∧ (∀ id ∈ h.mv, ∃ k xs gen hist, c.hp id = some (.row k xs gen hist false)) ∧
      (∀ id k, (id, k) ∈ h.io → ∃ cs x, c.hp id = some (.box cs) ∧ cs ≠ [] ∧ cs.length = k.size ∧ h.arg = .val false [.io k x] ∧ h.blk c.β = c.β id) ∧ h.excl.length ≤ 1 := by
  have trivialRest : h.mv = [] → h.io = [] → (∀ b, h.blk c.β = some b → ∃ id ∈ h.excl, Live c id b) ∧ (∀ id ∈ h.excl, id ∈ a.ids) ∧ (h.mv = [] ∨ h.io = []) ∧ (∀ id ∈ h.mv, ∃ k xs gen hist, c.hp id = some (.row k xs gen hist false)) ∧
      (∀ id k, (id, k) ∈ h.io → ∃ cs x, c.hp id = some (.box cs) ∧ cs ≠ [] ∧ cs.length = k.size ∧ h.arg = .val false [.io k x] ∧ h.blk c.β = c.β id) ∧ h.excl.length ≤ 1 := by
    intro e1 e2
    refine ⟨fun b hb => ?_, fun id hid => ?_, .inl e1, fun id hid => ?_, fun id k hid => ?_, by simp [Hand.excl, e1, e2]⟩
    · simp [Hand.blk, e1, e2] at hb
    · simp [Hand.excl, e1, e2] at hid
    · rw [e1] at hid; simp at hid
    · rw [e2] at hid; simp at hid
  unfold handArg at hd
  split at hd
  · -- nil
    have hn : v = .slice none 0 0 := repV_inv hr
    cases mv with
    | true =>
      simp only [cond_true] at hd
      split at hd
      · split at hd
        · simp only [Option.some.injEq] at hd; subst hd
          exact ⟨⟨hn, rfl⟩, trivialRest rfl rfl⟩
        · cases hd
      · cases hd
    | false =>
      simp only [cond_false] at hd
      obtain ⟨p1, p2, p3⟩ := handV_rep hm hh hd hr hs hi
      exact ⟨by rw [show h.blk c.β = none by simp [Hand.blk, p2, p3]]; exact p1, trivialRest p2 p3⟩
  · rename_i id g
    have hv := repV_inv hr
    cases mv with
    | true =>
      simp only [cond_true] at hd
      split at hd
      · rename_i k xs gen hist ho
        cases hg : Nat.beq g gen with
        | false => rw [hg] at hd; cases hd
        | true =>
          rw [hg] at hd
          simp only [cond_true, Option.some.injEq] at hd; subst hd
          have hg := Nat.eq_of_beq_eq_true hg
          subst hg
          have e1 := hh id _ ho
          refine ⟨row_arg hm e1 hv hs, fun b hb => ⟨id, by simp [Hand.excl], hb, _, e1, rfl⟩, fun j hj => ?_, .inr rfl, fun j hj => ?_, fun j k hj => by simp at hj, by simp [Hand.excl]⟩
          · simp [Hand.excl] at hj; subst hj; simp [AV.ids, idsOf, S.ids]
          · simp at hj; subst hj; exact ⟨_, _, _, _, e1⟩
      · cases hd
    | false =>
      simp only [cond_false] at hd
      obtain ⟨p1, p2, p3⟩ := handV_rep hm hh hd hr hs hi
      exact ⟨by rw [show h.blk c.β = none by simp [Hand.blk, p2, p3]]; exact p1, trivialRest p2 p3⟩
  · rename_i id g i p
    have hv := repV_inv hr
    cases hp0 : p.isEmpty with
    | false => rw [hp0] at hd; cases hd
    | true =>
      rw [hp0] at hd
      simp only [cond_true] at hd
      have hp1 : p = [] := List.isEmpty_iff.1 hp0
      subst hp1
      split at hd
      · rename_i cs e ho hu
        cases hne : (!cs.isEmpty && Nat.beq g 0 && Nat.beq i 0) with
        | false => rw [hne] at hd; cases hd
        | true =>
          rw [hne] at hd
          simp only [cond_true] at hd
          split at hd
          · rename_i k hk
            split at hd
            · rename_i x hx
              simp only [Option.some.injEq] at hd; subst hd
              have e1 := hh id _ ho
              have hcn : cs ≠ [] := by rintro rfl; simp at hne
              obtain ⟨_, ob, t1, _, t2, _⟩ := hv
              rw [e1] at t1; cases t1
              obtain ⟨b, hb, ev, _, _⟩ := t2 cs rfl hcn
              obtain ⟨b', arr, q1, q2, q3⟩ := hm.obj id _ e1 hcn
              rw [hb] at q1; cases q1
              have hrx := rei1_rep hm hh hs hi q3 hx
              have hlen : cs.length = k.size := q3.length.trans (RepT.len hrx)
              refine ⟨⟨b, hb, by simpa [pathOff] using ev, arr, q2, ?_⟩, fun b' hb' => ⟨id, by simp [Hand.excl], hb', _, e1, by simp [Obj.live, hcn]⟩, fun j hj => ?_, .inl rfl, fun j hj => by simp at hj, fun j k' hj => ?_, by simp [Hand.excl]⟩
              · have := (leaves_rep (c := clC c.te c.w S') k x _).2 hrx
                have hll : (leaves k x).length = cs.length := this.length.trans q3.length.symm
                rw [hll]
                exact this
              · simp [Hand.excl] at hj; subst hj; simp [AV.ids, idsOf, S.ids]
              · simp at hj
                obtain ⟨rfl, rfl⟩ := hj
                exact ⟨cs, x, e1, hcn, hlen, rfl, rfl⟩
            · cases hd
          · cases hd
      · cases hd
  · rename_i k x p
    simp only [Option.some.injEq] at hd
    subst hd
    have hv := repV_inv hr
    obtain ⟨q1, b, o, vs, q2, q3, q4, q5⟩ := hv
    exact ⟨⟨rfl, _, rfl, q1, b, o, vs, hs b q2, q3, RepT.mono (fun _ _ => rfl) hs q4, q5⟩, trivialRest rfl rfl⟩
  · rename_i g cs _ _ _ _
    obtain ⟨p1, p2, p3⟩ := handV_rep hm hh hd hr hs hi
    exact ⟨by rw [show h.blk c.β = none by simp [Hand.blk, p2, p3]]; exact p1, trivialRest p2 p3⟩
  · cases hd
end Go.Eng
