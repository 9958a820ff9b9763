/- Values: what the small machine's words for them say of the real ones. -/
import Derived.Test.YtfkiapjkeopgfaaE4
set_option linter.all false
set_option linter.unusedVariables false
set_option linter.unusedSimpArgs false
set_option linter.deprecated false
namespace Go.Eng
open Go.RowKit
theorem one_ofRep {c : Cx} {s : S} {v : Value} (h : RepS c s v) : one v = true := by
  cases s with
  | undef => exact h
  | bool b => simp only [RepS] at h; subst h; rfl
  | int k n => simp only [RepS] at h; rw [h.1]; rfl
  | str s => obtain ⟨sb, rfl, _⟩ := h; rfl
  | err e => simp only [RepS] at h; subst h; cases e <;> rfl
  | fn f => simp only [RepS] at h; subst h; cases f <;> rfl
  | nilS => simp only [RepS] at h; subst h; rfl
  | sl k xs => obtain ⟨a, cap, e, _⟩ := h; cases e; rfl
  | vw id g => exact h.1
  | pv id g off len => exact h.1
  | ptr id g i p => exact h.1
  | mp id => exact h.1
  | clo f k x => obtain ⟨b, o, vs, _, rfl, _⟩ := h; rfl
  | ipt k x p => obtain ⟨_, b, o, vs, _, rfl, _⟩ := h; rfl
  | mv k xs => exact h.elim
  | io k x => exact h.elim
theorem one_cells {v : Value} (h : one v = true) : v.cells = #[v] := by cases v <;> simp [one] at h <;> rfl
theorem LR.ones {c : Cx} : ∀ {cs : List S} {vs : List Value}, LR (RepS c) cs vs → ∀ v ∈ vs, one v = true
  | _ :: _, _ :: _, h, v, hv => by
    rcases List.mem_cons.1 hv with rfl | hv
    · exact one_ofRep h.1
    · exact LR.ones h.2 v hv
  | [], [], _, v, hv => by simp at hv
  | [], _ :: _, h, _, _ => h.elim
  | _ :: _, [], h, _, _ => h.elim
theorem leaves_rep {c : Cx} : ∀ (k : K) (x : k.T) (vs : List Value), LR (RepS c) (leaves k x) vs ↔ RepT c.te c.w c.S k x vs
  | .int k, n, vs => by
    constructor
    · intro h
      match vs, h with
      | [v], h => obtain ⟨⟨rfl, h2⟩, _⟩ := h; exact ⟨rfl, h2⟩
    · rintro ⟨rfl, h⟩; exact ⟨⟨rfl, h⟩, trivial⟩
  | .bool, n, vs => by
    constructor
    · intro h
      match vs, h with
      | [v], h => obtain ⟨h1, _⟩ := h; simp only [RepS] at h1; subst h1; rfl
    · intro h; rw [show vs = _ from h]; exact ⟨rfl, trivial⟩
  | .str, n, vs => by
    constructor
    · intro h
      match vs, h with
      | [v], h => obtain ⟨⟨sb, rfl, h2⟩, _⟩ := h; exact ⟨sb, rfl, h2⟩
    · rintro ⟨sb, rfl, h⟩; exact ⟨⟨sb, rfl, h⟩, trivial⟩
  | .err, n, vs => by
    constructor
    · intro h
      match vs, h with
      | [v], h => obtain ⟨h1, _⟩ := h; simp only [RepS] at h1; subst h1; rfl
    · intro h; rw [show vs = _ from h]; exact ⟨rfl, trivial⟩
  | .fn, n, vs => by
    constructor
    · intro h
      match vs, h with
      | [v], h => obtain ⟨h1, _⟩ := h; simp only [RepS] at h1; subst h1; rfl
    · intro h; rw [show vs = _ from h]; exact ⟨rfl, trivial⟩
  | .slice e, xs, vs => by
    constructor
    · intro h
      match vs, h with
      | [v], h => exact h.1
    · intro h
      have hl := RepT.len h
      match vs, hl with
      | [v], _ => exact ⟨h, trivial⟩
  | .prod a b, x, vs => by
    constructor
    · intro h
      obtain ⟨m1, m2, e, h1, h2⟩ := LR.split h
      exact ⟨m1, m2, e, (leaves_rep a x.1 m1).1 h1, (leaves_rep b x.2 m2).1 h2⟩
    · rintro ⟨m1, m2, rfl, h1, h2⟩
      exact LR.append ((leaves_rep a x.1 m1).2 h1) ((leaves_rep b x.2 m2).2 h2)
  | .strct a, x, vs => leaves_rep a x vs
/-- A slice value shows a row, in a block that stands, or in one of these names'. -/
def Vis (c : Cx) (ids : List Nat) (k : K) (ys : List k.T) (v : Value) : Prop :=
  ∃ a cap, v = .slice a ys.length cap ∧ ys.length ≤ cap ∧ (ys ≠ [] → ∃ ad, a = some ad ∧ ad.spot = none ∧ (c.S ad.block ∨ ∃ id ∈ ids, c.β id = some ad.block) ∧
    ∀ (i : Nat) (x : k.T), ys[i]? = some x → ∃ vs, RepT c.te c.w c.S k x vs ∧ At c.w ad.block (ad.off + i * k.size) vs)
theorem Vis.repT {c : Cx} {ids : List Nat} {k : K} {ys : List k.T} {v : Value} (h : Vis c ids k ys v) {S' : Nat → Prop} (hs : ∀ b, c.S b → S' b) (hi : ∀ id ∈ ids, ∀ b, c.β id = some b → S' b) : RepT c.te c.w S' (.slice k) ys [v] := by
  obtain ⟨a, cap, rfl, hl, hx⟩ := h
  refine ⟨a, cap, rfl, hl, fun hne => ?_⟩
  obtain ⟨ad, h1, h2, h3, h4⟩ := hx hne
  refine ⟨ad, h1, h2, ?_, fun i x hix => ?_⟩
  · rcases h3 with h3 | ⟨id, m, h3⟩
    · exact hs _ h3
    · exact hi id m _ h3
  · obtain ⟨vs, q1, q2⟩ := h4 i x hix
    exact ⟨vs, RepT.mono (fun _ _ => rfl) hs q1, q2⟩
theorem at_of_arr {w : World} {b : Nat} {arr : Array Value} (h : Blk w b arr) {o : Nat} {vs : List Value} (hv : ∀ (j : Nat) v, vs[j]? = some v → arr[o + j]? = some v) : At w b o vs := by
  obtain ⟨T, fz, h⟩ := h
  intro j v hj
  simp only [World.cell?, h]
  exact hv j v hj
theorem arr_of_at {w : World} {b : Nat} {arr : Array Value} (h : Blk w b arr) {o : Nat} {vs : List Value} (hv : At w b o vs) : ∀ (j : Nat) v, vs[j]? = some v → arr[o + j]? = some v := by
  obtain ⟨T, fz, h⟩ := h
  intro j v hj
  have := hv j v hj
  simp only [World.cell?, h] at this
  exact this
theorem Blk.uniq {w : World} {b : Nat} {arr arr' : Array Value} (h : Blk w b arr) (h' : Blk w b arr') : arr = arr' := by
  obtain ⟨T, fz, h⟩ := h; obtain ⟨T', fz', h'⟩ := h'
  rw [h] at h'; cases h'; rfl
theorem vis_now {c : Cx} {w0 : World} {M : MS} (hm : Mem w0 M c) {id : Nat} {k : K} {xs : List k.T} {gen : Nat} {hist : List (List k.T)} {frz : Bool} (ho : c.hp id = some (.row k xs gen hist frz)) {off len : Nat} {v : Value}
    (hv : VwNow c id k off len xs.length v) : Vis c [id] k ((xs.drop off).take len) v := by
  have hr := hm.obj id _ ho
  simp only [RepO] at hr
  simp only [VwNow] at hv
  cases hb : c.β id with
  | none =>
    rw [hb] at hr hv
    obtain ⟨rfl, h1, rfl, rfl⟩ := hv
    exact ⟨none, 0, by simp, by simp, fun h => by simp at h⟩
  | some b =>
    rw [hb] at hr hv
    obtain ⟨cap, arr, a, rfl, h1, h2, h3, h4⟩ := hv
    obtain ⟨⟨arr', h5, h6, h7⟩, _⟩ := hr
    have e := h2.uniq h5
    subst e
    have hl : ((xs.drop off).take len).length = len := by simp; omega
    refine ⟨some a, cap, by rw [hl], by rw [hl]; exact h1, fun hne => ?_⟩
    have hc : 0 < cap := by
      rcases Nat.eq_zero_or_pos len with e | e
      · subst e; simp at hne
      · omega
    obtain ⟨rfl, h8⟩ := h4 hc
    refine ⟨_, rfl, rfl, .inr ⟨id, by simp, hb⟩, fun i x hx => ?_⟩
    have hx' : xs[off + i]? = some x := by
      rw [List.getElem?_take] at hx
      split at hx
      · simpa using hx
      · cases hx
    obtain ⟨vs, q1, q2⟩ := h7 (off + i) x hx'
    refine ⟨vs, q1, at_of_arr h2 fun j u hu => ?_⟩
    have := q2 j u hu
    rw [show (off + i) * k.size = off * k.size + i * k.size from Nat.add_mul _ _ _] at this
    exact this
theorem view_vis {c : Cx} {w0 : World} {M : MS} (hm : Mem w0 M c) {hp : Nat → Option Obj} (hh : ∀ id o, hp id = some o → c.hp id = some o) {s : S} {v : Value} {k : K} {ys : List k.T}
    (hr : rowOf hp s = .some k ys) (h : RepS c s v) : Vis c s.ids k ys v := by
  cases s with
  | sl k' xs =>
    simp only [rowOf, RowV.some.injEq] at hr
    obtain ⟨rfl, hr⟩ := hr
    cases hr
    obtain ⟨a, cap, e, hl, hx⟩ := h
    cases e
    refine ⟨a, cap, rfl, hl, fun hne => ?_⟩
    obtain ⟨ad, h1, h2, h3, h4⟩ := hx hne
    exact ⟨ad, h1, h2, .inl h3, h4⟩
  | vw id g =>
    simp only [rowOf] at hr
    split at hr
    · rename_i k' xs gen hist frz ho
      split at hr
      · rename_i zs hz
        simp only [RowV.some.injEq] at hr
        obtain ⟨rfl, hr⟩ := hr
        cases hr
        obtain ⟨_, o, h1, h2⟩ := h
        have := hh id _ ho
        rw [this] at h1; cases h1
        obtain ⟨q1, q2, q3⟩ := h2 _ _ _ _ _ rfl
        by_cases hg : g = gen
        · subst hg
          simp [contAt] at hz; subst hz
          have := vis_now hm this (q2 rfl)
          rw [List.drop_zero, List.take_length] at this
          exact this
        · have hz' : hist[gen - 1 - g]? = some zs := by
            unfold contAt at hz
            have : Nat.beq g gen = false := by
              cases hq : Nat.beq g gen with
              | true => exact (hg (Nat.eq_of_beq_eq_true hq)).elim
              | false => rfl
            rw [this] at hz; exact hz
          obtain ⟨a, cap, r1, r2, r3⟩ := q3 hg _ hz'
          refine ⟨a, cap, r1, r2, fun hne => ?_⟩
          obtain ⟨ad, t1, t2, t3, t4⟩ := r3 hne
          exact ⟨ad, t1, t2, t3.imp (fun h => h) (fun e => ⟨_, by simp [S.ids], e.1⟩), t4⟩
      · cases hr
    · cases hr
  | pv id g off len =>
    simp only [rowOf] at hr
    split at hr
    · rename_i k' xs gen hist frz ho
      cases hq : Nat.beq g gen with
      | true =>
        rw [hq] at hr
        simp only [cond_true, RowV.some.injEq] at hr
        obtain ⟨rfl, hr⟩ := hr
        cases hr
        obtain ⟨_, o, h1, h2⟩ := h
        have := hh id _ ho
        rw [this] at h1; cases h1
        exact vis_now hm this ((h2 _ _ _ _ _ rfl).2 (Nat.eq_of_beq_eq_true hq))
      | false => rw [hq] at hr; cases hr
    · cases hr
  | _ => simp [rowOf] at hr
theorem view_nil {hp : Nat → Option Obj} {c : Cx} {s : S} {v : Value} (hr : rowOf hp s = .nil) (h : RepS c s v) : v = .slice none 0 0 := by
  cases s with
  | nilS => exact h
  | vw id g => simp only [rowOf] at hr; split at hr <;> (try split at hr) <;> cases hr
  | pv id g off len =>
    simp only [rowOf] at hr
    split at hr
    · rename_i gen _ _ _
      cases hq : Nat.beq g gen <;> rw [hq] at hr <;> cases hr
    · cases hr
  | _ => simp [rowOf] at hr
theorem cst_some {k k' : K} {xs : List k.T} {ys : List k'.T} (h : cst k k' xs = some ys) : ∃ e : k = k', e ▸ xs = ys := by
  unfold cst at h
  split at h
  · rename_i e; exact ⟨e, by simpa using h⟩
  · cases h
theorem repT_nil (te : TypeId) (w : World) (Sb : Nat → Prop) (e : K) : RepT te w Sb (.slice e) [] [.slice none 0 0] := ⟨none, 0, rfl, Nat.le_refl _, fun h => (h rfl).elim⟩
/-- A datum read out of cells. -/
theorem rei_rep {c : Cx} {w0 : World} {M : MS} (hm : Mem w0 M c) {hp : Nat → Option Obj} (hh : ∀ id o, hp id = some o → c.hp id = some o) {S' : Nat → Prop} (hs : ∀ b, c.S b → S' b) :
    ∀ (k : K) (cs : List S) (vs : List Value) (x : k.T) (r : List S), (∀ id ∈ idsOf cs, ∀ b, c.β id = some b → S' b) → LR (RepS c) cs vs → rei hp k cs = some (x, r) →
      ∃ v1 v2, vs = v1 ++ v2 ∧ RepT c.te c.w S' k x v1 ∧ LR (RepS c) r v2 ∧ (∀ id ∈ idsOf r, id ∈ idsOf cs) := by
  intro k
  induction k with
  | int k =>
    intro cs vs x r hi hl h
    match cs, vs, hl with
    | .int k' n :: cs, v :: vs, hl =>
      simp only [rei] at h
      by_cases e : k' = k
      · simp [e] at h
        obtain ⟨rfl, rfl⟩ := h
        subst e
        obtain ⟨⟨rfl, h1⟩, h2⟩ := hl
        exact ⟨[_], vs, rfl, ⟨rfl, h1⟩, h2, fun id h => by simp [idsOf, h]⟩
      · simp [e] at h
    | [], [], _ => simp [rei] at h
    | .undef :: _, _, _ | .bool _ :: _, _, _ | .str _ :: _, _, _ | .err _ :: _, _, _ | .fn _ :: _, _, _ | .nilS :: _, _, _ | .sl .. :: _, _, _ | .vw .. :: _, _, _ | .pv .. :: _, _, _ | .ptr .. :: _, _, _ | .mp _ :: _, _, _ | .clo _ _ _ :: _, _, _ | .ipt .. :: _, _, _ | .mv .. :: _, _, _ | .io .. :: _, _, _ => simp [rei] at h
  | bool =>
    intro cs vs x r hi hl h
    match cs, vs, hl with
    | .bool n :: cs, v :: vs, hl =>
      simp only [rei, Option.some.injEq, Prod.mk.injEq] at h
      obtain ⟨rfl, rfl⟩ := h
      obtain ⟨h1, h2⟩ := hl
      simp only [RepS] at h1; subst h1
      exact ⟨[_], vs, rfl, rfl, h2, fun id h => by simp [idsOf, h]⟩
    | [], [], _ => simp [rei] at h
    | .undef :: _, _, _ | .int .. :: _, _, _ | .str _ :: _, _, _ | .err _ :: _, _, _ | .fn _ :: _, _, _ | .nilS :: _, _, _ | .sl .. :: _, _, _ | .vw .. :: _, _, _ | .pv .. :: _, _, _ | .ptr .. :: _, _, _ | .mp _ :: _, _, _ | .clo _ _ _ :: _, _, _ | .ipt .. :: _, _, _ | .mv .. :: _, _, _ | .io .. :: _, _, _ => simp [rei] at h
  | str =>
    intro cs vs x r hi hl h
    match cs, vs, hl with
    | .str n :: cs, v :: vs, hl =>
      simp only [rei, Option.some.injEq, Prod.mk.injEq] at h
      obtain ⟨rfl, rfl⟩ := h
      obtain ⟨⟨sb, rfl, h1⟩, h2⟩ := hl
      exact ⟨[_], vs, rfl, ⟨sb, rfl, h1⟩, h2, fun id h => by simp [idsOf, h]⟩
    | [], [], _ => simp [rei] at h
    | .undef :: _, _, _ | .int .. :: _, _, _ | .bool _ :: _, _, _ | .err _ :: _, _, _ | .fn _ :: _, _, _ | .nilS :: _, _, _ | .sl .. :: _, _, _ | .vw .. :: _, _, _ | .pv .. :: _, _, _ | .ptr .. :: _, _, _ | .mp _ :: _, _, _ | .clo _ _ _ :: _, _, _ | .ipt .. :: _, _, _ | .mv .. :: _, _, _ | .io .. :: _, _, _ => simp [rei] at h
  | err =>
    intro cs vs x r hi hl h
    match cs, vs, hl with
    | .err n :: cs, v :: vs, hl =>
      simp only [rei, Option.some.injEq, Prod.mk.injEq] at h
      obtain ⟨rfl, rfl⟩ := h
      obtain ⟨h1, h2⟩ := hl
      simp only [RepS] at h1; subst h1
      exact ⟨[_], vs, rfl, rfl, h2, fun id h => by simp [idsOf, h]⟩
    | [], [], _ => simp [rei] at h
    | .undef :: _, _, _ | .int .. :: _, _, _ | .bool _ :: _, _, _ | .str _ :: _, _, _ | .fn _ :: _, _, _ | .nilS :: _, _, _ | .sl .. :: _, _, _ | .vw .. :: _, _, _ | .pv .. :: _, _, _ | .ptr .. :: _, _, _ | .mp _ :: _, _, _ | .clo _ _ _ :: _, _, _ | .ipt .. :: _, _, _ | .mv .. :: _, _, _ | .io .. :: _, _, _ => simp [rei] at h
  | fn =>
    intro cs vs x r hi hl h
    match cs, vs, hl with
    | .fn n :: cs, v :: vs, hl =>
      simp only [rei, Option.some.injEq, Prod.mk.injEq] at h
      obtain ⟨rfl, rfl⟩ := h
      obtain ⟨h1, h2⟩ := hl
      simp only [RepS] at h1; subst h1
      exact ⟨[_], vs, rfl, rfl, h2, fun id h => by simp [idsOf, h]⟩
    | [], [], _ => simp [rei] at h
    | .undef :: _, _, _ | .int .. :: _, _, _ | .bool _ :: _, _, _ | .str _ :: _, _, _ | .err _ :: _, _, _ | .nilS :: _, _, _ | .sl .. :: _, _, _ | .vw .. :: _, _, _ | .pv .. :: _, _, _ | .ptr .. :: _, _, _ | .mp _ :: _, _, _ | .clo _ _ _ :: _, _, _ | .ipt .. :: _, _, _ | .mv .. :: _, _, _ | .io .. :: _, _, _ => simp [rei] at h
  | slice e ih =>
    intro cs vs x r hi hl h
    match cs, vs, hl with
    | s :: cs, v :: vs, hl =>
      simp only [rei] at h
      split at h
      · rename_i hn
        simp only [Option.some.injEq, Prod.mk.injEq] at h
        obtain ⟨rfl, rfl⟩ := h
        have := view_nil hn hl.1
        subst this
        exact ⟨[_], vs, rfl, repT_nil _ _ _ _, hl.2, fun id h => by simp [idsOf, h]⟩
      · rename_i k' xs hn
        split at h
        · rename_i ys hc
          simp only [Option.some.injEq, Prod.mk.injEq] at h
          obtain ⟨rfl, rfl⟩ := h
          obtain ⟨rfl, rfl⟩ := cst_some hc
          have := view_vis hm hh hn hl.1
          refine ⟨[_], vs, rfl, this.repT hs (fun id hid b hb => hi id (by simp [idsOf, hid]) b hb), hl.2, fun id h => by simp [idsOf, h]⟩
        · cases h
      · cases h
    | [], [], _ => simp [rei] at h
  | prod a b iha ihb =>
    intro cs vs x r hi hl h
    simp only [rei] at h
    split at h
    · rename_i x1 r1 h1
      split at h
      · rename_i y1 r2 h2
        simp only [Option.some.injEq, Prod.mk.injEq] at h
        obtain ⟨rfl, rfl⟩ := h
        obtain ⟨v1, v2, rfl, q1, q2, q3⟩ := iha cs vs x1 r1 hi hl h1
        obtain ⟨v3, v4, rfl, p1, p2, p3⟩ := ihb r1 v2 y1 r2 (fun id hid => hi id (q3 id hid)) q2 h2
        exact ⟨v1 ++ v3, v4, by simp, ⟨v1, v3, rfl, q1, p1⟩, p2, fun id hid => q3 id (p3 id hid)⟩
      · cases h
    · cases h
  | strct a ih =>
    intro cs vs x r hi hl h
    simp only [rei] at h
    exact ih cs vs x r hi hl h
theorem rei1_rep {c : Cx} {w0 : World} {M : MS} (hm : Mem w0 M c) {hp : Nat → Option Obj} (hh : ∀ id o, hp id = some o → c.hp id = some o) {S' : Nat → Prop} (hs : ∀ b, c.S b → S' b) {k : K} {cs : List S} {vs : List Value} {x : k.T}
    (hi : ∀ id ∈ idsOf cs, ∀ b, c.β id = some b → S' b) (hl : LR (RepS c) cs vs) (h : rei1 hp k cs = some x) : RepT c.te c.w S' k x vs := by
  unfold rei1 at h
  split at h
  · rename_i y hy
    simp only [Option.some.injEq] at h; subst h
    obtain ⟨v1, v2, rfl, h1, h2, _⟩ := rei_rep hm hh hs k cs vs y [] hi hl hy
    match v2, h2 with
    | [], _ => simpa using h1
  · cases h
end Go.Eng
