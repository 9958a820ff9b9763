/- Calls: what is known of a function is used where it is called. -/
import Derived.Test.YtfkiapjkeopgfaaE20
set_option linter.all false
set_option linter.unusedVariables false
set_option linter.unusedSimpArgs false
set_option linter.deprecated false
namespace Go.Eng
open Go.RowKit
def LR3 {α β γ : Type} (R : α → β → γ → Prop) : List α → List β → List γ → Prop
  | [], [], [] => True
  | a :: r, b :: s, c :: t => R a b c ∧ LR3 R r s t
  | _, _, _ => False
def mvB (args : List AV) (bs : List (Option Nat)) (b : Nat) : Prop := ∃ (j : Nat) (k : K) (xs : List k.T), args[j]? = some (AV.val false [S.mv k xs]) ∧ bs[j]? = some (some b)
def tupA (arr : Array Value) : Value := if h : arr.size = 1 then arr[0] else .tuple arr
def ResV (te : TypeId) (w' : World) (S' : Nat → Prop) (okb : Nat → Prop) : List (Bool × K) → List (Bool × List S) → List Value → Prop
  | [], [], [] => True
  | (true, _) :: r, (_, [.sl k xs]) :: l, v :: vs => (∃ ob, RowArg te w' S' ob k xs v ∧ ∀ b, ob = some b → okb b ∧ ¬ S' b) ∧ ResV te w' S' okb r l vs
  | (false, _) :: r, (g, cs) :: l, v :: vs => RepV (clC te w' S') (.val g cs) v ∧ ResV te w' S' okb r l vs
  | _, _, _ => False
def ResIo (te : TypeId) (w' : World) (S' : Nat → Prop) : List AV → List (Option Nat) → List (Bool × List S) → Prop
  | .val false [.io k _] :: r, ob :: bs, p :: l => (∃ b, ob = some b ∧ BoxArg te w' S' b p.2 ∧ ¬ S' b ∧ p.2.length = k.size) ∧ ResIo te w' S' r bs l
  | .val false [.io _ _] :: _, _, [] => False
  | _ :: r, _ :: bs, l => ResIo te w' S' r bs l
  | [], [], l => l = []
  | _, _, _ => False
def Res (te : TypeId) (w w' : World) (Sb : Nat → Prop) (args : List AV) (bs : List (Option Nat)) (sg : Sig) (rr : sg.R) (v : Value) : Prop :=
  ∃ (S' : Nat → Prop) (arr : Array Value), v = tupA arr ∧ Fr w (fun b => some b ∈ bs) w' ∧ (∀ b, Sb b → S' b) ∧ (∀ b, S' b → b < w'.heap.size ∧ (Sb b ∨ w.heap.size ≤ b ∨ mvB args bs b)) ∧
    ResV te w' S' (fun b => b < w'.heap.size ∧ (w.heap.size ≤ b ∨ mvB args bs b)) sg.res ((lvs sg.ks rr).take sg.res.length) arr.toList ∧
    ResIo te w' S' args bs ((lvs sg.ks rr).drop sg.res.length)
/-- Blocks of the program's variables that are known. -/
def Glob (Gl : Nat → Option Go.Obj) (Sb : Nat → Prop) (w : World) : Prop := ∀ b o, Gl b = some o → Sb b ∧ w.heap[b]? = some o
def SoundC (P : Program) (te : TypeId) (Gl : Nat → Option Go.Obj) (C : CallF) : Prop :=
  ∀ (sg : Sig) (f : Nat) (args : List AV) (rr : sg.R), C sg f args = some rr →
    (∃ fn, P.funcs[f]? = some fn ∧ (fn.name == "runtime.NumGoroutine") = false ∧ fn.body.isNone = false) ∧
    ∀ (w : World) (Sb : Nat → Prop) (vs : Array Value) (bs : List (Option Nat)), Glob Gl Sb w → (∀ b, Sb b → b < w.heap.size) → LR3 (ArgRel te w Sb) args vs.toList bs →
      (∀ (j b : Nat), bs[j]? = some (some b) → b < w.heap.size ∧ ¬ Sb b) → (∀ (j j' b : Nat), bs[j]? = some (some b) → bs[j']? = some (some b) → j = j') →
      Calls P f vs w (fun e w' => ∃ v, e = .returned v ∧ Res te w w' Sb args bs sg rr v)
theorem run_callFunc {P : Program} {w : World} {f : Nat} {fn : Func} (h1 : P.funcs[f]? = some fn) (h2 : (fn.name == "runtime.NumGoroutine") = false) (h3 : fn.body.isNone = false) (vs : Array Value) : (callFunc f vs).run P w = .ok (.enter f vs) w := by
  unfold callFunc
  rw [run_ok (show (program).run P w = .ok P w from rfl)]
  simp only [h1, h2, h3, Bool.false_eq_true, if_false]; rfl
theorem disj_spec {a b : List Nat} (h : disj a b = true) {x : Nat} (ha : x ∈ a) (hb : x ∈ b) : False := by
  unfold disj at h
  have := List.all_eq_true.1 h x ha
  rw [List.contains_iff_mem.2 hb] at this; cases this
theorem exOk_spec : ∀ {l : List (List Nat × List Nat)}, exOk l = true → ∀ (i j : Nat) p q, i ≠ j → l[i]? = some p → l[j]? = some q → ∀ x, x ∈ p.1 → x ∈ q.2 → False
  | [], _, i, j, p, q, _, hi, _ => by simp at hi
  | a :: r, h, i, j, p, q, hij, hi, hj => by
    simp only [exOk, Bool.and_eq_true] at h
    intro x hx hy
    cases i with
    | zero =>
      cases j with
      | zero => exact hij rfl
      | succ j =>
        simp at hi hj; subst hi
        have := List.all_eq_true.1 h.1 q (List.mem_of_getElem? hj)
        simp only [Bool.and_eq_true] at this
        exact disj_spec this.1 hx hy
    | succ i =>
      cases j with
      | zero =>
        simp at hi hj; subst hj
        have := List.all_eq_true.1 h.1 p (List.mem_of_getElem? hi)
        simp only [Bool.and_eq_true] at this
        exact disj_spec this.2 hx hy
      | succ j => exact exOk_spec h.2 i j p q (by omega) (by simpa using hi) (by simpa using hj) x hx hy
theorem handArgs_get {P : Program} {hp : Nat → Option Obj} : ∀ {m : List Bool} {ts : List TypeId} {args : List AV} {hs : List Hand}, handArgs P hp m ts args = some hs → args.length = hs.length ∧ ∀ (j : Nat) a, args[j]? = some a → ∃ h b t, hs[j]? = some h ∧ handArg P hp b t a = some h
  | m, ts, [], hs, h => by
    have : hs = [] := by
      cases ts <;> simp [handArgs] at h <;> first | exact h | exact h.symm
    subst this
    exact ⟨rfl, by simp⟩
  | m, t :: ts, a :: r, hs, h => by
    simp only [handArgs] at h
    split at h
    · rename_i h1 hs1 e1 e2
      simp only [Option.some.injEq] at h; subst h
      obtain ⟨q1, q2⟩ := handArgs_get e2
      refine ⟨by simp [q1], fun j x hx => ?_⟩
      cases j with
      | zero => simp at hx; subst hx; exact ⟨h1, _, t, rfl, e1⟩
      | succ j => simpa using q2 j x (by simpa using hx)
    · cases h
  | m, [], a :: r, hs, h => by simp [handArgs] at h
theorem exAll_get : ∀ {args : List AV} {hs : List Hand} {j : Nat} {a : AV} {h : Hand}, args[j]? = some a → hs[j]? = some h → (exAll args hs)[j]? = some (h.excl, a.ids ++ h.frz)
  | a :: as, h :: hs, 0, _, _, h1, h2 => by simp at h1 h2; subst h1; subst h2; rfl
  | a :: as, h :: hs, j + 1, _, _, h1, h2 => by simpa [exAll] using exAll_get (args := as) (hs := hs) (j := j) (by simpa using h1) (by simpa using h2)
  | [], _, _, _, _, h1, _ => by simp at h1
  | _ :: _, [], _, _, _, _, h2 => by simp at h2
theorem rowOf_row {hp : Nat → Option Obj} {s : S} (h : rowOf hp s ≠ .none) : ∀ id ∈ s.ids, ∃ k xs gen hist frz, hp id = some (.row k xs gen hist frz) := by
  intro id hid
  cases s <;> simp only [S.ids, List.mem_singleton, List.not_mem_nil] at hid
  case vw j g =>
    subst hid
    simp only [rowOf] at h
    split at h
    · rename_i k xs gen hist frz hq; exact ⟨_, _, _, _, _, hq⟩
    · exact (h rfl).elim
  case pv j g off len =>
    subst hid
    simp only [rowOf] at h
    split at h
    · rename_i k xs gen hist frz hq; exact ⟨_, _, _, _, _, hq⟩
    · exact (h rfl).elim
  case ptr => simp [rowOf] at h
  case mp => simp [rowOf] at h
theorem rei_row {hp : Nat → Option Obj} : ∀ (k : K) (cs : List S) (x : k.T) (r : List S), rei hp k cs = some (x, r) → ∀ id ∈ idsOf cs, id ∈ idsOf r ∨ ∃ k xs gen hist frz, hp id = some (.row k xs gen hist frz) := by
  intro k
  induction k with
  | prod a b iha ihb =>
    intro cs x r h id hid
    simp only [rei] at h
    split at h
    · rename_i y r1 h1
      split at h
      · rename_i z r2 h2
        cases h
        rcases iha cs y r1 h1 id hid with q | q
        · exact ihb r1 z r h2 id q
        · exact .inr q
      · cases h
    · cases h
  | strct a ih =>
    intro cs x r h id hid
    simp only [rei] at h
    exact ih cs x r h id hid
  | slice e _ =>
    intro cs x r h id hid
    match cs with
    | [] => simp [rei] at h
    | s :: cs =>
      simp only [rei] at h
      simp only [idsOf, List.mem_append] at hid
      have hr : r = cs ∧ rowOf hp s ≠ .none := by
        split at h
        · rename_i hq; cases h; exact ⟨rfl, by rw [hq]; simp⟩
        · rename_i k' xs hq
          split at h
          · cases h; exact ⟨rfl, by rw [hq]; simp⟩
          · cases h
        · cases h
      rcases hid with q | q
      · exact .inr (rowOf_row hr.2 id q)
      · exact .inl (by rw [hr.1]; exact q)
  | int k =>
    intro cs x r h id hid
    match cs with
    | .int k' n :: cs =>
      simp only [rei] at h
      cases hd : decide (k' = k) with
      | true => rw [hd] at h; cases h; exact .inl (by simpa [idsOf, S.ids] using hid)
      | false => rw [hd] at h; cases h
    | [] => simp [rei] at h
    | .undef :: _ | .bool _ :: _ | .str _ :: _ | .err _ :: _ | .fn _ :: _ | .nilS :: _ | .sl _ _ :: _ | .vw _ _ :: _ | .pv _ _ _ _ :: _ | .ptr _ _ _ _ :: _ | .mp _ :: _ | .clo _ _ _ :: _ | .ipt _ _ _ :: _ | .mv _ _ :: _ | .io _ _ :: _ => simp [rei] at h
  | bool =>
    intro cs x r h id hid
    match cs with
    | .bool n :: cs => simp only [rei] at h; cases h; exact .inl (by simpa [idsOf, S.ids] using hid)
    | [] => simp [rei] at h
    | .undef :: _ | .int _ _ :: _ | .str _ :: _ | .err _ :: _ | .fn _ :: _ | .nilS :: _ | .sl _ _ :: _ | .vw _ _ :: _ | .pv _ _ _ _ :: _ | .ptr _ _ _ _ :: _ | .mp _ :: _ | .clo _ _ _ :: _ | .ipt _ _ _ :: _ | .mv _ _ :: _ | .io _ _ :: _ => simp [rei] at h
  | str =>
    intro cs x r h id hid
    match cs with
    | .str n :: cs => simp only [rei] at h; cases h; exact .inl (by simpa [idsOf, S.ids] using hid)
    | [] => simp [rei] at h
    | .undef :: _ | .int _ _ :: _ | .bool _ :: _ | .err _ :: _ | .fn _ :: _ | .nilS :: _ | .sl _ _ :: _ | .vw _ _ :: _ | .pv _ _ _ _ :: _ | .ptr _ _ _ _ :: _ | .mp _ :: _ | .clo _ _ _ :: _ | .ipt _ _ _ :: _ | .mv _ _ :: _ | .io _ _ :: _ => simp [rei] at h
  | err =>
    intro cs x r h id hid
    match cs with
    | .err n :: cs => simp only [rei] at h; cases h; exact .inl (by simpa [idsOf, S.ids] using hid)
    | [] => simp [rei] at h
    | .undef :: _ | .int _ _ :: _ | .bool _ :: _ | .str _ :: _ | .fn _ :: _ | .nilS :: _ | .sl _ _ :: _ | .vw _ _ :: _ | .pv _ _ _ _ :: _ | .ptr _ _ _ _ :: _ | .mp _ :: _ | .clo _ _ _ :: _ | .ipt _ _ _ :: _ | .mv _ _ :: _ | .io _ _ :: _ => simp [rei] at h
  | fn =>
    intro cs x r h id hid
    match cs with
    | .fn n :: cs => simp only [rei] at h; cases h; exact .inl (by simpa [idsOf, S.ids] using hid)
    | [] => simp [rei] at h
    | .undef :: _ | .int _ _ :: _ | .bool _ :: _ | .str _ :: _ | .err _ :: _ | .nilS :: _ | .sl _ _ :: _ | .vw _ _ :: _ | .pv _ _ _ _ :: _ | .ptr _ _ _ _ :: _ | .mp _ :: _ | .clo _ _ _ :: _ | .ipt _ _ _ :: _ | .mv _ _ :: _ | .io _ _ :: _ => simp [rei] at h
theorem rei1_row {hp : Nat → Option Obj} {k : K} {cs : List S} {x : k.T} (h : rei1 hp k cs = some x) : ∀ id ∈ idsOf cs, ∃ k xs gen hist frz, hp id = some (.row k xs gen hist frz) := by
  intro id hid
  unfold rei1 at h
  split at h
  · rename_i y hy
    rcases rei_row k cs y [] hy id hid with q | q
    · simp [idsOf] at q
    · exact q
  · cases h
theorem handV_frz {P : Program} {hp : Nat → Option Obj} {t : TypeId} {g : Bool} {cs : List S} {h : Hand} (hd : handV P hp t g cs = some h) : (h.io = [] → ∀ id ∈ h.frz, ∃ k xs gen hist frz, hp id = some (.row k xs gen hist frz)) ∧ h.io = [] := by
  obtain ⟨k, x, _, hx, rfl⟩ := handV_some hd
  exact ⟨fun _ => rei1_row hx, rfl⟩
/-- What is lent by value is a row; no box is handed over without a pointer. -/
theorem handArg_frz {P : Program} {hp : Nat → Option Obj} {mv : Bool} {t : TypeId} {a : AV} {h : Hand} (hd : handArg P hp mv t a = some h) : (h.io = [] → ∀ id ∈ h.frz, ∃ k xs gen hist frz, hp id = some (.row k xs gen hist frz)) ∧ (isPtrV a = false → h.io = []) := by
  unfold handArg at hd
  split at hd
  · cases mv with
    | true =>
      simp only [cond_true] at hd
      split at hd
      · split at hd
        · simp only [Option.some.injEq] at hd; subst hd; exact ⟨fun _ id hid => by simp at hid, fun _ => rfl⟩
        · cases hd
      · cases hd
    | false => simp only [cond_false] at hd; obtain ⟨p1, p2⟩ := handV_frz hd; exact ⟨p1, fun _ => p2⟩
  · rename_i id g
    cases mv with
    | true =>
      simp only [cond_true] at hd
      split at hd
      · rename_i k xs gen hist ho
        cases hg : Nat.beq g gen with
        | false => rw [hg] at hd; cases hd
        | true => rw [hg] at hd; simp only [cond_true, Option.some.injEq] at hd; subst hd; exact ⟨fun _ id hid => by simp at hid, fun _ => rfl⟩
      · cases hd
    | false => simp only [cond_false] at hd; obtain ⟨p1, p2⟩ := handV_frz hd; exact ⟨p1, fun _ => p2⟩
  · refine ⟨fun hio => ?_, fun hp => by simp [isPtrV] at hp⟩
    rename_i id g i p
    cases hp0 : p.isEmpty with
    | false => rw [hp0] at hd; cases hd
    | true =>
      rw [hp0] at hd
      simp only [cond_true] at hd
      split at hd
      · rename_i cs e ho hu
        cases hne : (!cs.isEmpty && Nat.beq g 0 && Nat.beq i 0) with
        | false => rw [hne] at hd; cases hd
        | true =>
          rw [hne] at hd
          simp only [cond_true] at hd
          split at hd
          · split at hd
            · simp only [Option.some.injEq] at hd; subst hd; simp at hio
            · cases hd
          · cases hd
      · cases hd
  · simp only [Option.some.injEq] at hd; subst hd; exact ⟨fun _ id hid => by simp at hid, fun _ => rfl⟩
  · obtain ⟨p1, p2⟩ := handV_frz hd
    exact ⟨p1, fun _ => p2⟩
  · cases hd
theorem anyPtr_get {args : List AV} (h : anyPtr args = false) (a : AV) (ha : a ∈ args) : isPtrV a = false := by
  unfold anyPtr at h
  rw [List.any_eq_false] at h
  simpa using h a ha
/-- A cell without a row. -/
def scal : S → Bool
  | .bool _ | .int _ _ | .str _ | .err _ | .fn _ => true
  | _ => false
theorem leaves_scal : ∀ (k : K) (x : k.T), k.rows = false → ∀ s ∈ leaves k x, scal s = true
  | .int _, _, _, s, h => by simp [leaves] at h; subst h; rfl
  | .bool, _, _, s, h => by simp [leaves] at h; subst h; rfl
  | .str, _, _, s, h => by simp [leaves] at h; subst h; rfl
  | .err, _, _, s, h => by simp [leaves] at h; subst h; rfl
  | .fn, _, _, s, h => by simp [leaves] at h; subst h; rfl
  | .slice _, _, hr, s, h => by simp [K.rows] at hr
  | .prod a b, x, hr, s, h => by
    simp [K.rows] at hr
    simp only [leaves, List.mem_append] at h
    rcases h with h | h
    · exact leaves_scal a x.1 hr.1 s h
    · exact leaves_scal b x.2 hr.2 s h
  | .strct a, x, hr, s, h => leaves_scal a x hr s h
theorem lvs_scal : ∀ (ks : List K) (x : Ts ks), ks.any K.rows = false → ∀ p ∈ lvs ks x, ∀ s ∈ p.2, scal s = true
  | [], _, _, p, h => by simp [lvs] at h
  | [k], x, hr, p, h => by
    simp [lvs] at h; subst h
    simp at hr
    exact leaves_scal k x hr
  | k :: k' :: r, x, hr, p, h => by
    simp only [lvs, List.mem_cons] at h
    simp only [List.any_cons, Bool.or_eq_false_iff] at hr
    rcases h with rfl | h
    · exact leaves_scal k x.1 hr.1
    · exact lvs_scal (k' :: r) x.2 (by simp only [List.any_cons, Bool.or_eq_false_iff]; exact hr.2) p (by simpa using h)
theorem scal_rep {c c' : Cx} (hte : c'.te = c.te) {s : S} {v : Value} (h : scal s = true) (hr : RepS c s v) : RepS c' s v := by
  cases s <;> simp [scal] at h <;> simp only [RepS] at hr ⊢ <;> first | exact hr | (rw [hte]; exact hr)
def PairR (c : Cx) (p : Bool × List S) (u : Value) : Prop := if p.1 = true then ∃ a, u = Value.agg a ∧ LR (RepS c) p.2 a.toList else ∃ s, p.2 = [s] ∧ RepS c s u
theorem pair_iff {c : Cx} {p : Bool × List S} {u : Value} : PairR c p u ↔ RepV c (.val p.1 p.2) u := by
  obtain ⟨g, cs⟩ := p
  cases g <;> simp [PairR, RepV]
theorem lvs_length : ∀ (ks : List K) (x : Ts ks), (lvs ks x).length = ks.length
  | [], _ => rfl
  | [_], _ => rfl
  | _ :: k' :: r, x => by simp only [lvs, List.length_cons]; rw [lvs_length (k' :: r) x.2]; rfl
/-- Results, named anew where they are rows of one's own. -/
theorem ownRes_rep {te : TypeId} {w' : World} {S' : Nat → Prop} {okb : Nat → Prop} : ∀ (ks : List K) (d : Option Nat) (own : List Bool) (comps l : List (Bool × List S)) (u : Upd) (vals : List Value), ownRes d own comps = some (l, u) → ResV te w' S' okb (zipOwn own ks) comps vals →
    (u = [] ∧ ∀ c3 : Cx, (∀ p ∈ comps, ∀ s ∈ p.2, ∀ v, RepS (clC te w' S') s v → RepS c3 s v) → LR (PairR c3) l vals) ∨
    (∃ id k xs ob v, d = some id ∧ u = [(id, .row k xs 0 [] false)] ∧ RowArg te w' S' ob k xs v ∧ (∀ b, ob = some b → okb b ∧ ¬ S' b) ∧ (∃ p ∈ comps, (.sl k xs : S) ∈ p.2) ∧
      ∀ c3 : Cx, (∀ p ∈ comps, ∀ s ∈ p.2, ∀ v, RepS (clC te w' S') s v → RepS c3 s v) → RepS c3 (.vw id 0) v → LR (PairR c3) l vals) := by
  intro ks
  induction ks with
  | nil =>
    intro d own comps l u vals h hr
    have : comps = [] ∧ vals = [] := by
      cases own <;> cases comps <;> cases vals <;> simp [zipOwn, ResV] at hr ⊢
    obtain ⟨rfl, rfl⟩ := this
    have : l = [] ∧ u = [] := by cases own <;> simp [ownRes] at h <;> first | exact ⟨h.1.symm, h.2.symm⟩ | exact h
    obtain ⟨rfl, rfl⟩ := this
    exact .inl ⟨rfl, fun _ _ => trivial⟩
  | cons k0 ks ih =>
    intro d own comps l u vals h hr
    have hz : zipOwn own (k0 :: ks) = (own.headD false, k0) :: zipOwn own.tail ks := by cases own <;> rfl
    rw [hz] at hr
    match comps, vals, hr with
    | p :: cr, v :: vr, hr =>
      have plain : ∀ (o' : List Bool), o' = own.tail → own.headD false = false → (∃ l1 u1, ownRes d o' cr = some (l1, u1) ∧ l = p :: l1 ∧ u = u1) →
          (u = [] ∧ ∀ c3 : Cx, (∀ q ∈ p :: cr, ∀ s ∈ q.2, ∀ v, RepS (clC te w' S') s v → RepS c3 s v) → LR (PairR c3) l (v :: vr)) ∨
          (∃ id k xs ob v', d = some id ∧ u = [(id, .row k xs 0 [] false)] ∧ RowArg te w' S' ob k xs v' ∧ (∀ b, ob = some b → okb b ∧ ¬ S' b) ∧ (∃ q ∈ p :: cr, (.sl k xs : S) ∈ q.2) ∧
            ∀ c3 : Cx, (∀ q ∈ p :: cr, ∀ s ∈ q.2, ∀ v, RepS (clC te w' S') s v → RepS c3 s v) → RepS c3 (.vw id 0) v' → LR (PairR c3) l (v :: vr)) := by
        intro o' ho' hown hh
        subst ho'
        rw [hown] at hr
        obtain ⟨g, cs⟩ := p
        simp only [ResV] at hr
        obtain ⟨hv, hr⟩ := hr
        obtain ⟨l1, u1, e1, rfl, rfl⟩ := hh
        have head : ∀ c3 : Cx, (∀ q ∈ (g, cs) :: cr, ∀ s ∈ q.2, ∀ v, RepS (clC te w' S') s v → RepS c3 s v) → PairR c3 (g, cs) v := by
          intro c3 hg
          rw [pair_iff]
          cases g with
          | true => obtain ⟨arr, e, hl⟩ := hv; exact ⟨arr, e, hl.mono fun s hs v' => hg (true, cs) (by simp) s hs v'⟩
          | false => obtain ⟨s, e, hs⟩ := hv; subst e; exact ⟨s, rfl, hg (false, [s]) (by simp) s (by simp) v hs⟩
        rcases ih d own.tail cr l1 u vr e1 hr with ⟨rfl, q⟩ | ⟨id, k, xs, ob, v', q1, q2, q3, q4, ⟨p', q5, q6⟩, q7⟩
        · exact .inl ⟨rfl, fun c3 hg => ⟨head c3 hg, q c3 fun q hq => hg q (by simp [hq])⟩⟩
        · exact .inr ⟨id, k, xs, ob, v', q1, q2, q3, q4, ⟨p', by simp [q5], q6⟩, fun c3 hg hv' => ⟨head c3 hg, q7 c3 (fun q hq => hg q (by simp [hq])) hv'⟩⟩
      match own, h with
      | [], h =>
        simp only [ownRes] at h
        split at h
        · rename_i l1 u1 e1
          simp only [Option.some.injEq, Prod.mk.injEq] at h
          exact plain [] rfl rfl ⟨l1, u1, e1, h.1.symm, h.2.symm⟩
        · cases h
      | false :: o, h =>
        simp only [ownRes] at h
        split at h
        · rename_i l1 u1 e1
          simp only [Option.some.injEq, Prod.mk.injEq] at h
          exact plain o rfl rfl ⟨l1, u1, e1, h.1.symm, h.2.symm⟩
        · cases h
      | true :: o, h =>
        simp only [List.headD_cons, List.tail_cons] at hr
        obtain ⟨g, cs⟩ := p
        match cs, hr with
        | [.sl k xs], hr =>
          simp only [ResV] at hr
          obtain ⟨⟨ob, hra, hok⟩, hr⟩ := hr
          cases d with
          | none => simp [ownRes] at h
          | some id =>
          simp only [ownRes] at h
          cases e1 : ownRes none o cr with
          | none => rw [e1] at h; cases h
          | some q =>
            obtain ⟨l1, u1⟩ := q
            rw [e1] at h
            simp only [Option.some.injEq, Prod.mk.injEq] at h
            obtain ⟨rfl, rfl⟩ := h
            rcases ih none o cr l1 u1 vr e1 hr with ⟨rfl, q⟩ | ⟨id', _, _, _, _, q1, _⟩
            · refine .inr ⟨id, k, xs, ob, v, rfl, rfl, hra, hok, ⟨(g, [.sl k xs]), by simp, by simp⟩, fun c3 hg hv' => ⟨?_, q c3 fun q hq => hg q (by simp [hq])⟩⟩
              rw [pair_iff]; exact ⟨_, rfl, hv'⟩
            · cases q1
    | [], _, hr => cases own <;> simp [ResV] at hr
    | _ :: _, [], hr =>
      exfalso
      unfold ResV at hr
      split at hr <;> simp_all
end Go.Eng
