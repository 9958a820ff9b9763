/- A function's end: what is handed back. -/
import Derived.Test.YtfkiapjkeopgfaaE25
set_option linter.all false
set_option linter.unusedVariables false
set_option linter.unusedSimpArgs false
set_option linter.deprecated false
namespace Go.Eng
open Go.RowKit
theorem idsOf_append (a b : List S) : idsOf (a ++ b) = idsOf a ++ idsOf b := by
  induction a with
  | nil => rfl
  | cons s r ih => simp only [List.cons_append, idsOf, ih, List.append_assoc]
theorem allSome_spec {α β : Type} (f : α → Option β) : ∀ (l : List α) (m : List β), allSome (l.map f) = some m → m.length = l.length ∧ ∀ (j : Nat) x, l[j]? = some x → ∃ y, m[j]? = some y ∧ f x = some y
  | [], m, h => by simp [allSome] at h; subst h; simp
  | x :: r, m, h => by
    cases hf : f x with
    | none => simp [allSome, hf] at h
    | some y =>
      simp only [List.map_cons, hf, allSome] at h
      cases hr : allSome (r.map f) with
      | none => rw [hr] at h; cases h
      | some l =>
        rw [hr] at h
        cases h
        obtain ⟨h1, h2⟩ := allSome_spec f r l hr
        refine ⟨by simp [h1], fun j x' hj => ?_⟩
        cases j with
        | zero => simp at hj; subst hj; exact ⟨y, rfl, hf⟩
        | succ j => simpa using h2 j x' (by simpa using hj)
theorem reiTs_get {hp : Nat → Option Obj} (ks : List K) : ∀ (css : List (List S)) (x : Ts ks), reiTs hp ks css = some x → css.length = ks.length ∧
    ∀ (j : Nat) k cs, ks[j]? = some k → css[j]? = some cs → ∃ y, rei1 hp k cs = some y ∧ (lvs ks x)[j]? = some (k.isAgg, leaves k y) := by
  induction ks with
  | nil =>
    intro css x h
    cases css with
    | nil => exact ⟨rfl, fun j k cs h => by cases h⟩
    | cons a b => cases h
  | cons k r ih =>
    intro css x h
    cases r with
    | nil =>
      cases css with
      | nil => cases h
      | cons cs l =>
        cases l with
        | nil =>
          refine ⟨rfl, fun j k' cs' h1 h2 => ?_⟩
          cases j with
          | zero => cases h1; cases h2; exact ⟨x, h, rfl⟩
          | succ j => cases h1
        | cons _ _ => cases h
    | cons k' r =>
      cases css with
      | nil => cases h
      | cons cs l =>
        obtain ⟨y, hy, h⟩ := Option.bind_eq_some_iff.1 (show (rei1 hp k cs).bind (fun x => (reiTs hp (k' :: r) l).bind fun y => some (x, y)) = some x from h)
        obtain ⟨z, hz, h⟩ := Option.bind_eq_some_iff.1 h
        cases h
        obtain ⟨h1, h2⟩ := ih l z hz
        refine ⟨congrArg (· + 1) h1, fun j k1 cs1 e1 e2 => ?_⟩
        cases j with
        | zero => cases e1; cases e2; exact ⟨y, hy, rfl⟩
        | succ j => exact h2 j k1 cs1 e1 e2
/-- Names in results that are not rows of their own. -/
def nonIds : List (Bool × K) → List (Bool × List S) → List Nat
  | (false, _) :: r, (_, cs) :: l => idsOf cs ++ nonIds r l
  | (true, _) :: r, _ :: l => nonIds r l
  | _, _ => []
def ownIds : List (Bool × K) → List (Bool × List S) → List Nat
  | (true, _) :: r, (_, cs) :: l => idsOf cs ++ ownIds r l
  | (false, _) :: r, _ :: l => ownIds r l
  | _, _ => []
theorem ids_count (x : Nat) : ∀ (rs : List (Bool × K)) (vs : List (Bool × List S)), rs.length = vs.length → (idsOf (vs.map (·.2)).flatten).count x = (nonIds rs vs).count x + (ownIds rs vs).count x
  | [], [], _ => by simp [idsOf, nonIds, ownIds]
  | (true, _) :: r, (_, cs) :: l, h => by
    have := ids_count x r l (by simpa using h)
    simp only [List.map_cons, List.flatten_cons, idsOf_append, List.count_append, nonIds, ownIds]
    omega
  | (false, _) :: r, (_, cs) :: l, h => by
    have := ids_count x r l (by simpa using h)
    simp only [List.map_cons, List.flatten_cons, idsOf_append, List.count_append, nonIds, ownIds]
    omega
  | [], _ :: _, h => by simp at h
  | _ :: _, [], h => by simp at h
theorem nonIds_mem {x : Nat} : ∀ (rs : List (Bool × K)) (vs : List (Bool × List S)), x ∈ nonIds rs vs → ∃ (j : Nat) (k : K) (g : Bool) (cs : List S), rs[j]? = some (false, k) ∧ vs[j]? = some (g, cs) ∧ x ∈ idsOf cs
  | [], _, h => by simp [nonIds] at h
  | _ :: _, [], h => by simp [nonIds] at h
  | (true, _) :: r, _ :: l, h => by
    obtain ⟨j, k, g, cs, h1, h2, h3⟩ := nonIds_mem r l (by simpa [nonIds] using h)
    exact ⟨j + 1, k, g, cs, by simpa using h1, by simpa using h2, h3⟩
  | (false, k) :: r, (g, cs) :: l, h => by
    simp only [nonIds, List.mem_append] at h
    rcases h with h | h
    · exact ⟨0, k, g, cs, rfl, rfl, h⟩
    · obtain ⟨j, k, g, cs, h1, h2, h3⟩ := nonIds_mem r l h
      exact ⟨j + 1, k, g, cs, by simpa using h1, by simpa using h2, h3⟩
theorem mem_nonIds {x : Nat} : ∀ (rs : List (Bool × K)) (vs : List (Bool × List S)) (j : Nat) k g cs, rs[j]? = some (false, k) → vs[j]? = some (g, cs) → x ∈ idsOf cs → x ∈ nonIds rs vs
  | [], _, _, _, _, _, h, _, _ => by simp at h
  | _ :: _, [], _, _, _, _, _, h, _ => by simp at h
  | (b, k0) :: r, (g0, c0) :: l, j, k, g, cs, h1, h2, h3 => by
    cases j with
    | zero => simp at h1 h2; obtain ⟨rfl, rfl⟩ := h1; obtain ⟨rfl, rfl⟩ := h2; simp [nonIds, h3]
    | succ j =>
      have := mem_nonIds r l j k g cs (by simpa using h1) (by simpa using h2) h3
      cases b <;> simp [nonIds, this]
theorem mem_ownIds {x : Nat} : ∀ (rs : List (Bool × K)) (vs : List (Bool × List S)) (j : Nat) k g cs, rs[j]? = some (true, k) → vs[j]? = some (g, cs) → x ∈ idsOf cs → x ∈ ownIds rs vs
  | [], _, _, _, _, _, h, _, _ => by simp at h
  | _ :: _, [], _, _, _, _, _, h, _ => by simp at h
  | (b, k0) :: r, (g0, c0) :: l, j, k, g, cs, h1, h2, h3 => by
    cases j with
    | zero => simp at h1 h2; obtain ⟨rfl, rfl⟩ := h1; obtain ⟨rfl, rfl⟩ := h2; simp [ownIds, h3]
    | succ j =>
      have := mem_ownIds r l j k g cs (by simpa using h1) (by simpa using h2) h3
      cases b <;> simp [ownIds, this]
theorem ownV_get {h : List (Nat × Obj)} {all : List Nat} : ∀ (rs : List (Bool × K)) (vs : List (Bool × List S)), rs.length = vs.length → ownV h all rs vs = true → ∀ (j : Nat) own k g cs, rs[j]? = some (own, k) → vs[j]? = some (g, cs) → g = k.isAgg ∧
    (own = true → g = false ∧ (cs = [.nilS] ∨ ∃ id gen k xs hist, cs = [.vw id gen] ∧ hget h id = some (.row k xs gen hist false) ∧ all.count id = 1))
  | [], _, _, _, _, _, _, _, _, h, _ => by simp at h
  | _ :: _, [], hl, _, _, _, _, _, _, _, _ => by simp at hl
  | (b, k0) :: r, (g0, c0) :: l, hl, ho, j, own, k, g, cs, h1, h2 => by
    simp only [ownV, Bool.and_eq_true] at ho
    obtain ⟨⟨ho1, ho2⟩, ho3⟩ := ho
    cases j with
    | succ j => exact ownV_get r l (by simpa using hl) ho3 j own k g cs (by simpa using h1) (by simpa using h2)
    | zero =>
      simp at h1 h2; obtain ⟨rfl, rfl⟩ := h1; obtain ⟨rfl, rfl⟩ := h2
      refine ⟨by simpa using ho2, fun e => ?_⟩
      subst e
      simp only [cond_true, Bool.and_eq_true, Bool.not_eq_true'] at ho1
      refine ⟨ho1.1, ?_⟩
      have ho1 := ho1.2
      split at ho1
      · exact .inl rfl
      · rename_i id gg _
        split at ho1
        · rename_i k xs gen hist hq
          simp only [Bool.and_eq_true] at ho1
          have e := Nat.eq_of_beq_eq_true ho1.1
          subst e
          exact .inr ⟨id, _, _, xs, hist, rfl, hq, Nat.eq_of_beq_eq_true ho1.2⟩
        · cases ho1
      · cases ho1
theorem resV_of {te : TypeId} {w' : World} {S' okb : Nat → Prop} : ∀ (rs : List (Bool × K)) (comps : List (Bool × List S)) (vals : List Value), rs.length = comps.length → rs.length = vals.length →
    (∀ (j : Nat) own k g cs u, rs[j]? = some (own, k) → comps[j]? = some (g, cs) → vals[j]? = some u → (own = true → ∃ e xs ob, cs = [.sl e xs] ∧ RowArg te w' S' ob e xs u ∧ ∀ b, ob = some b → okb b ∧ ¬ S' b) ∧ (own = false → RepV (clC te w' S') (.val g cs) u)) →
    ResV te w' S' okb rs comps vals
  | [], [], [], _, _, _ => trivial
  | (true, k) :: r, (g, cs) :: l, u :: vs, h1, h2, h => by
    obtain ⟨e, xs, ob, rfl, q1, q2⟩ := (h 0 true k g cs u rfl rfl rfl).1 rfl
    exact ⟨⟨ob, q1, q2⟩, resV_of r l vs (by simpa using h1) (by simpa using h2) fun j own k g cs u e1 e2 e3 => h (j + 1) own k g cs u (by simpa using e1) (by simpa using e2) (by simpa using e3)⟩
  | (false, k) :: r, (g, cs) :: l, u :: vs, h1, h2, h => by
    exact ⟨(h 0 false k g cs u rfl rfl rfl).2 rfl, resV_of r l vs (by simpa using h1) (by simpa using h2) fun j own k g cs u e1 e2 e3 => h (j + 1) own k g cs u (by simpa using e1) (by simpa using e2) (by simpa using e3)⟩
  | [], _ :: _, _, h, _, _ => by simp at h
  | _ :: _, [], _, h, _, _ => by simp at h
  | [], [], _ :: _, _, h, _ => by simp at h
  | _ :: _, _ :: _, [], _, h, _ => by simp at h
/-- Arguments: rows handed over, boxes lent, and the rest. -/
theorem arg_cases (a : AV) : (∃ k xs, a = .val false [.mv k xs]) ∨ (∃ k x, a = .val false [.io k x]) ∨ ((∀ k xs, a = .val false [.mv k xs] → False) ∧ (∀ k x, a = .val false [.io k x] → False)) := by
  by_cases h1 : ∃ k xs, a = .val false [.mv k xs]
  · exact .inl h1
  · by_cases h2 : ∃ k x, a = .val false [.io k x]
    · exact .inr (.inl h2)
    · exact .inr (.inr ⟨fun k xs e => h1 ⟨k, xs, e⟩, fun k x e => h2 ⟨k, x, e⟩⟩)
theorem initE_io (i : Nat) (a : AV) (r : List AV) (h1 : ∀ k xs, a = .val false [.mv k xs] → False) (h2 : ∀ k x, a = .val false [.io k x] → False) : initE i (a :: r) = (i, a) :: initE (i + 1) r := by
  rw [initE] <;> assumption
theorem initH_io (i : Nat) (a : AV) (r : List AV) (h1 : ∀ k xs, a = .val false [.mv k xs] → False) (h2 : ∀ k x, a = .val false [.io k x] → False) : initH i (a :: r) = initH (i + 1) r := by
  rw [initH] <;> assumption
theorem ioIds_io (i : Nat) (a : AV) (r : List AV) (h2 : ∀ k x, a = .val false [.io k x] → False) : ioIds i (a :: r) = ioIds (i + 1) r := by
  rw [ioIds]; assumption
theorem ioKs_io (a : AV) (r : List AV) (h2 : ∀ k x, a = .val false [.io k x] → False) : ioKs (a :: r) = ioKs r := by
  rw [ioKs]; assumption
theorem look_init : ∀ (args : List AV) (i t : Nat), look (initE i args) t = (if t < i then .undef else match args[t - i]? with | some (.val false [.mv _ _]) => .val false [.vw t 0] | some (.val false [.io _ _]) => .val false [.ptr t 0 0 []] | some a => a | none => .undef)
  | [], i, t => by simp [initE, look]
  | a :: r, i, t => by
    have ih := look_init r (i + 1) t
    have key : ∀ v, look ((i, v) :: initE (i + 1) r) t = if i = t then v else look (initE (i + 1) r) t := fun v => look_cons i v _ t
    have hs : ¬ t < i → ¬ i = t → (a :: r)[t - i]? = r[t - (i + 1)]? ∧ ¬ t < i + 1 := by
      intro h1 h2
      refine ⟨?_, by omega⟩
      rw [show t - i = (t - (i + 1)) + 1 by omega]; simp
    have hz : i = t → ¬ t < i ∧ (a :: r)[t - i]? = some a := by rintro rfl; simp
    rcases arg_cases a with ⟨k, xs, rfl⟩ | ⟨k, x, rfl⟩ | ⟨q1, q2⟩
    · rw [initE, key]
      by_cases h2 : i = t
      · rw [if_pos h2, if_neg (hz h2).1, (hz h2).2]; subst h2; rfl
      · rw [if_neg h2, ih]
        by_cases h1 : t < i
        · rw [if_pos h1, if_pos (by omega)]
        · rw [if_neg h1, if_neg (hs h1 h2).2, (hs h1 h2).1]
    · rw [initE, key]
      by_cases h2 : i = t
      · rw [if_pos h2, if_neg (hz h2).1, (hz h2).2]; subst h2; rfl
      · rw [if_neg h2, ih]
        by_cases h1 : t < i
        · rw [if_pos h1, if_pos (by omega)]
        · rw [if_neg h1, if_neg (hs h1 h2).2, (hs h1 h2).1]
    · rw [initE_io i a r q1 q2, key]
      by_cases h2 : i = t
      · rw [if_pos h2, if_neg (hz h2).1, (hz h2).2]
        split
        · rename_i e; cases e; exact (q1 _ _ rfl).elim
        · rename_i e; cases e; exact (q2 _ _ rfl).elim
        · rename_i e; cases e; rfl
        · rename_i e; cases e
      · rw [if_neg h2, ih]
        by_cases h1 : t < i
        · rw [if_pos h1, if_pos (by omega)]
        · rw [if_neg h1, if_neg (hs h1 h2).2, (hs h1 h2).1]
theorem hget_init : ∀ (args : List AV) (i t : Nat) (o : Obj), hget (initH i args) t = some o → i ≤ t ∧ ((∃ k xs, args[t - i]? = some (.val false [.mv k xs]) ∧ o = .row k xs 0 [] false) ∨ ∃ k x, args[t - i]? = some (.val false [.io k x]) ∧ o = .box (leaves k x))
  | [], i, t, o, h => by simp [initH, hget] at h
  | a :: r, i, t, o, h => by
    have key : ∀ v, hget ((i, v) :: initH (i + 1) r) t = if i = t then some v else hget (initH (i + 1) r) t := by
      intro v
      simp only [hget]
      by_cases e : i = t
      · subst e; simp
      · have : Nat.beq i t = false := by
          cases hb : Nat.beq i t with
          | true => exact (e (Nat.eq_of_beq_eq_true hb)).elim
          | false => rfl
        rw [this, if_neg e]; rfl
    have rcd : hget (initH (i + 1) r) t = some o → i ≤ t ∧ ((∃ k xs, (a :: r)[t - i]? = some (.val false [.mv k xs]) ∧ o = .row k xs 0 [] false) ∨ ∃ k x, (a :: r)[t - i]? = some (.val false [.io k x]) ∧ o = .box (leaves k x)) := by
      intro h
      obtain ⟨h1, h2⟩ := hget_init r (i + 1) t o h
      have : (a :: r)[t - i]? = r[t - (i + 1)]? := by rw [show t - i = (t - (i + 1)) + 1 by omega]; simp
      rw [this]
      exact ⟨by omega, h2⟩
    rcases arg_cases a with ⟨k, xs, rfl⟩ | ⟨k, x, rfl⟩ | ⟨q1, q2⟩
    · rw [initH, key] at h
      split at h
      · rename_i e; subst e; cases h; exact ⟨Nat.le_refl _, .inl ⟨k, xs, by simp, rfl⟩⟩
      · exact rcd h
    · rw [initH, key] at h
      split at h
      · rename_i e; subst e; cases h; exact ⟨Nat.le_refl _, .inr ⟨k, x, by simp, rfl⟩⟩
      · exact rcd h
    · rw [initH_io i a r q1 q2] at h; exact rcd h
theorem hget_init_of : ∀ (args : List AV) (i t : Nat) (a : AV), i ≤ t → args[t - i]? = some a → (∀ k xs, a = .val false [.mv k xs] → hget (initH i args) t = some (.row k xs 0 [] false)) ∧ (∀ k x, a = .val false [.io k x] → hget (initH i args) t = some (.box (leaves k x)))
  | [], _, _, _, _, h => by simp at h
  | a0 :: r, i, t, a, hi, h => by
    have key : ∀ v, hget ((i, v) :: initH (i + 1) r) t = if i = t then some v else hget (initH (i + 1) r) t := by
      intro v
      simp only [hget]
      by_cases e : i = t
      · subst e; simp
      · have : Nat.beq i t = false := by
          cases hb : Nat.beq i t with
          | true => exact (e (Nat.eq_of_beq_eq_true hb)).elim
          | false => rfl
        rw [this, if_neg e]; rfl
    by_cases e : i = t
    · subst e
      simp at h; subst h
      refine ⟨?_, ?_⟩
      · rintro k xs rfl; rw [initH, key, if_pos rfl]
      · rintro k x rfl; rw [initH, key, if_pos rfl]
    · have h' : r[t - (i + 1)]? = some a := by rw [show t - i = (t - (i + 1)) + 1 by omega] at h; simpa using h
      have ih := hget_init_of r (i + 1) t a (by omega) h'
      rcases arg_cases a0 with ⟨k, xs, rfl⟩ | ⟨k, x, rfl⟩ | ⟨q1, q2⟩
      · rw [initH, key, if_neg e]; exact ih
      · rw [initH, key, if_neg e]; exact ih
      · rw [initH_io i a0 r q1 q2]; exact ih
theorem loOf_lt : ∀ (l : List Nat) (i : Nat), i ∈ l → i < loOf l
  | [], _, h => by simp at h
  | a :: r, i, h => by
    simp only [loOf]
    rcases List.mem_cons.1 h with rfl | h
    · cases hb : Nat.ble (loOf r) i with
      | true => simp
      | false =>
        simp only [cond_false]
        rcases Nat.lt_or_ge i (loOf r) with q | q
        · exact q
        · rw [Nat.ble_eq_true_of_le q] at hb; cases hb
    · have := loOf_lt r i h
      cases hb : Nat.ble (loOf r) a with
      | true =>
        have := Nat.le_of_ble_eq_true hb
        simp only [cond_true]; omega
      | false => exact this
theorem loOf_le : ∀ (args : List AV) (i : Nat), loOf (ioIds i args) ≤ i + args.length
  | [], i => by simp [ioIds, loOf]
  | a :: r, i => by
    have ih := loOf_le r (i + 1)
    by_cases hq : ∃ k x, a = .val false [.io k x]
    · obtain ⟨k, x, rfl⟩ := hq
      rw [ioIds, loOf]
      cases Nat.ble (loOf (ioIds (i + 1) r)) i with
      | true => simp only [cond_true, List.length_cons]; omega
      | false => simp only [cond_false, List.length_cons]; omega
    · rw [ioIds_io i a r (fun k x e => hq ⟨k, x, e⟩)]
      simp only [List.length_cons]; omega
/-- Lent boxes, one by one. -/
theorem resIo_of {te : TypeId} {w' : World} {S' : Nat → Prop} : ∀ (args : List AV) (bs : List (Option Nat)) (i : Nat) (l : List (Bool × List S)), args.length = bs.length → l.length = (ioIds i args).length →
    (∀ (m j : Nat) p, (ioIds i args)[m]? = some j → l[m]? = some p → ∃ k b, (ioKs args)[m]? = some k ∧ bs[j - i]? = some (some b) ∧ BoxArg te w' S' b p.2 ∧ ¬ S' b ∧ p.2.length = k.size) → ResIo te w' S' args bs l
  | [], [], _, [], _, _, _ => rfl
  | [], [], _, _ :: _, _, h, _ => by simp [ioIds] at h
  | [], _ :: _, _, _, h, _, _ => by simp at h
  | _ :: _, [], _, _, h, _, _ => by simp at h
  | a :: r, ob :: bs, i, l, h1, h2, h => by
    have hge : ∀ (args : List AV) (i m j : Nat), (ioIds i args)[m]? = some j → i ≤ j := by
      intro args
      induction args with
      | nil => intro i m j h; simp [ioIds] at h
      | cons a r ih =>
        intro i m j h
        by_cases hq : ∃ k x, a = .val false [.io k x]
        · obtain ⟨k, x, rfl⟩ := hq
          rw [ioIds] at h
          cases m with
          | zero => simp at h; omega
          | succ m => have := ih (i + 1) m j (by simpa using h); omega
        · rw [ioIds_io i a r (fun k x e => hq ⟨k, x, e⟩)] at h
          have := ih (i + 1) m j h; omega
    by_cases hq : ∃ k x, a = .val false [.io k x]
    · obtain ⟨k, x, rfl⟩ := hq
      rw [ioIds] at h2 h
      cases l with
      | nil => simp at h2
      | cons p l =>
        obtain ⟨k', b, q0, q1, q2, q3, q4⟩ := h 0 i p rfl rfl
        simp [ioKs] at q0
        subst q0
        simp at q1
        refine ⟨⟨b, q1, q2, q3, q4⟩, resIo_of r bs (i + 1) l (by simpa using h1) (by simpa using h2) fun m j p e1 e2 => ?_⟩
        obtain ⟨k', b', z0, z1, z2⟩ := h (m + 1) j p (by simpa using e1) (by simpa using e2)
        have := hge r (i + 1) m j e1
        refine ⟨k', b', by simpa [ioKs] using z0, ?_, z2⟩
        rw [show j - i = (j - (i + 1)) + 1 by omega] at z1
        simpa using z1
    · have hn := fun k x e => hq ⟨k, x, e⟩
      rw [ioIds_io i a r hn] at h2 h
      have := resIo_of (te := te) (w' := w') (S' := S') r bs (i + 1) l (by simpa using h1) h2 fun m j p e1 e2 => by
        obtain ⟨k', b', z0, z1, z2⟩ := h m j p e1 e2
        have := hge r (i + 1) m j e1
        refine ⟨k', b', by rw [ioKs_io a r hn] at z0; exact z0, ?_, z2⟩
        rw [show j - i = (j - (i + 1)) + 1 by omega] at z1
        simpa using z1
      rw [ResIo]
      · exact this
      · intro k x _ _ _ e; exact hn k x e
      · intro k x _ e; exact hn k x e
theorem ioIds_get : ∀ (args : List AV) (i m j : Nat), (ioIds i args)[m]? = some j → i ≤ j ∧ ∃ (k : K) (x : k.T), args[j - i]? = some (.val false [.io k x]) ∧ (ioKs args)[m]? = some k
  | [], _, _, _, h => by simp [ioIds] at h
  | a :: r, i, m, j, h => by
    have sh : ∀ (m : Nat), (ioIds (i + 1) r)[m]? = some j → i ≤ j ∧ ∃ (k : K) (x : k.T), (a :: r)[j - i]? = some (.val false [.io k x]) ∧ (ioKs r)[m]? = some k := by
      intro m h
      obtain ⟨h1, k, x, h2, h3⟩ := ioIds_get r (i + 1) m j h
      refine ⟨by omega, k, x, ?_, h3⟩
      rw [show j - i = (j - (i + 1)) + 1 by omega]; simpa using h2
    by_cases hq : ∃ k x, a = .val false [.io k x]
    · obtain ⟨k, x, rfl⟩ := hq
      rw [ioIds] at h
      cases m with
      | zero => simp at h; subst h; exact ⟨Nat.le_refl _, k, x, by simp, by simp [ioKs]⟩
      | succ m => simpa [ioKs] using sh m (by simpa using h)
    · have hn := fun k x e => hq ⟨k, x, e⟩
      rw [ioIds_io i a r hn] at h
      rw [ioKs_io a r hn]
      exact sh m h
end Go.Eng
