/- Definitions and lemmas for the law TopAgain: what the program's functions come to. Conditions: as each lemma says. -/
import Derived.Test.YtbbnmhmfdbcmhaaGreatDoorG2
import Derived.Deep.Slices
import Derived.SizedLaws
import Derived.ChangeArms
import Derived.Below
set_option linter.all false
set_option linter.unusedVariables false
set_option linter.unusedSimpArgs false
set_option linter.deprecated false
namespace Go.Eng
open Go.RowKit
theorem idsOf_append (a b : List S) : idsOf (a ++ b) = idsOf a ++ idsOf b := by
 induction a with
 | nil => rfl
 | cons s r ih => simp only [List.cons_append, idsOf, ih, List.append_assoc]
theorem allSome_spec {α β : Type} (f : α -> Option β) : ∀ (l : List α) (m : List β), allSome (l.map f) = some m -> m.length = l.length /\ ∀ (j : Nat) x, l[j]? = some x -> ∃ y, m[j]? = some y /\ f x = some y
 | [], m, h => by simp [allSome] at h; subst h; simp
 | x :: r, m, h => by
  cases hf : f x with
  | none => simp [allSome, hf] at h
  | some y =>
   simp only [List.map_cons, hf, allSome] at h
   cases hr : allSome (r.map f) with
   | none => rw [hr] at h; cases h
   | some l =>
    rw [hr] at h
    cases h
    obtain ⟨h1, h2⟩ := allSome_spec f r l hr
    refine ⟨by simp [h1], fun j x' hj => ?_⟩
    cases j with
    | zero => simp at hj; subst hj; exact ⟨y, rfl, hf⟩
    | succ j => simpa using h2 j x' (by simpa using hj)
theorem reiTs_get {hp : Nat -> Option Obj} (ks : List K) : ∀ (css : List (List S)) (x : Ts ks), reiTs hp ks css = some x -> css.length = ks.length /\
  ∀ (j : Nat) k cs, ks[j]? = some k -> css[j]? = some cs -> ∃ y, rei1 hp k cs = some y /\ (lvs ks x)[j]? = some (k.isAgg, leaves k y) := by
 induction ks with
 | nil =>
  intro css x h
  cases css with
  | nil => exact ⟨rfl, fun j k cs h => by cases h⟩
  | cons a b => cases h
 | cons k r ih =>
  intro css x h
  cases r with
  | nil =>
   cases css with
   | nil => cases h
   | cons cs l =>
    cases l with
    | nil =>
     refine ⟨rfl, fun j k' cs' h1 h2 => ?_⟩
     cases j with
     | zero => cases h1; cases h2; exact ⟨x, h, rfl⟩
     | succ j => cases h1
    | cons _ _ => cases h
  | cons k' r =>
   cases css with
   | nil => cases h
   | cons cs l =>
    obtain ⟨y, hy, h⟩ := Option.bind_eq_some_iff.1 (show (rei1 hp k cs).bind (fun x => (reiTs hp (k' :: r) l).bind fun y => some (x, y)) = some x from h)
    obtain ⟨z, hz, h⟩ := Option.bind_eq_some_iff.1 h
    cases h
    obtain ⟨h1, h2⟩ := ih l z hz
    refine ⟨congrArg (· + 1) h1, fun j k1 cs1 e1 e2 => ?_⟩
    cases j with
    | zero => cases e1; cases e2; exact ⟨y, hy, rfl⟩
    | succ j => exact h2 j k1 cs1 e1 e2
def nonIds : List (Bool × K) -> List (Bool × List S) -> List Nat
 | (false, _) :: r, (_, cs) :: l => idsOf cs ++ nonIds r l
 | (true, _) :: r, _ :: l => nonIds r l
 | _, _ => []
def ownIds : List (Bool × K) -> List (Bool × List S) -> List Nat
 | (true, _) :: r, (_, cs) :: l => idsOf cs ++ ownIds r l
 | (false, _) :: r, _ :: l => ownIds r l
 | _, _ => []
theorem ids_count (x : Nat) : ∀ (rs : List (Bool × K)) (vs : List (Bool × List S)), rs.length = vs.length -> (idsOf (vs.map (·.2)).flatten).count x = (nonIds rs vs).count x + (ownIds rs vs).count x
 | [], [], _ => by simp [idsOf, nonIds, ownIds]
 | (true, _) :: r, (_, cs) :: l, h => by
  have := ids_count x r l (by simpa using h)
  simp only [List.map_cons, List.flatten_cons, idsOf_append, List.count_append, nonIds, ownIds]
  omega
 | (false, _) :: r, (_, cs) :: l, h => by
  have := ids_count x r l (by simpa using h)
  simp only [List.map_cons, List.flatten_cons, idsOf_append, List.count_append, nonIds, ownIds]
  omega
 | [], _ :: _, h => by simp at h
 | _ :: _, [], h => by simp at h
theorem nonIds_mem {x : Nat} : ∀ (rs : List (Bool × K)) (vs : List (Bool × List S)), x ∈ nonIds rs vs -> ∃ (j : Nat) (k : K) (g : Bool) (cs : List S), rs[j]? = some (false, k) /\ vs[j]? = some (g, cs) /\ x ∈ idsOf cs
 | [], _, h => by simp [nonIds] at h
 | _ :: _, [], h => by simp [nonIds] at h
 | (true, _) :: r, _ :: l, h => by
  obtain ⟨j, k, g, cs, h1, h2, h3⟩ := nonIds_mem r l (by simpa [nonIds] using h)
  exact ⟨j + 1, k, g, cs, by simpa using h1, by simpa using h2, h3⟩
 | (false, k) :: r, (g, cs) :: l, h => by
  simp only [nonIds, List.mem_append] at h
  rcases h with h | h
  ·exact ⟨0, k, g, cs, rfl, rfl, h⟩
  ·obtain ⟨j, k, g, cs, h1, h2, h3⟩ := nonIds_mem r l h
   exact ⟨j + 1, k, g, cs, by simpa using h1, by simpa using h2, h3⟩
theorem mem_nonIds {x : Nat} : ∀ (rs : List (Bool × K)) (vs : List (Bool × List S)) (j : Nat) k g cs, rs[j]? = some (false, k) -> vs[j]? = some (g, cs) -> x ∈ idsOf cs -> x ∈ nonIds rs vs
 | [], _, _, _, _, _, h, _, _ => by simp at h
 | _ :: _, [], _, _, _, _, _, h, _ => by simp at h
 | (b, k0) :: r, (g0, c0) :: l, j, k, g, cs, h1, h2, h3 => by
  cases j with
  | zero => simp at h1 h2; obtain ⟨rfl, rfl⟩ := h1; obtain ⟨rfl, rfl⟩ := h2; simp [nonIds, h3]
  | succ j =>
   have := mem_nonIds r l j k g cs (by simpa using h1) (by simpa using h2) h3
   cases b <;> simp [nonIds, this]
theorem mem_ownIds {x : Nat} : ∀ (rs : List (Bool × K)) (vs : List (Bool × List S)) (j : Nat) k g cs, rs[j]? = some (true, k) -> vs[j]? = some (g, cs) -> x ∈ idsOf cs -> x ∈ ownIds rs vs
 | [], _, _, _, _, _, h, _, _ => by simp at h
 | _ :: _, [], _, _, _, _, _, h, _ => by simp at h
 | (b, k0) :: r, (g0, c0) :: l, j, k, g, cs, h1, h2, h3 => by
  cases j with
  | zero => simp at h1 h2; obtain ⟨rfl, rfl⟩ := h1; obtain ⟨rfl, rfl⟩ := h2; simp [ownIds, h3]
  | succ j =>
   have := mem_ownIds r l j k g cs (by simpa using h1) (by simpa using h2) h3
   cases b <;> simp [ownIds, this]
theorem ownV_get {h : List (Nat × Obj)} {all : List Nat} : ∀ (rs : List (Bool × K)) (vs : List (Bool × List S)), rs.length = vs.length -> ownV h all rs vs = true -> ∀ (j : Nat) own k g cs, rs[j]? = some (own, k) -> vs[j]? = some (g, cs) -> g = k.isAgg /\
  (own = true -> g = false /\ (cs = [.nilS] \/ ∃ id gen k xs hist, cs = [.vw id gen] /\ hget h id = some (.row k xs gen hist false) /\ all.count id = 1))
 | [], _, _, _, _, _, _, _, _, h, _ => by simp at h
 | _ :: _, [], hl, _, _, _, _, _, _, _, _ => by simp at hl
 | (b, k0) :: r, (g0, c0) :: l, hl, ho, j, own, k, g, cs, h1, h2 => by
  simp only [ownV, Bool.and_eq_true] at ho
  obtain ⟨⟨ho1, ho2⟩, ho3⟩ := ho
  cases j with
  | succ j => exact ownV_get r l (by simpa using hl) ho3 j own k g cs (by simpa using h1) (by simpa using h2)
  | zero =>
   simp at h1 h2; obtain ⟨rfl, rfl⟩ := h1; obtain ⟨rfl, rfl⟩ := h2
   refine ⟨by simpa using ho2, fun e => ?_⟩
   subst e
   simp only [cond_true, Bool.and_eq_true, Bool.not_eq_true'] at ho1
   refine ⟨ho1.1, ?_⟩
   have ho1 := ho1.2
   split at ho1
   ·exact .inl rfl
   ·rename_i id gg _
    split at ho1
    ·rename_i k xs gen hist hq
     simp only [Bool.and_eq_true] at ho1
     have e := Nat.eq_of_beq_eq_true ho1.1
     subst e
     exact .inr ⟨id, _, _, xs, hist, rfl, hq, Nat.eq_of_beq_eq_true ho1.2⟩
    ·cases ho1
   ·cases ho1
theorem resV_of {te : TE} {w' : World} {S' okb : Nat -> Prop} : ∀ (rs : List (Bool × K)) (comps : List (Bool × List S)) (vals : List Value), rs.length = comps.length -> rs.length = vals.length ->
  (∀ (j : Nat) own k g cs u, rs[j]? = some (own, k) -> comps[j]? = some (g, cs) -> vals[j]? = some u -> (own = true -> ∃ e xs ob, cs = [.sl e xs] /\ RowArg te w' S' ob e xs u /\ ∀ b, ob = some b -> okb b /\ ¬ S' b) /\ (own = false -> RepV (clC te w' S') (.val g cs) u)) ->
  ResV te w' S' okb rs comps vals
 | [], [], [], _, _, _ => trivial
 | (true, k) :: r, (g, cs) :: l, u :: vs, h1, h2, h => by
  obtain ⟨e, xs, ob, rfl, q1, q2⟩ := (h 0 true k g cs u rfl rfl rfl).1 rfl
  exact ⟨⟨ob, q1, q2⟩, resV_of r l vs (by simpa using h1) (by simpa using h2) fun j own k g cs u e1 e2 e3 => h (j + 1) own k g cs u (by simpa using e1) (by simpa using e2) (by simpa using e3)⟩
 | (false, k) :: r, (g, cs) :: l, u :: vs, h1, h2, h => by
  exact ⟨(h 0 false k g cs u rfl rfl rfl).2 rfl, resV_of r l vs (by simpa using h1) (by simpa using h2) fun j own k g cs u e1 e2 e3 => h (j + 1) own k g cs u (by simpa using e1) (by simpa using e2) (by simpa using e3)⟩
 | [], _ :: _, _, h, _, _ => by simp at h
 | _ :: _, [], _, h, _, _ => by simp at h
 | [], [], _ :: _, _, h, _ => by simp at h
 | _ :: _, _ :: _, [], _, h, _ => by simp at h
theorem arg_cases (a : AV) : (∃ k xs, a = .val false [.mv k xs]) \/ (∃ k x, a = .val false [.io k x]) \/ ((∀ k xs, a = .val false [.mv k xs] -> False) /\ (∀ k x, a = .val false [.io k x] -> False)) := by
 by_cases h1 : ∃ k xs, a = .val false [.mv k xs]
 ·exact .inl h1
 ·by_cases h2 : ∃ k x, a = .val false [.io k x]
  ·exact .inr (.inl h2)
  ·exact .inr (.inr ⟨fun k xs e => h1 ⟨k, xs, e⟩, fun k x e => h2 ⟨k, x, e⟩⟩)
theorem initE_io (i : Nat) (a : AV) (r : List AV) (h1 : ∀ k xs, a = .val false [.mv k xs] -> False) (h2 : ∀ k x, a = .val false [.io k x] -> False) (h3 : isCo a = false) : initE i (a :: r) = (i, a) :: initE (i + 1) r := by
 have h3' : ∀ cid t off m k xs, a = .val false [.co cid t off m k xs] -> False := by
  rintro _ _ _ _ _ _ rfl; cases h3
 rw [initE] <;> assumption
theorem initH_io (i : Nat) (a : AV) (r : List AV) (h1 : ∀ k xs, a = .val false [.mv k xs] -> False) (h2 : ∀ k x, a = .val false [.io k x] -> False) (h3 : isCo a = false) : initH i (a :: r) = initH (i + 1) r := by
 have h3' : ∀ cid t off m k xs, a = .val false [.co cid t off m k xs] -> False := by
  rintro _ _ _ _ _ _ rfl; cases h3
 rw [initH] <;> assumption
theorem ioIds_io (i : Nat) (a : AV) (r : List AV) (h2 : ∀ k x, a = .val false [.io k x] -> False) (h3 : isCo a = false) : ioIds i (a :: r) = ioIds (i + 1) r := by
 have h3' : ∀ cid t off m k xs, a = .val false [.co cid t off m k xs] -> False := by
  rintro _ _ _ _ _ _ rfl; cases h3
 rw [ioIds] <;> assumption
theorem ioKs_io (a : AV) (r : List AV) (h2 : ∀ k x, a = .val false [.io k x] -> False) (h3 : isCo a = false) : ioKs (a :: r) = ioKs r := by
 have h3' : ∀ cid t off m k xs, a = .val false [.co cid t off m k xs] -> False := by
  rintro _ _ _ _ _ _ rfl; cases h3
 rw [ioKs] <;> assumption
theorem look_init : ∀ (args : List AV) (i t : Nat), (∀ a ∈ args, isCo a = false) -> look (initE i args) t = (if t < i then .undef else match args[t - i]? with | some (.val false [.mv _ _]) => .val false [.vw t 0] | some (.val false [.io _ _]) => .val false [.ptr t 0 0 []] | some a => a | none => .undef)
 | [], i, t, _ => by simp [initE, look]
 | a :: r, i, t, hco => by
  have ih := look_init r (i + 1) t (fun a h => hco a (by simp [h]))
  have key : ∀ v, look ((i, v) :: initE (i + 1) r) t = if i = t then v else look (initE (i + 1) r) t := fun v => look_cons i v _ t
  have hs : ¬ t < i -> ¬ i = t -> (a :: r)[t - i]? = r[t - (i + 1)]? /\ ¬ t < i + 1 := by
   intro h1 h2
   refine ⟨?_, by omega⟩
   rw [show t - i = (t - (i + 1)) + 1 by omega]; simp
  have hz : i = t -> ¬ t < i /\ (a :: r)[t - i]? = some a := by rintro rfl; simp
  rcases arg_cases a with ⟨k, xs, rfl⟩ | ⟨k, x, rfl⟩ | ⟨q1, q2⟩
  ·rw [initE, key]
   by_cases h2 : i = t
   ·rw [if_pos h2, if_neg (hz h2).1, (hz h2).2]; subst h2; rfl
   ·rw [if_neg h2, ih]
    by_cases h1 : t < i
    ·rw [if_pos h1, if_pos (by omega)]
    ·rw [if_neg h1, if_neg (hs h1 h2).2, (hs h1 h2).1]
  ·rw [initE, key]
   by_cases h2 : i = t
   ·rw [if_pos h2, if_neg (hz h2).1, (hz h2).2]; subst h2; rfl
   ·rw [if_neg h2, ih]
    by_cases h1 : t < i
    ·rw [if_pos h1, if_pos (by omega)]
    ·rw [if_neg h1, if_neg (hs h1 h2).2, (hs h1 h2).1]
  ·rw [initE_io i a r q1 q2 (hco a (by simp)), key]
   by_cases h2 : i = t
   ·rw [if_pos h2, if_neg (hz h2).1, (hz h2).2]
    split
    ·rename_i e; cases e; exact (q1 _ _ rfl).elim
    ·rename_i e; cases e; exact (q2 _ _ rfl).elim
    ·rename_i e; cases e; rfl
    ·rename_i e; cases e
   ·rw [if_neg h2, ih]
    by_cases h1 : t < i
    ·rw [if_pos h1, if_pos (by omega)]
    ·rw [if_neg h1, if_neg (hs h1 h2).2, (hs h1 h2).1]
theorem hget_init : ∀ (args : List AV) (i t : Nat) (o : Obj), (∀ a ∈ args, isCo a = false) -> hget (initH i args) t = some o -> i <= t /\ ((∃ k xs, args[t - i]? = some (.val false [.mv k xs]) /\ o = .row k xs 0 [] false) \/ ∃ k x, args[t - i]? = some (.val false [.io k x]) /\ o = .box (leaves k x))
 | [], i, t, o, _, h => by simp [initH, hget] at h
 | a :: r, i, t, o, hco, h => by
  have key : ∀ v, hget ((i, v) :: initH (i + 1) r) t = if i = t then some v else hget (initH (i + 1) r) t := by
   intro v
   simp only [hget]
   by_cases e : i = t
   ·subst e; simp
   ·have : Nat.beq i t = false := by
     cases hb : Nat.beq i t with
     | true => exact (e (Nat.eq_of_beq_eq_true hb)).elim
     | false => rfl
    rw [this, if_neg e]; rfl
  have rcd : hget (initH (i + 1) r) t = some o -> i <= t /\ ((∃ k xs, (a :: r)[t - i]? = some (.val false [.mv k xs]) /\ o = .row k xs 0 [] false) \/ ∃ k x, (a :: r)[t - i]? = some (.val false [.io k x]) /\ o = .box (leaves k x)) := by
   intro h
   obtain ⟨h1, h2⟩ := hget_init r (i + 1) t o (fun a h => hco a (by simp [h])) h
   have : (a :: r)[t - i]? = r[t - (i + 1)]? := by rw [show t - i = (t - (i + 1)) + 1 by omega]; simp
   rw [this]
   exact ⟨by omega, h2⟩
  rcases arg_cases a with ⟨k, xs, rfl⟩ | ⟨k, x, rfl⟩ | ⟨q1, q2⟩
  ·rw [initH, key] at h
   split at h
   ·rename_i e; subst e; cases h; exact ⟨Nat.le_refl _, .inl ⟨k, xs, by simp, rfl⟩⟩
   ·exact rcd h
  ·rw [initH, key] at h
   split at h
   ·rename_i e; subst e; cases h; exact ⟨Nat.le_refl _, .inr ⟨k, x, by simp, rfl⟩⟩
   ·exact rcd h
  ·rw [initH_io i a r q1 q2 (hco a (by simp))] at h; exact rcd h
theorem hget_init_of : ∀ (args : List AV) (i t : Nat) (a : AV), (∀ a ∈ args, isCo a = false) -> i <= t -> args[t - i]? = some a -> (∀ k xs, a = .val false [.mv k xs] -> hget (initH i args) t = some (.row k xs 0 [] false)) /\ (∀ k x, a = .val false [.io k x] -> hget (initH i args) t = some (.box (leaves k x)))
 | [], _, _, _, _, _, h => by simp at h
 | a0 :: r, i, t, a, hco, hi, h => by
  have key : ∀ v, hget ((i, v) :: initH (i + 1) r) t = if i = t then some v else hget (initH (i + 1) r) t := by
   intro v
   simp only [hget]
   by_cases e : i = t
   ·subst e; simp
   ·have : Nat.beq i t = false := by
     cases hb : Nat.beq i t with
     | true => exact (e (Nat.eq_of_beq_eq_true hb)).elim
     | false => rfl
    rw [this, if_neg e]; rfl
  by_cases e : i = t
  ·subst e
   simp at h; subst h
   refine ⟨?_, ?_⟩
   ·rintro k xs rfl; rw [initH, key, if_pos rfl]
   ·rintro k x rfl; rw [initH, key, if_pos rfl]
  ·have h' : r[t - (i + 1)]? = some a := by rw [show t - i = (t - (i + 1)) + 1 by omega] at h; simpa using h
   have ih := hget_init_of r (i + 1) t a (fun a h => hco a (by simp [h])) (by omega) h'
   rcases arg_cases a0 with ⟨k, xs, rfl⟩ | ⟨k, x, rfl⟩ | ⟨q1, q2⟩
   ·rw [initH, key, if_neg e]; exact ih
   ·rw [initH, key, if_neg e]; exact ih
   ·rw [initH_io i a0 r q1 q2 (hco a0 (by simp))]; exact ih
theorem loOf_lt : ∀ (l : List Nat) (i : Nat), i ∈ l -> i <= 1048575 -> i < loOf l
 | [], _, h, _ => by simp at h
 | a :: r, i, h, hi => by
  simp only [loOf]
  rcases List.mem_cons.1 h with rfl | h
  ·rw [Nat.ble_eq_true_of_le hi, Bool.and_true]
   cases hb : Nat.ble (loOf r) i with
   | true => simp
   | false =>
    simp only [cond_false]
    rcases Nat.lt_or_ge i (loOf r) with q | q
    ·exact q
    ·rw [Nat.ble_eq_true_of_le q] at hb; cases hb
  ·have := loOf_lt r i h hi
   cases hb : Nat.ble (loOf r) a && Nat.ble a 1048575 with
   | true =>
    simp only [Bool.and_eq_true] at hb
    have := Nat.le_of_ble_eq_true hb.1
    simp only [cond_true]; omega
   | false => exact this
theorem resIo_of {te : TE} {w' : World} {S' : Nat -> Prop} : ∀ (args : List AV) (bs : List (Option Nat)) (i : Nat) (l : List (Bool × List S)), (∀ a ∈ args, isCo a = false) -> args.length = bs.length -> l.length = (ioIds i args).length ->
  (∀ (m j : Nat) p, (ioIds i args)[m]? = some j -> l[m]? = some p -> ∃ k b, (ioKs args)[m]? = some k /\ bs[j - i]? = some (some b) /\ BoxArg te w' S' b p.2 /\ ¬ S' b /\ p.2.length = k.size) -> ResIo te w' S' args bs l
 | [], [], _, [], _, _, _, _ => rfl
 | [], [], _, _ :: _, _, _, h, _ => by simp [ioIds] at h
 | [], _ :: _, _, _, _, h, _, _ => by simp at h
 | _ :: _, [], _, _, _, h, _, _ => by simp at h
 | a :: r, ob :: bs, i, l, hco, h1, h2, h => by
  have hge : ∀ (args : List AV) (i m j : Nat), (∀ a ∈ args, isCo a = false) -> (ioIds i args)[m]? = some j -> i <= j := by
   intro args
   induction args with
   | nil => intro i m j _ h; simp [ioIds] at h
   | cons a r ih =>
    intro i m j hco h
    by_cases hq : ∃ k x, a = .val false [.io k x]
    ·obtain ⟨k, x, rfl⟩ := hq
     rw [ioIds] at h
     cases m with
     | zero => simp at h; omega
     | succ m => have := ih (i + 1) m j (fun a h => hco a (by simp [h])) (by simpa using h); omega
    ·rw [ioIds_io i a r (fun k x e => hq ⟨k, x, e⟩) (hco a (by simp))] at h
     have := ih (i + 1) m j (fun a h => hco a (by simp [h])) h; omega
  by_cases hq : ∃ k x, a = .val false [.io k x]
  ·obtain ⟨k, x, rfl⟩ := hq
   rw [ioIds] at h2 h
   cases l with
   | nil => simp at h2
   | cons p l =>
    obtain ⟨k', b, q0, q1, q2, q3, q4⟩ := h 0 i p rfl rfl
    simp [ioKs] at q0
    subst q0
    simp at q1
    refine ⟨⟨b, q1, q2, q3, q4⟩, resIo_of r bs (i + 1) l (fun a h => hco a (by simp [h])) (by simpa using h1) (by simpa using h2) fun m j p e1 e2 => ?_⟩
    obtain ⟨k', b', z0, z1, z2⟩ := h (m + 1) j p (by simpa using e1) (by simpa using e2)
    have := hge r (i + 1) m j (fun a h => hco a (by simp [h])) e1
    refine ⟨k', b', by simpa [ioKs] using z0, ?_, z2⟩
    rw [show j - i = (j - (i + 1)) + 1 by omega] at z1
    simpa using z1
  ·have hn := fun k x e => hq ⟨k, x, e⟩
   rw [ioIds_io i a r hn (hco a (by simp))] at h2 h
   have := resIo_of (te := te) (w' := w') (S' := S') r bs (i + 1) l (fun a h => hco a (by simp [h])) (by simpa using h1) h2 fun m j p e1 e2 => by
    obtain ⟨k', b', z0, z1, z2⟩ := h m j p e1 e2
    have := hge r (i + 1) m j (fun a h => hco a (by simp [h])) e1
    refine ⟨k', b', by rw [ioKs_io a r hn (hco a (by simp))] at z0; exact z0, ?_, z2⟩
    rw [show j - i = (j - (i + 1)) + 1 by omega] at z1
    simpa using z1
   rw [ResIo]
   ·exact this
   ·intro k x _ _ _ e; exact hn k x e
   ·intro k x _ e; exact hn k x e
theorem ioIds_get : ∀ (args : List AV) (i m j : Nat), (∀ a ∈ args, isCo a = false) -> (ioIds i args)[m]? = some j -> i <= j /\ ∃ (k : K) (x : k.T), args[j - i]? = some (.val false [.io k x]) /\ (ioKs args)[m]? = some k
 | [], _, _, _, _, h => by simp [ioIds] at h
 | a :: r, i, m, j, hco, h => by
  have sh : ∀ (m : Nat), (ioIds (i + 1) r)[m]? = some j -> i <= j /\ ∃ (k : K) (x : k.T), (a :: r)[j - i]? = some (.val false [.io k x]) /\ (ioKs r)[m]? = some k := by
   intro m h
   obtain ⟨h1, k, x, h2, h3⟩ := ioIds_get r (i + 1) m j (fun a h => hco a (by simp [h])) h
   refine ⟨by omega, k, x, ?_, h3⟩
   rw [show j - i = (j - (i + 1)) + 1 by omega]; simpa using h2
  by_cases hq : ∃ k x, a = .val false [.io k x]
  ·obtain ⟨k, x, rfl⟩ := hq
   rw [ioIds] at h
   cases m with
   | zero => simp at h; subst h; exact ⟨Nat.le_refl _, k, x, by simp, by simp [ioKs]⟩
   | succ m => simpa [ioKs] using sh m (by simpa using h)
  ·have hn := fun k x e => hq ⟨k, x, e⟩
   rw [ioIds_io i a r hn (hco a (by simp))] at h
   rw [ioKs_io a r hn (hco a (by simp))]
   exact sh m h
theorem initE_cos : ∀ (cos : List CoD) (i : Nat), initE i (cos.map coAV) = []
 | [], _ => rfl
 | d :: r, i => by rw [List.map_cons, coAV, initE]; exact initE_cos r (i + 1)
theorem initE_app : ∀ (args : List AV) (cos : List CoD) (i : Nat), (∀ a ∈ args, isCo a = false) -> initE i (args ++ cos.map coAV) = initE i args
 | [], cos, i, _ => initE_cos cos i
 | a :: r, cos, i, hco => by
  have ih := initE_app r cos (i + 1) (fun a h => hco a (by simp [h]))
  rcases arg_cases a with ⟨k, xs, rfl⟩ | ⟨k, x, rfl⟩ | ⟨q1, q2⟩
  ·rw [List.cons_append, initE, initE, ih]
  ·rw [List.cons_append, initE, initE, ih]
  ·rw [List.cons_append, initE_io i a _ q1 q2 (hco a (by simp)), initE_io i a _ q1 q2 (hco a (by simp)), ih]
theorem initH_cos : ∀ (cos : List CoD) (i t : Nat), hget (initH i (cos.map coAV)) t = coHp cos t
 | [], _, _ => rfl
 | d :: r, i, t => by
  rw [List.map_cons, coAV, initH]
  simp only [hget, coHp]
  by_cases e : d.cid = t
  ·subst e; rw [if_pos rfl]; simp
  ·rw [if_neg e]
   have : Nat.beq d.cid t = false := beq_ne e
   rw [this, cond_false]
   exact initH_cos r (i + 1) t
theorem hget_cons (i : Nat) (o : Obj) (l : List (Nat × Obj)) (t : Nat) : hget ((i, o) :: l) t = if i = t then some o else hget l t := by
 simp only [hget]
 by_cases e : i = t
 ·subst e; simp
 ·rw [beq_ne e, if_neg e]; rfl
theorem initH_app : ∀ (args : List AV) (cos : List CoD) (i t : Nat), (∀ a ∈ args, isCo a = false) -> hget (initH i (args ++ cos.map coAV)) t = (match hget (initH i args) t with | some o => some o | none => coHp cos t)
 | [], cos, i, t, _ => initH_cos cos i t
 | a :: r, cos, i, t, hco => by
  have ih := initH_app r cos (i + 1) t (fun a h => hco a (by simp [h]))
  rcases arg_cases a with ⟨k, xs, rfl⟩ | ⟨k, x, rfl⟩ | ⟨q1, q2⟩
  ·rw [List.cons_append, initH, initH, hget_cons, hget_cons, ih]
   split <;> rfl
  ·rw [List.cons_append, initH, initH, hget_cons, hget_cons, ih]
   split <;> rfl
  ·rw [List.cons_append, initH_io i a _ q1 q2 (hco a (by simp)), initH_io i a _ q1 q2 (hco a (by simp)), ih]
theorem ioIds_cos : ∀ (cos : List CoD) (i : Nat), ioIds i (cos.map coAV) = cos.map (·.cid)
 | [], _ => rfl
 | d :: r, i => by rw [List.map_cons, coAV, ioIds, ioIds_cos r (i + 1)]; rfl
theorem ioIds_app : ∀ (args : List AV) (cos : List CoD) (i : Nat), (∀ a ∈ args, isCo a = false) -> ioIds i (args ++ cos.map coAV) = ioIds i args ++ cos.map (·.cid)
 | [], cos, i, _ => ioIds_cos cos i
 | a :: r, cos, i, hco => by
  have ih := ioIds_app r cos (i + 1) (fun a h => hco a (by simp [h]))
  by_cases hq : ∃ k x, a = .val false [.io k x]
  ·obtain ⟨k, x, rfl⟩ := hq
   rw [List.cons_append, ioIds, ioIds, ih]; rfl
  ·have hn := fun k x e => hq ⟨k, x, e⟩
   rw [List.cons_append, ioIds_io i a _ hn (hco a (by simp)), ioIds_io i a _ hn (hco a (by simp)), ih]
theorem ioKs_cos : ∀ (cos : List CoD), ioKs (cos.map coAV) = cos.map (fun d => K.slice d.k)
 | [] => rfl
 | d :: r => by rw [List.map_cons, coAV, ioKs, ioKs_cos r]; rfl
theorem ioKs_app : ∀ (args : List AV) (cos : List CoD), (∀ a ∈ args, isCo a = false) -> ioKs (args ++ cos.map coAV) = ioKs args ++ cos.map (fun d => K.slice d.k)
 | [], cos, _ => ioKs_cos cos
 | a :: r, cos, hco => by
  have ih := ioKs_app r cos (fun a h => hco a (by simp [h]))
  by_cases hq : ∃ k x, a = .val false [.io k x]
  ·obtain ⟨k, x, rfl⟩ := hq
   rw [List.cons_append, ioKs, ioKs, ih]; rfl
  ·have hn := fun k x e => hq ⟨k, x, e⟩
   rw [List.cons_append, ioKs_io a _ hn (hco a (by simp)), ioKs_io a _ hn (hco a (by simp)), ih]
theorem ioIds_len : ∀ (args : List AV) (i : Nat), (∀ a ∈ args, isCo a = false) -> (ioIds i args).length = (ioKs args).length
 | [], _, _ => rfl
 | a :: r, i, hco => by
  have ih := ioIds_len r (i + 1) (fun a h => hco a (by simp [h]))
  by_cases hq : ∃ k x, a = .val false [.io k x]
  ·obtain ⟨k, x, rfl⟩ := hq
   rw [ioIds, ioKs, List.length_cons, List.length_cons, ih]
  ·have hn := fun k x e => hq ⟨k, x, e⟩
   rw [ioIds_io i a _ hn (hco a (by simp)), ioKs_io a _ hn (hco a (by simp)), ih]
end Go.Eng
namespace Go.Eng
open Go.RowKit
theorem LR3.length {α β γ : Type} {R : α -> β -> γ -> Prop} : ∀ {l : List α} {m : List β} {n : List γ}, LR3 R l m n -> l.length = m.length /\ l.length = n.length
 | [], [], [], _ => ⟨rfl, rfl⟩
 | _ :: _, _ :: _, _ :: _, h => by have := LR3.length h.2; exact ⟨congrArg (· + 1) this.1, congrArg (· + 1) this.2⟩
 | [], [], _ :: _, h => h.elim
 | [], _ :: _, _, h => by cases h
 | _ :: _, [], _, h => by cases h
 | _ :: _, _ :: _, [], h => h.elim
theorem LR3.get {α β γ : Type} {R : α -> β -> γ -> Prop} : ∀ {l : List α} {m : List β} {n : List γ}, LR3 R l m n -> ∀ (j : Nat) a, l[j]? = some a -> ∃ b c, m[j]? = some b /\ n[j]? = some c /\ R a b c
 | a :: _, b :: _, c :: _, h, j, x, hx => by
  cases j with
  | zero => simp at hx; subst hx; exact ⟨b, c, rfl, rfl, h.1⟩
  | succ j => simpa using LR3.get h.2 j x (by simpa using hx)
 | [], [], [], _, j, a, h => by simp at h
 | [], [], _ :: _, h, _, _, _ => h.elim
 | [], _ :: _, _, h, _, _, _ => by cases h
 | _ :: _, [], _, h, _, _, _ => by cases h
 | _ :: _, _ :: _, [], h, _, _, _ => h.elim
section
variable {P : Program} {A : Ann} {Gl : Nat -> Option Go.Obj} {C : CallF}
def ctx0 (te : TE) (w : World) (Sb : Nat -> Prop) (args : List AV) (bs : List (Option Nat)) (cos : List CoD) : Cx := ⟨te, w, Sb, fun j => (bs[j]?).join, hget (initH 0 (args ++ cos.map coAV))⟩
theorem plainN_eq : ∀ (args : List AV) (cos : List CoD), (∀ a ∈ args, isCo a = false) -> plainN (args ++ cos.map coAV) = args.length
 | [], cos, _ => by
  induction cos with
  | nil => rfl
  | cons d r ih => exact ih
 | a :: r, cos, hco => by
  have ih := plainN_eq r cos (fun a h => hco a (by simp [h]))
  have h3' : ∀ cid t off m k xs, a = .val false [.co cid t off m k xs] -> False := by
   rintro _ _ _ _ _ _ rfl; have := hco _ (List.mem_cons_self ..); cases this
  rw [List.cons_append, plainN, ih]
  ·rfl
  ·exact h3'
theorem ManR.ren {c c' : Cx} (hM : ManR A c) (hte : c'.te = c.te) (hw : c'.w = c.w) (hS : ∀ b, c.S b -> c'.S b) (hl : ∀ l b, OwnX c l b -> ¬ c'.S b /\ ∀ id, ¬ Live c' id b) (hc : ColRen c c') : ManR A c' := by
 have held : ∀ t, HeldC c' t -> HeldC c t := by
  rintro t ⟨cid, off, m, k, xs, g, p, q⟩; obtain ⟨g', q⟩ := hc.bwd _ _ _ _ _ _ _ _ q; exact ⟨_, _, _, _, _, _, _, q⟩
 have own : ∀ l b, OwnX c' l b -> OwnX c l b := by
  intro l b h
  cases l with
  | man t i => exact ⟨held t h.1, by rw [<- hte]; exact h.2⟩
  | own cid i =>
   obtain ⟨⟨t, off, m, k, xs, g, p, q1, q2⟩, q3⟩ := h
   obtain ⟨g', q⟩ := hc.bwd _ _ _ _ _ _ _ _ q1
   exact ⟨⟨t, off, m, k, xs, g', p, q, q2⟩, by rw [<- hte]; exact q3⟩
 refine ⟨hM.lay, fun cid t off m k xs g p h => ?_, fun cid t off m k xs g p h i => ?_, fun t i b hh hi => ?_, fun cid t off k xs g p h i x b arr hx hi hb => ?_, fun cid t off e xs g p h i x hx => ?_, fun cid t off e xs g p h i es hx => ?_, fun l b hb => ?_, fun l l' b hb hb' => hM.one l l' b (own l b hb) (own l' b hb')⟩
 ·obtain ⟨g', q⟩ := hc.bwd _ _ _ _ _ _ _ _ h; exact hM.ci _ _ _ _ _ _ _ _ q
 ·obtain ⟨g', q⟩ := hc.bwd _ _ _ _ _ _ _ _ h; rw [hte]; exact hM.dom _ _ _ _ _ _ _ _ q i
 ·rw [hw]; exact hM.box t i b (held t hh) (by rw [<- hte]; exact hi)
 ·obtain ⟨g', q⟩ := hc.bwd _ _ _ _ _ _ _ _ h
  rw [hte, hw]
  obtain ⟨vs, r1, r2⟩ := hM.dat _ _ _ _ _ _ _ q i x b arr hx (by rw [<- hte]; exact hi) (by rw [<- hw]; exact hb)
  exact ⟨vs, RepT.mono (fun _ _ => rfl) hS r1, r2⟩
 ·obtain ⟨g', q⟩ := hc.bwd _ _ _ _ _ _ _ _ h
  rw [hte, hw]
  obtain ⟨r1, r2⟩ := hM.own _ _ _ e xs _ _ q i x hx
  exact ⟨r1.move (TLe.refl _) (fun _ _ => rfl) hS (fun _ _ => rfl), r2⟩
 ·obtain ⟨g', q⟩ := hc.bwd _ _ _ _ _ _ _ _ h
  rw [hte, hw]
  exact hM.mpp _ _ _ e xs _ _ q i es hx
 ·obtain ⟨q1, q2, q3⟩ := hM.sep l b (own l b hb)
  rw [hw]
  exact ⟨q1, hl l b (own l b hb)⟩
theorem ManF.ren {te0 : TE} {w0 : World} {M : MS} {c c' : Cx} (hM : ManF A te0 w0 M c) (hte : c'.te = c.te) (hw : c'.w = c.w) (hc : ColRen c c') : ManF A te0 w0 M c' := by
 have held : ∀ t, HeldC c' t -> HeldC c t := by
  rintro t ⟨cid, off, m, k, xs, g, p, q⟩; obtain ⟨g', q⟩ := hc.bwd _ _ _ _ _ _ _ _ q; exact ⟨_, _, _, _, _, _, _, q⟩
 have own : ∀ l b, OwnX c' l b -> OwnX c l b := by
  intro l b h
  cases l with
  | man t i => exact ⟨held t h.1, by rw [<- hte]; exact h.2⟩
  | own cid i =>
   obtain ⟨⟨t, off, m, k, xs, g, p, q1, q2⟩, q3⟩ := h
   obtain ⟨g', q⟩ := hc.bwd _ _ _ _ _ _ _ _ q1
   exact ⟨⟨t, off, m, k, xs, g', p, q, q2⟩, by rw [<- hte]; exact q3⟩
 refine ⟨fun l b h => hM.wr l b (own l b h), fun t i b arr hh hi hlt hb => ?_, by rw [hte]; exact hM.tle, fun t ht => ?_, fun cid hn => ?_, fun t i b hi => hM.newb t i b (by rw [<- hte]; exact hi)⟩
 ·obtain ⟨arr0, r1, r2, r3⟩ := hM.frc t i b arr (held t hh) (by rw [<- hte]; exact hi) hlt (by rw [<- hw]; exact hb)
  refine ⟨arr0, r1, r2, fun o ho => r3 o fun cid off m k xs g p q => ?_⟩
  obtain ⟨g', q⟩ := hc.fwd _ _ _ _ _ _ _ _ q
  exact ho _ _ _ _ _ _ _ q
 ·rw [hte]
  refine hM.same t fun hf => ht ⟨hf.1, fun d hd => ?_⟩
  obtain ⟨off, m, k, xs, g, p, q⟩ := hf.2 d hd
  obtain ⟨g', q⟩ := hc.fwd _ _ _ _ _ _ _ _ q
  exact ⟨_, _, _, _, _, _, q⟩
 ·rw [hte]
  refine hM.samo cid fun t off m k xs g p q => ?_
  obtain ⟨g', q⟩ := hc.fwd _ _ _ _ _ _ _ _ q
  exact hn _ _ _ _ _ _ _ q
theorem ManIn.big {te : TE} {w : World} {Sb : Nat -> Prop} {bs : List (Option Nat)} {cos : List CoD} (h : ManIn A te w Sb bs cos) {t : Nat} {o : Obj} (ho : coHp cos t = some o) : 1048576 <= t := by
 obtain ⟨d, hd, rfl, rfl⟩ := coHp_mem ho
 have := (h.r.ci _ _ _ _ _ _ _ _ ho).1
 rw [this]; unfold cidOf; omega
theorem ManIn.cid {te : TE} {w : World} {Sb : Nat -> Prop} {bs : List (Option Nat)} {cos : List CoD} (h : ManIn A te w Sb bs cos) {d : CoD} (hd : d ∈ cos) : 1048576 <= d.cid := h.big (coHp_get h.nod hd)
theorem argRel_plain {te : TE} {w : World} {Sb : Nat -> Prop} {a : AV} {v : Value} {b : Option Nat} (h1 : ∀ k xs, a = .val false [.mv k xs] -> False) (h2 : ∀ k x, a = .val false [.io k x] -> False) (h : ArgRel te w Sb a v b) : b = none /\ RepV (clC te w Sb) a v := by
 unfold ArgRel at h
 split at h
 ·exact (h1 _ _ rfl).elim
 ·exact (h2 _ _ rfl).elim
 ·exact h
theorem entry_ok {te : TE} {w : World} {Sb : Nat -> Prop} {args : List AV} {cos : List CoD} {vs : Array Value} {bs : List (Option Nat)} {n : Nat} (hte : te.te = A.te) (hco : ∀ a ∈ args, isCo a = false) (hIn : ManIn A te w Sb bs cos) (hn2 : args.length <= 1048575) (hG : Glob Gl Sb w) (hbel : ∀ b, Sb b -> b < w.heap.size) (hA : LR3 (ArgRel te w Sb) args vs.toList bs)
  (hbs : ∀ (j b : Nat), bs[j]? = some (some b) -> b < w.heap.size /\ ¬ Sb b) (hinj : ∀ (j j' b : Nat), bs[j]? = some (some b) -> bs[j']? = some (some b) -> j = j') (hn : args.length <= n) :
  Ok A te Gl w ⟨fun b => some b ∈ bs, Sb, XOf te w Sb cos⟩ n (loOf (ioIds 0 (args ++ cos.map coAV))) (vs ++ Array.replicate (n - vs.size) undef) ⟨initE 0 (args ++ cos.map coAV), initH 0 (args ++ cos.map coAV)⟩ { tmps := vs ++ Array.replicate (n - vs.size) undef, defers := [] } w := by
 obtain ⟨l1, l2⟩ := hA.length
 have hj : ∀ (t : Nat) (a : AV), args[t]? = some a -> ∃ v b, vs.toList[t]? = some v /\ bs[t]? = some b /\ ArgRel te w Sb a v b := fun t a h => hA.get t a h
 have hβ : ∀ (t b : Nat), (ctx0 te w Sb args bs cos).β t = some b -> bs[t]? = some (some b) := by
  intro t b h
  simp only [ctx0] at h
  cases hq : bs[t]? with
  | none => rw [hq] at h; cases h
  | some o => rw [hq] at h; simp at h; rw [h]
 have hβ' : ∀ (t : Nat) (o : Option Nat), bs[t]? = some o -> (ctx0 te w Sb args bs cos).β t = o := by
  intro t o h; simp only [ctx0, h]; rfl
 have hcl : ∀ {s : S} {v : Value}, RepS (clC te w Sb) s v -> RepS (ctx0 te w Sb args bs cos) s v := fun h => closed_rep (TLe.refl _) (fun _ _ => rfl) (fun _ h => h) h
 have hpe : ∀ t, (ctx0 te w Sb args bs cos).hp t = (match hget (initH 0 args) t with | some o => some o | none => coHp cos t) := fun t => initH_app args cos 0 t hco
 have hcol : ∀ cid t off m k (xs : List (K.T k)) g p, (ctx0 te w Sb args bs cos).hp cid = some (.col t off m k xs g p) ↔ coHp cos cid = some (.col t off m k xs g p) := by
  intro cid t off m k xs g p
  rw [hpe]
  cases hq : hget (initH 0 args) cid with
  | none => rfl
  | some o =>
   obtain ⟨_, h⟩ := hget_init args 0 cid o hco hq
   rw [Nat.sub_zero] at h
   have hlt : cid < args.length := by rcases h with ⟨_, _, e, _⟩ | ⟨_, _, e, _⟩ <;> exact (List.getElem?_eq_some_iff.1 e).1
   constructor
   ·intro e; cases e; rcases h with ⟨_, _, _, e⟩ | ⟨_, _, _, e⟩ <;> cases e
   ·intro e; have := hIn.big e; omega
 have hman : Man A te w ⟨fun b => some b ∈ bs, Sb, XOf te w Sb cos⟩ (ctx0 te w Sb args bs cos) := by
  have hren : ColRen (coC te w Sb cos) (ctx0 te w Sb args bs cos) := ⟨fun cid t off m k xs g p q => ⟨g, (hcol ..).2 q⟩, fun cid t off m k xs g p q => ⟨g, (hcol ..).1 q⟩⟩
  have own : ∀ l b, OwnX (ctx0 te w Sb args bs cos) l b -> OwnX (coC te w Sb cos) l b := by
   intro l b h
   cases l with
   | man t i =>
    obtain ⟨⟨cid, off, m, k, xs, g, p, q⟩, q'⟩ := h
    exact ⟨⟨cid, off, m, k, xs, g, p, (hcol ..).1 q⟩, q'⟩
   | own cid i =>
    obtain ⟨⟨t, off, m, k, xs, g, p, q1, q2⟩, q3⟩ := h
    exact ⟨⟨t, off, m, k, xs, g, p, (hcol ..).1 q1, q2⟩, q3⟩
  refine ⟨hIn.r.ren rfl rfl (fun _ h => h) (fun l b hl => ⟨(hIn.r.sep l b hl).2.1, fun id hid => hIn.sep l b hl (List.mem_of_getElem? (hβ id b hid.1))⟩) hren, fun l b hl => .inr (.inr ⟨l, own l b hl⟩), fun t i b arr _ _ _ hb => ⟨arr, hb, rfl, fun _ _ => rfl⟩, TLe.refl _, fun _ _ => rfl, fun _ _ => ⟨rfl, rfl⟩, fun _ _ _ h => .inl h⟩
 refine ⟨ctx0 te w Sb args bs cos, rfl, hte, rfl, ⟨⟨rfl, rfl, rfl, Nat.le_refl _, fun _ _ _ => rfl⟩, hbel, fun id o ho => ?_, fun id b hl => ?_, fun id id' b hl hl' => ?_, fun b hb => .inl hb, fun b hb => hb⟩, ⟨?_, rfl, fun t => ?_⟩, hG, fun j hj => rfl, hman⟩
 ·rw [hpe] at ho
  split at ho
  rotate_left
  ·obtain ⟨d, _, _, rfl⟩ := coHp_mem ho; trivial
  rename_i o' ho'
  cases ho
  obtain ⟨_, h⟩ := hget_init args 0 id o hco ho'
  simp only [Nat.sub_zero] at h
  rcases h with ⟨k, xs, e, rfl⟩ | ⟨k, x, e, rfl⟩
  ·obtain ⟨v, b, e1, e2, e3⟩ := hj id _ e
   simp only [ArgRel, RowArg] at e3
   simp only [RepO, hβ' id b e2]
   cases b with
   | none => exact e3.2
   | some b =>
    obtain ⟨cap, arr, a, q1, q2, q3, q4, q5, q6⟩ := e3
    exact ⟨⟨arr, q4.blk, q5, fun i x hx => q6 i x hx⟩, fun _ => ⟨arr, q4⟩, fun h => by cases h⟩
  ·obtain ⟨v, b, e1, e2, e3⟩ := hj id _ e
   obtain ⟨b', rfl, e4, arr, e5, e6⟩ := e3
   intro _
   exact ⟨b', arr, hβ' id _ e2, e5, e6.mono fun _ _ _ => hcl⟩
 ·have := hβ id b hl.1
  obtain ⟨h1, h2⟩ := hbs id b this
  exact ⟨h1, h2, .inr (List.mem_of_getElem? this)⟩
 ·exact hinj id id' b (hβ id b hl.1) (hβ id' b hl'.1)
 ·have hvl : vs.size = args.length := by rw [<- Array.length_toList]; exact l1.symm
  simp only [Array.size_append, Array.size_replicate]; omega
 ·have hvl : vs.size = args.length := by rw [<- Array.length_toList]; exact l1.symm
  show RepV _ (look (initE 0 (args ++ cos.map coAV)) t) _
  rw [initE_app args cos 0 hco, look_init args 0 t hco]
  rw [if_neg (Nat.not_lt_zero t), Nat.sub_zero]
  cases hq : args[t]? with
  | none => trivial
  | some a =>
   obtain ⟨v, b, e1, e2, e3⟩ := hj t a hq
   have hlt : t < vs.size := by have := (List.getElem?_eq_some_iff.1 hq).1; omega
   have hv : (vs ++ Array.replicate (n - vs.size) undef).getD t undef = v := by
    rw [Array.getD_eq_getD_getElem?, Array.getElem?_append_left hlt, <- Array.getElem?_toList, e1]; rfl
   show RepV _ _ ((vs ++ Array.replicate (n - vs.size) undef).getD t undef)
   rw [hv]
   rcases arg_cases a with ⟨k, xs, rfl⟩ | ⟨k, x, rfl⟩ | ⟨q1, q2⟩
   ·simp only [ArgRel, RowArg] at e3
    have hp : (ctx0 te w Sb args bs cos).hp t = some (.row k xs 0 [] false) := by rw [hpe, (hget_init_of args 0 t _ hco (Nat.zero_le _) (by simpa using hq)).1 k xs rfl]
    refine repV_one ⟨?_, _, hp, fun k' xs' gen hist frz e => ?_⟩
    ·cases b with
     | none => rw [e3.1]; rfl
     | some b => obtain ⟨cap, arr, a, q1, _⟩ := e3; rw [q1]; rfl
    ·cases e
     refine ⟨Nat.le_refl _, fun _ => ?_, fun h => (h rfl).elim⟩
     unfold VwNow
     rw [hβ' t b e2]
     cases b with
     | none => obtain ⟨rfl, rfl⟩ := e3; exact ⟨rfl, rfl, rfl, rfl⟩
     | some b =>
      obtain ⟨cap, arr, a, q1, q2, q3, q4, q5, q6⟩ := e3
      exact ⟨cap, arr, a, q1, q2, q4.blk, by omega, fun hc => ⟨by simpa using (q3 hc).1, by simpa using (q3 hc).2⟩⟩
   ·obtain ⟨b', rfl, rfl, arr, e5, e6⟩ := e3
    have hp : (ctx0 te w Sb args bs cos).hp t = some (.box (leaves k x)) := by rw [hpe, (hget_init_of args 0 t _ hco (Nat.zero_le _) (by simpa using hq)).2 k x rfl]
    refine repV_one ⟨rfl, _, hp, ?_, ?_, ?_⟩
    ·intro s hs; cases hs
    ·intro cs e hne; exact ⟨b', hβ' t _ e2, rfl, rfl, rfl⟩
    ·intro k' xs' gen hist frz e; cases e
   ·obtain ⟨_, hr⟩ := argRel_plain q1 q2 e3
    split
    ·rename_i e; cases e; exact (q1 _ _ rfl).elim
    ·rename_i e; cases e; exact (q2 _ _ rfl).elim
    ·rename_i e; cases e; exact closed_repV (TLe.refl _) (fun _ _ => rfl) (fun _ h => h) hr
    ·rename_i e; cases e
theorem results_run {te0 : TE} {w0 : World} {M : MS} {n lo : Nat} {a0 : Array Value} {σ : St} {a : Act} {c : Cx} {fn : Func} {vs : List (Bool × List S)} (h : OkAt A te0 Gl w0 M n lo a0 σ.env (hget σ.heap) a c) (hv : allSome (fn.results.toList.map (resV P σ)) = some vs) :
  ∃ arr : Array Value, (results fn a.tmps).run P c.w = .ok (tupA arr) c.w /\ LR (fun (p : Bool × List S) u => RepV c (.val p.1 p.2) u) vs arr.toList := by
 obtain ⟨hlen, hget⟩ := allSome_spec _ _ _ hv
 have one : ∀ r, ∃ u, ∀ p, resV P σ r = some p -> ((match r with | .tmp t => pure (a.tmps.getD t undef) | .cell x t => do Go.loadVar t (<- asAddr (a.tmps.getD x undef)) : Sem Value)).run P c.w = .ok u c.w /\ RepV c (.val p.1 p.2) u := by
  intro r
  cases hq : resV P σ r with
  | none => exact ⟨undef, fun p hp => by cases hp⟩
  | some p =>
   cases r with
   | tmp t =>
    refine ⟨a.tmps.getD t undef, fun p' hp => ?_⟩
    cases hp
    refine ⟨rfl, ?_⟩
    simp only [resV] at hq
    split at hq
    ·rename_i g cs hl
     cases hq
     have := h.regs.rep t
     rw [hl] at this; exact this
    ·cases hq
   | cell x t =>
    simp only [resV] at hq
    split at hq
    ·rename_i s hs
     split at hq
     ·rename_i cs hc
      split at hq
      ·rename_i g l hl
       cases hq
       have hr := h.regs.rep x
       rw [hs] at hr
       obtain ⟨b, off, us, e, q1, q2⟩ := loadAt_rep h.mem h.man.r (fun id o ho => by rw [h.hp]; exact ho) (repV_inv hr) hc
       obtain ⟨v', r1, r2⟩ := run_loadVar (P := P) hl q1 q2
       refine ⟨v', fun p hp => ?_⟩
       cases hp
       refine ⟨?_, r2⟩
       simp only
       rw [e, run_ok (show (asAddr (.pointer (some ⟨b, off, none⟩))).run P c.w = .ok ⟨b, off, none⟩ c.w from rfl)]
       exact r1
      ·cases hq
     ·cases hq
    ·cases hq
 obtain ⟨g, hg⟩ := Classical.axiomOfChoice one
 refine ⟨fn.results.map g, ?_, ?_⟩
 ·unfold results
  rw [run_ok (run_mapM (g := g) fn.results fun r hr => ?_)]
  ·rfl
  ·obtain ⟨j, hj⟩ := List.mem_iff_getElem?.1 hr
   obtain ⟨y, _, e⟩ := hget j r hj
   exact (hg r y e).1
 ·rw [Array.toList_map]
  refine LR.of_get (by simp [hlen]) fun j p u h1 h2 => ?_
  rw [List.getElem?_map] at h2
  cases hr : fn.results.toList[j]? with
  | none => rw [hr] at h2; cases h2
  | some r =>
   rw [hr] at h2
   simp at h2; subst h2
   obtain ⟨y, e1, e2⟩ := hget j r hr
   rw [h1] at e1; cases e1
   exact (hg r _ e2).2
theorem finish_ok {te : TE} {w : World} {Sb : Nat -> Prop} {args : List AV} {cos : List CoD} {vs : Array Value} {bs : List (Option Nat)} {n : Nat} {a0 : Array Value} {sg : Sig} {rr : sg.R} {fn : Func} {σ : St} {a : Act} {w' : World}
  (hA : LR3 (ArgRel te w Sb) args vs.toList bs) (ha0 : ∀ j, j < args.length -> a0.getD j undef = vs.getD j undef)
  (hco : ∀ a ∈ args, isCo a = false) (hIn : ManIn A te w Sb bs cos) (hn2 : args.length <= 1048575)
  (hsg : sg.io = ioKs (args ++ cos.map coAV)) (hok : Ok A te Gl w ⟨fun b => some b ∈ bs, Sb, XOf te w Sb cos⟩ n (loOf (ioIds 0 (args ++ cos.map coAV))) a0 σ a w') (h : finish P sg fn (ioIds 0 (args ++ cos.map coAV)) σ = some rr) :
  a.defers = [] /\ ∃ v, (results fn a.tmps).run P w' = .ok v w' /\ ∃ te' S' cos', Res te' (XOf te w Sb cos) (XOf te' w' S' cos') w w' Sb S' args bs sg rr v /\ ManOut A te te' w w' Sb S' args bs cos cos' /\
    LR (fun (p : Bool × List S) (d : CoD) => p.2 = [.sl d.k d.xs]) ((lvs sg.ks rr).drop (sg.res.length + (ioKs args).length)) cos' := by
 rw [ioIds_app args cos 0 hco] at h
 rw [ioKs_app args cos hco] at hsg
 obtain ⟨c, rfl, hc⟩ := hok
 obtain ⟨l1, l2⟩ := hA.length
 refine ⟨hc.regs.defers, ?_⟩
 unfold finish at h
 split at h
 ·rename_i us ws hus hws
  cases hcnd : (colsIn (ioIds 0 args ++ cos.map (·.cid)) σ.heap && Nat.beq us.length sg.res.length && Nat.beq ws.length sg.io.length && ownV σ.heap (idsOf ((us ++ ws).map (·.2)).flatten) sg.res us) with
  | false => rw [hcnd] at h; cases h
  | true =>
   rw [hcnd] at h
   replace h : reiTs (hget σ.heap) sg.ks ((us ++ ws).map (·.2)) = some rr := h
   simp only [Bool.and_eq_true] at hcnd
   obtain ⟨⟨⟨hcin, hu1⟩, hu2⟩, hown⟩ := hcnd
   have hu1 := Nat.eq_of_beq_eq_true hu1
   have hu2 := Nat.eq_of_beq_eq_true hu2
   obtain ⟨arr, hrun, hlr⟩ := results_run hc hus
   obtain ⟨hwl, hwg⟩ := allSome_spec _ _ _ hws
   obtain ⟨hrl, hrg⟩ := reiTs_get sg.ks _ rr h
   have hh : ∀ id o, hget σ.heap id = some o -> c.hp id = some o := fun id o ho => by rw [hc.hp]; exact ho
   -- the names that are lent or told by value
   let N : List Nat := nonIds sg.res us ++ idsOf (ws.map (·.2)).flatten
   let S' : Nat -> Prop := fun b => c.S b \/ ∃ id ∈ N, c.β id = some b
   have hcell : ∀ (j : Nat) cs, ((us ++ ws).map (·.2))[j]? = some cs -> ∃ k y, sg.ks[j]? = some k /\ rei1 (hget σ.heap) k cs = some y /\ (lvs sg.ks rr)[j]? = some (k.isAgg, leaves k y) := by
    intro j cs hj
    have hlt := (List.getElem?_eq_some_iff.1 hj).1
    have hk : sg.ks[j]? = some sg.ks[j] := List.getElem?_eq_getElem (by omega)
    obtain ⟨y, h1, h2⟩ := hrg j _ cs hk hj
    exact ⟨_, y, hk, h1, h2⟩
   have hus' : ∀ (j : Nat) g cs, us[j]? = some (g, cs) -> ((us ++ ws).map (·.2))[j]? = some cs := by
    intro j g cs hj
    rw [List.getElem?_map, List.getElem?_append_left (List.getElem?_eq_some_iff.1 hj).1, hj]; rfl
   have hws' : ∀ (j : Nat) g cs, ws[j]? = some (g, cs) -> ((us ++ ws).map (·.2))[us.length + j]? = some cs := by
    intro j g cs hj
    rw [List.getElem?_map, List.getElem?_append_right (by omega), show us.length + j - us.length = j by omega, hj]; rfl
   have hNrow : ∀ id ∈ N, ∃ k xs gen hist frz, c.hp id = some (.row k xs gen hist frz) := by
    intro id hid
    rcases List.mem_append.1 hid with q | q
    ·obtain ⟨j, k, g, cs, _, h2, h3⟩ := nonIds_mem _ _ q
     obtain ⟨k', y, _, h4, _⟩ := hcell j cs (hus' j g cs h2)
     obtain ⟨k1, xs, gen, hist, frz, h5⟩ := rei1_row h4 id h3
     exact ⟨k1, xs, gen, hist, frz, hh id _ h5⟩
    ·have : ∀ (l : List (Bool × List S)), id ∈ idsOf (l.map (·.2)).flatten -> ∃ (j : Nat) (g : Bool) (cs : List S), l[j]? = some (g, cs) /\ id ∈ idsOf cs := by
      intro l
      induction l with
      | nil => intro h; simp [idsOf] at h
      | cons p r ih =>
       intro h
       rw [List.map_cons, List.flatten_cons, idsOf_append, List.mem_append] at h
       rcases h with h | h
       ·exact ⟨0, p.1, p.2, rfl, h⟩
       ·obtain ⟨j, g, cs, h1, h2⟩ := ih h
        exact ⟨j + 1, g, cs, by simpa using h1, h2⟩
     obtain ⟨j, g, cs, h2, h3⟩ := this ws q
     obtain ⟨k', y, _, h4, _⟩ := hcell _ cs (hws' j g cs h2)
     obtain ⟨k1, xs, gen, hist, frz, h5⟩ := rei1_row h4 id h3
     exact ⟨k1, xs, gen, hist, frz, hh id _ h5⟩
   -- a live block is in no such row, but its own
   have hnS : ∀ id b, Live c id b -> id ∉ N -> ¬ S' b := by
    rintro id b hl hid (q | ⟨id', hid', q⟩)
    ·exact (hc.mem.live id b hl).2.1 q
    ·obtain ⟨k, xs, gen, hist, frz, ho⟩ := hNrow id' hid'
     cases frz with
     | false =>
      have := hc.mem.one id id' b hl ⟨q, _, ho, rfl⟩
      subst this; exact hid hid'
     | true =>
      have := hc.mem.obj id' _ ho
      simp only [RepO, q] at this
      exact (hc.mem.live id b hl).2.1 (this.2.2 trivial)
   -- lent boxes are where they were
   have hbox : ∀ (m j : Nat), (ioIds 0 args)[m]? = some j -> ∃ g cs b k, ws[m]? = some (g, cs) /\ hget σ.heap j = some (.box cs) /\ cs ≠ [] /\ c.β j = some b /\ bs[j]? = some (some b) /\ (ioKs args)[m]? = some k := by
    intro m j hj
    obtain ⟨⟨g, cs⟩, e1, e2⟩ := hwg m j (by rw [List.getElem?_append_left (List.getElem?_eq_some_iff.1 hj).1]; exact hj)
    obtain ⟨_, k, x, e3, e4⟩ := ioIds_get args 0 m j hco hj
    rw [Nat.sub_zero] at e3
    have hjlt : j < args.length := (List.getElem?_eq_some_iff.1 e3).1
    obtain ⟨v, b, e5, e6, e7⟩ := hA.get j _ e3
    obtain ⟨b', rfl, e8, _⟩ := e7
    unfold ioV at e2
    rw [Nat.ble_eq_true_of_le (show j <= 1048575 by omega)] at e2
    simp only [cond_true] at e2
    split at e2
    ·rename_i j' cs' hl hb
     cases hq : (Nat.beq j' j && !cs'.isEmpty) with
     | false => rw [hq] at e2; cases e2
     | true =>
      rw [hq] at e2
      cases e2
      simp only [Bool.and_eq_true] at hq
      have := Nat.eq_of_beq_eq_true hq.1
      subst this
      have hne : cs ≠ [] := by rintro rfl; simp at hq
      have hr := hc.regs.rep j'
      rw [hl] at hr
      obtain ⟨_, o, t1, _, t2, _⟩ := repV_inv hr
      rw [hh _ _ hb] at t1; cases t1
      obtain ⟨b2, t3, t4, _⟩ := t2 cs rfl hne
      have hlo : j' < loOf (ioIds 0 (args ++ cos.map coAV)) := loOf_lt _ _ (by rw [ioIds_app args cos 0 hco]; exact List.mem_append_left _ (List.mem_of_getElem? hj)) (by omega)
      rw [hc.pin j' hlo, ha0 j' hjlt] at t4
      have : vs.getD j' undef = v := by rw [Array.getD_eq_getD_getElem?, <- Array.getElem?_toList, e5]; rfl
      rw [this, e8] at t4
      cases t4
      exact ⟨true, cs, b', k, e1, hb, hne, t3, e6, e4⟩
    ·cases e2
   have hmv : ∀ b, (∃ id k xs gen hist, Live c id b /\ c.hp id = some (.row k xs gen hist false)) \/ c.S b -> some b ∈ bs -> mvB args bs b := by
    intro b hb hm
    obtain ⟨j, hj⟩ := List.mem_iff_getElem?.1 hm
    have hlt : j < args.length := by have := (List.getElem?_eq_some_iff.1 hj).1; omega
    have hja : args[j]? = some args[j] := List.getElem?_eq_getElem hlt
    obtain ⟨v, ob, e1, e2, e3⟩ := hA.get j _ hja
    rw [hj] at e2; cases e2
    rcases arg_cases args[j] with ⟨k, xs, e⟩ | ⟨k, x, e⟩ | ⟨q1, q2⟩
    ·exact ⟨j, k, xs, by rw [hja, e], hj⟩
    ·exfalso
     have hjm : ∃ (m : Nat), (ioIds 0 args)[m]? = some j := by
      have : ∀ (l : List AV) (i t : Nat) k x, (∀ a ∈ l, isCo a = false) -> l[t]? = some (.val false [.io k x]) -> i + t ∈ ioIds i l := by
       intro l
       induction l with
       | nil => intro i t k x _ h; simp at h
       | cons a r ih =>
        intro i t k x hco h
        cases t with
        | zero => simp at h; subst h; simp [ioIds]
        | succ t =>
         have := ih (i + 1) t k x (fun a h => hco a (by simp [h])) (by simpa using h)
         rw [show i + (t + 1) = i + 1 + t by omega]
         by_cases hq : ∃ k x, a = .val false [.io k x]
         ·obtain ⟨k, x, rfl⟩ := hq
          rw [ioIds]; exact List.mem_cons_of_mem _ this
         ·rw [ioIds_io i a r (fun k x e => hq ⟨k, x, e⟩) (hco a (by simp))]; exact this
      have := this args 0 j k x hco (by rw [hja, e])
      rw [Nat.zero_add] at this
      exact List.mem_iff_getElem?.1 this
     obtain ⟨m, hm⟩ := hjm
     obtain ⟨g, cs, b', k', t1, t2, t3, t4, t5, t6⟩ := hbox m j hm
     rw [hj] at t5; cases t5
     have hlv : Live c j b := ⟨t4, _, hh _ _ t2, by cases cs <;> simp [Obj.live] at t3 ⊢⟩
     rcases hb with ⟨id, k2, xs2, g2, h2, z1, z2⟩ | hb
     ·have := hc.mem.one id j b z1 hlv
      subst this
      rw [hh _ _ t2] at z2; cases z2
     ·exact (hc.mem.live j b hlv).2.1 hb
    ·have := (argRel_plain q1 q2 e3).1
     cases this
   have hokb : ∀ id k xs gen hist b, c.β id = some b -> c.hp id = some (.row k xs gen hist false) -> b < c.w.heap.size /\ (w.heap.size <= b \/ mvB args bs b) := by
    intro id k xs gen hist b hb ho
    have hl : Live c id b := ⟨hb, _, ho, rfl⟩
    obtain ⟨q1, q2, q3⟩ := hc.mem.live id b hl
    refine ⟨q1, ?_⟩
    rcases q3 with q3 | q3
    ·exact .inl q3
    ·exact .inr (hmv b (.inl ⟨id, k, xs, gen, hist, hl, ho⟩) q3)
   have hN : ∀ (j : Nat) g cs, ((∃ k, sg.res[j]? = some (false, k)) /\ us[j]? = some (g, cs)) \/ ws[j]? = some (g, cs) -> ∀ id ∈ idsOf cs, ∀ b, c.β id = some b -> S' b := by
    intro j g cs hj id hid b hb
    refine .inr ⟨id, ?_, hb⟩
    rcases hj with ⟨⟨k, h1⟩, h2⟩ | h2
    ·exact List.mem_append_left _ (mem_nonIds _ _ j k g cs h1 h2 hid)
    ·refine List.mem_append_right _ ?_
     have : ∀ (l : List (Bool × List S)) (j : Nat), l[j]? = some (g, cs) -> id ∈ idsOf (l.map (·.2)).flatten := by
      intro l
      induction l with
      | nil => intro j h; simp at h
      | cons p r ih =>
       intro j h
       rw [List.map_cons, List.flatten_cons, idsOf_append, List.mem_append]
       cases j with
       | zero => simp at h; subst h; exact .inl hid
       | succ j => exact .inr (ih j (by simpa using h))
     exact this ws j h2
   -- columns
   have hwc : ∀ (m : Nat) d, cos[m]? = some d -> ∃ t off md k, ∃ (xs : List (K.T k)), ∃ g, hget σ.heap d.cid = some (.col t off md k xs g none) /\ ws[(ioIds 0 args).length + m]? = some (false, [.sl k xs]) := by
    intro m d hd
    obtain ⟨p, e1, e2⟩ := hwg ((ioIds 0 args).length + m) d.cid (by rw [List.getElem?_append_right (by omega), show (ioIds 0 args).length + m - (ioIds 0 args).length = m by omega, List.getElem?_map, hd]; rfl)
    unfold ioV at e2
    have hbig := hIn.cid (List.mem_of_getElem? hd)
    have : Nat.ble d.cid 1048575 = false := by
     cases hb : Nat.ble d.cid 1048575 with
     | false => rfl
     | true => have := Nat.le_of_ble_eq_true hb; omega
    rw [this] at e2
    simp only [cond_false] at e2
    split at e2
    ·rename_i t off md k xs g hq
     cases e2
     exact ⟨t, off, md, k, xs, g, hq, e1⟩
    ·cases e2
   have hcos : ∃ cos' : List CoD, LR (fun (d d' : CoD) => CoSame d d' /\ ∃ g, hget σ.heap d'.cid = some (.col d'.t d'.off d'.m d'.k d'.xs g none)) cos cos' /\ ∀ (m : Nat) d', cos'[m]? = some d' -> ws[(ioIds 0 args).length + m]? = some (false, [.sl d'.k d'.xs]) := by
    have key : ∀ d ∈ cos, ∃ d' : CoD, (CoSame d d' /\ ∃ g, hget σ.heap d'.cid = some (.col d'.t d'.off d'.m d'.k d'.xs g none)) := by
     intro d hd
     obtain ⟨m, hm⟩ := List.mem_iff_getElem?.1 hd
     obtain ⟨t, off, md, k, xs, g, q1, _⟩ := hwc m d hm
     obtain ⟨z1, z2, z3, z4⟩ := ManR.two hIn.r hc.man.r (coHp_get hIn.nod hd) (hh _ _ q1)
     exact ⟨⟨d.cid, t, off, md, k, xs⟩, ⟨rfl, z1.symm, z2.symm, z3.symm, z4.symm⟩, g, q1⟩
    have : ∀ (l : List CoD), (∀ d ∈ l, ∃ d' : CoD, (CoSame d d' /\ ∃ g, hget σ.heap d'.cid = some (.col d'.t d'.off d'.m d'.k d'.xs g none))) -> ∃ l', LR (fun (d d' : CoD) => CoSame d d' /\ ∃ g, hget σ.heap d'.cid = some (.col d'.t d'.off d'.m d'.k d'.xs g none)) l l' := by
     intro l
     induction l with
     | nil => intro _; exact ⟨[], trivial⟩
     | cons d r ih =>
      intro h
      obtain ⟨d', hd'⟩ := h d (by simp)
      obtain ⟨r', hr'⟩ := ih fun d hd => h d (by simp [hd])
      exact ⟨d' :: r', hd', hr'⟩
    obtain ⟨cos', hl⟩ := this cos key
    refine ⟨cos', hl, fun m d' hm => ?_⟩
    have hlt : m < cos.length := by rw [hl.length]; exact (List.getElem?_eq_some_iff.1 hm).1
    obtain ⟨d2, q1, q2, g, q3⟩ := hl.get m _ (List.getElem?_eq_getElem hlt)
    rw [hm] at q1; cases q1
    obtain ⟨t, off, md, k, xs, g', r1, r2⟩ := hwc m _ (List.getElem?_eq_getElem hlt)
    rw [<- q2.1, q3] at r1; cases r1
    exact r2
   obtain ⟨cos', hcl, hcw⟩ := hcos
   have hsame : LR CoSame cos cos' := hcl.mono fun _ _ _ q => q.1
   have hcids := coSame_cids hsame
   have hnod' : (cos'.map (·.cid)).Nodup := by rw [hcids]; exact hIn.nod
   have hget' : ∀ d' ∈ cos', ∃ g, c.hp d'.cid = some (.col d'.t d'.off d'.m d'.k d'.xs g none) := by
    intro d' hd'
    obtain ⟨m, hm⟩ := List.mem_iff_getElem?.1 hd'
    have hlt : m < cos.length := by rw [hcl.length]; exact (List.getElem?_eq_some_iff.1 hm).1
    obtain ⟨d2, q1, q2, g, q3⟩ := hcl.get m _ (List.getElem?_eq_getElem hlt)
    rw [hm] at q1; cases q1
    exact ⟨g, hh _ _ q3⟩
   have hren : ColRen c (coC c.te c.w S' cos') := by
    refine ⟨fun cid t off m k xs g p q => ?_, fun cid t off m k xs g p q => ?_⟩
    ·have hin := List.all_eq_true.1 hcin _ (hget_mem (show hget σ.heap cid = some (.col t off m k xs g p) by rw [<- hc.hp]; exact q))
     simp only [List.contains_eq_mem, List.mem_append, decide_eq_true_eq] at hin
     have hbig := (hc.man.r.ci _ _ _ _ _ _ _ _ q).1
     rcases hin with hin | hin
     ·obtain ⟨m', hm'⟩ := List.mem_iff_getElem?.1 hin
      obtain ⟨_, k', x', e3, _⟩ := ioIds_get args 0 m' cid hco hm'
      have := (List.getElem?_eq_some_iff.1 e3).1
      rw [hbig] at this; unfold cidOf at this; omega
     ·rw [<- hcids] at hin
      obtain ⟨d', hd', rfl⟩ := List.mem_map.1 hin
      obtain ⟨g', q'⟩ := hget' d' hd'
      rw [q] at q'; cases q'
      exact ⟨0, coHp_get hnod' hd'⟩
    ·obtain ⟨d', hd', rfl, e⟩ := coHp_mem q
     cases e
     obtain ⟨g', q'⟩ := hget' d' hd'
     exact ⟨g', q'⟩
   have hnoS : ∀ l b, OwnX c l b -> ¬ S' b := by
    rintro l b hl (q | ⟨id, hid, q⟩)
    ·exact (hc.man.r.sep l b hl).2.1 q
    ·obtain ⟨k, xs, gen, hist, frz, ho⟩ := hNrow id hid
     cases frz with
     | false => exact (hc.man.r.sep l b hl).2.2 id ⟨q, _, ho, rfl⟩
     | true =>
      have := hc.mem.obj id _ ho
      simp only [RepO, q] at this
      exact (hc.man.r.sep l b hl).2.1 (this.2.2 trivial)
   have hback : ∀ l b, OwnX (coC c.te c.w S' cos') l b -> OwnX c l b := by
    intro l b h
    cases l with
    | man t i =>
     obtain ⟨⟨cid, off, m, k, xs, g, p, q⟩, q'⟩ := h
     obtain ⟨g', q⟩ := hren.bwd _ _ _ _ _ _ _ _ q
     exact ⟨⟨_, _, _, _, _, _, _, q⟩, q'⟩
    | own cid i =>
     obtain ⟨⟨t, off, m, k, xs, g, p, q1, q2⟩, q3⟩ := h
     obtain ⟨g', q⟩ := hren.bwd _ _ _ _ _ _ _ _ q1
     exact ⟨⟨t, off, m, k, xs, g', p, q, q2⟩, q3⟩
   have hout : ManOut A te c.te w c.w Sb S' args bs cos cos' := by
    refine ⟨hsame, ⟨hc.man.r.ren rfl rfl (fun b hb => .inl hb) (fun l b hl => ⟨hnoS l b hl, fun id hid => by obtain ⟨q, _⟩ := hid; cases q⟩) hren, hc.man.f.ren rfl rfl hren⟩, fun l b hl j k x ha hb => ?_⟩
    have hjm : ∃ (m : Nat), (ioIds 0 args)[m]? = some j := by
     have : ∀ (l : List AV) (i t : Nat) k x, (∀ a ∈ l, isCo a = false) -> l[t]? = some (.val false [.io k x]) -> i + t ∈ ioIds i l := by
      intro l
      induction l with
      | nil => intro i t k x _ h; simp at h
      | cons a r ih =>
       intro i t k x hco h
       cases t with
       | zero => simp at h; subst h; simp [ioIds]
       | succ t =>
        have := ih (i + 1) t k x (fun a h => hco a (by simp [h])) (by simpa using h)
        rw [show i + (t + 1) = i + 1 + t by omega]
        by_cases hq : ∃ k x, a = .val false [.io k x]
        ·obtain ⟨k, x, rfl⟩ := hq
         rw [ioIds]; exact List.mem_cons_of_mem _ this
        ·rw [ioIds_io i a r (fun k x e => hq ⟨k, x, e⟩) (hco a (by simp))]; exact this
     have := this args 0 j k x hco ha
     rw [Nat.zero_add] at this
     exact List.mem_iff_getElem?.1 this
    obtain ⟨m, hm⟩ := hjm
    obtain ⟨g, cs, b', k', t1, t2, t3, t4, t5, t6⟩ := hbox m j hm
    rw [hb] at t5; cases t5
    exact (hc.man.r.sep l b (hback l b hl)).2.2 j ⟨t4, _, hh _ _ t2, by cases cs <;> simp [Obj.live] at t3 ⊢⟩
   have hlvl0 : (lvs sg.ks rr).length = sg.ks.length := lvs_length _ _
   have hkl0 : sg.ks.length = sg.res.length + sg.io.length := by rw [Sig.ks_eq]; simp
   have hiol0 : (ioIds 0 args).length = (ioKs args).length := ioIds_len args 0 hco
   have hfin : LR (fun (p : Bool × List S) (d : CoD) => p.2 = [.sl d.k d.xs]) ((lvs sg.ks rr).drop (sg.res.length + (ioKs args).length)) cos' := by
    refine LR.of_get ?_ fun m p d' e1 e2 => ?_
    ·rw [List.length_drop, hlvl0, hkl0, hsg, List.length_append, List.length_map, <- hcl.length]; omega
    ·have hw := hcw m d' e2
     have hcl2 := hws' _ _ _ hw
     rw [hu1, hiol0] at hcl2
     obtain ⟨k', y, f1, f2, f3⟩ := hcell _ _ hcl2
     rw [List.getElem?_drop, show sg.res.length + (ioKs args).length + m = sg.res.length + ((ioKs args).length + m) by omega, f3] at e1
     cases e1
     cases k' with
     | slice e =>
      simp only [rei1, rei, rowOf] at f2
      cases hcs : cst d'.k e d'.xs with
      | none => rw [hcs] at f2; simp at f2
      | some ys =>
       rw [hcs] at f2
       obtain ⟨q, q2⟩ := cst_some hcs
       subst q
       simp only [Option.some.injEq] at f2
       subst f2; subst q2
       rfl
     | _ =>
      have hlt : m < cos.length := by rw [hcl.length]; exact (List.getElem?_eq_some_iff.1 e2).1
      rw [Sig.ks_eq, List.getElem?_append_right (by simp), List.length_map, show sg.res.length + ((ioKs args).length + m) - sg.res.length = (ioKs args).length + m by omega, hsg, List.getElem?_append_right (by omega),
       show (ioKs args).length + m - (ioKs args).length = m by omega, List.getElem?_map, List.getElem?_eq_getElem hlt] at f1
      cases f1
   refine ⟨_, hrun, c.te, S', cos', ⟨arr, rfl, hc.mem.fr, fun b hb => .inl (hc.mem.inf b hb), ?_, ?_, ?_⟩, hout, hfin⟩
   ·intro b hb
    have row : ∀ id ∈ N, c.β id = some b -> b < c.w.heap.size /\ (Sb b \/ w.heap.size <= b \/ mvB args bs b) := by
     intro id hid hb
     obtain ⟨k, xs, gen, hist, frz, ho⟩ := hNrow id hid
     cases frz with
     | false =>
      obtain ⟨q1, q2⟩ := hokb id k xs gen hist b hb ho
      exact ⟨q1, .inr q2⟩
     | true =>
      have := hc.mem.obj id _ ho
      simp only [RepO, hb] at this
      have hS := this.2.2 trivial
      refine ⟨hc.mem.below b hS, ?_⟩
      rcases hc.mem.sup b hS with q | q | q
      ·exact .inl q
      ·exact .inr (.inl q)
      ·exact .inr (.inr (hmv b (.inr hS) q))
    rcases hb with hS | ⟨id, hid, hb⟩
    ·refine ⟨hc.mem.below b hS, ?_⟩
     rcases hc.mem.sup b hS with q | q | q
     ·exact .inl q
     ·exact .inr (.inl q)
     ·exact .inr (.inr (hmv b (.inr hS) q))
    ·exact row id hid hb
   ·have hlvl : (lvs sg.ks rr).length = sg.ks.length := lvs_length _ _
    have hkl : sg.ks.length = sg.res.length + sg.io.length := by rw [Sig.ks_eq]; simp
    refine resV_of sg.res _ arr.toList (by rw [List.length_take, hlvl, hkl]; omega) (by rw [<- hlr.length, hu1]) fun j own k g cs u e1 e2 e3 => ?_
    have hjr : j < sg.res.length := (List.getElem?_eq_some_iff.1 e1).1
    rw [List.getElem?_take, if_pos hjr] at e2
    have huj : us[j]? = some us[j] := List.getElem?_eq_getElem (by omega)
    generalize hue : us[j] = p at huj
    obtain ⟨g', cs'⟩ := p
    obtain ⟨k', y, f1, f2, f3⟩ := hcell j cs' (hus' j g' cs' huj)
    have hkk : k' = k := by
     have : sg.ks[j]? = some k := by
      rw [Sig.ks_eq]
      rw [List.getElem?_append_left (by simpa using hjr), List.getElem?_map, e1]; rfl
     rw [this] at f1; cases f1; rfl
    subst hkk
    rw [f3] at e2
    cases e2
    obtain ⟨u', u1, u2⟩ := hlr.get j _ huj
    rw [e3] at u1; cases u1
    obtain ⟨o1, o2⟩ := ownV_get sg.res us hu1.symm hown j own k' g' cs' e1 huj
    refine ⟨fun ho => ?_, fun ho => ?_⟩
    ·subst ho
     obtain ⟨hg, o2'⟩ := o2 rfl
     subst hg
     rcases o2' with rfl | ⟨id, gen, k2, xs2, hist, rfl, o3, o4⟩
     ·have hk : ∃ e, k' = .slice e /\ HEq y ([] : List e.T) := by
       cases k' with
       | slice e => simp only [rei1, rei, rowOf] at f2; cases f2; exact ⟨e, rfl, HEq.rfl⟩
       | strct a => cases o1
       | prod a b => cases o1
       | _ => simp [rei1, rei] at f2
      obtain ⟨e, rfl, hy⟩ := hk
      cases hy
      refine ⟨e, [], none, rfl, ⟨?_, rfl⟩, fun b hb => by cases hb⟩
      have := repV_inv u2
      simpa [RepS] using this
     ·have hk : ∃ e, k' = .slice e /\ e = k2 /\ HEq y xs2 := by
       cases k' with
       | slice e =>
        simp only [rei1, rei, rowOf, o3, contAt] at f2
        rw [show Nat.beq gen gen = true by simp] at f2
        simp only [cond_true] at f2
        cases hcs : cst k2 e xs2 with
        | none => rw [hcs] at f2; simp at f2
        | some ys =>
         rw [hcs] at f2
         obtain ⟨q, q2⟩ := cst_some hcs
         subst q
         simp only [Option.some.injEq] at f2
         subst f2
         exact ⟨k2, rfl, rfl, by rw [<- q2]⟩
       | strct a => cases o1
       | prod a b => cases o1
       | _ => simp [rei1, rei] at f2
      obtain ⟨e, rfl, rfl, hy⟩ := hk
      cases hy
      refine ⟨e, y, c.β id, rfl, ?_, fun b hb => ⟨⟨(hokb id e y gen hist b hb (hh _ _ o3)).1, (hokb id e y gen hist b hb (hh _ _ o3)).2, fun ⟨l, hl⟩ => (hc.man.r.sep l b (hback l b hl)).2.2 id ⟨hb, _, hh _ _ o3, rfl⟩⟩, hnS id b ⟨hb, _, hh _ _ o3, rfl⟩ ?_⟩⟩
      ·have := row_arg hc.mem (hh _ _ o3) (repV_inv u2) (S' := S') (fun b hb => .inl hb)
       exact this
      ·intro hid
       rw [List.map_append, List.flatten_append, idsOf_append, List.count_append, ids_count id sg.res us hu1.symm] at o4
       have h1 : 0 < (ownIds sg.res us).count id := List.count_pos_iff.2 (mem_ownIds _ _ j _ _ _ e1 huj (by simp [idsOf, S.ids]))
       have h2 : 0 < (nonIds sg.res us).count id + (idsOf (ws.map (·.2)).flatten).count id := by
        rcases List.mem_append.1 hid with q | q
        ·have := List.count_pos_iff.2 q; omega
        ·have := List.count_pos_iff.2 q; omega
       omega
    ·subst ho
     have hrt : RepT c.te c.w S' k' y u.cells.toList := rei1_rep hc.mem hh (S' := S') (fun b hb => .inl hb) (hN j g' cs' (.inl ⟨⟨k', e1⟩, huj⟩)) (repV_cells u2) f2
     have hlv := (leaves_rep (c := clC c.te c.w S') k' y u.cells.toList).2 hrt
     rw [<- o1]
     cases g' with
     | true =>
      obtain ⟨ar, rfl, _⟩ := u2
      exact ⟨ar, rfl, hlv⟩
     | false =>
      obtain ⟨s, rfl, hs⟩ := u2
      have hc1 : u.cells = #[u] := one_cells (one_ofRep hs)
      rw [hc1] at hlv
      have hl1 := hlv.length
      match hlvs : leaves k' y, hl1 with
      | [s'], _ =>
       rw [hlvs] at hlv
       exact ⟨s', rfl, hlv.1⟩
      | [], h => simp at h
      | _ :: _ :: _, h => simp at h
   ·have hlvl : (lvs sg.ks rr).length = sg.ks.length := lvs_length _ _
    have hkl : sg.ks.length = sg.res.length + sg.io.length := by rw [Sig.ks_eq]; simp
    refine resIo_of args bs 0 _ hco (by omega) (by rw [List.length_take, List.length_drop, hlvl, hkl, hsg, List.length_append, hiol0]; omega) fun m j p e1 e2 => ?_
    obtain ⟨g, cs, b, k, t1, t2, t3, t4, t5, t6⟩ := hbox m j e1
    have hmlt : m < (ioKs args).length := (List.getElem?_eq_some_iff.1 t6).1
    rw [List.getElem?_take, if_pos hmlt, List.getElem?_drop] at e2
    have hcl := hws' m g cs t1
    rw [hu1] at hcl
    obtain ⟨k', y, f1, f2, f3⟩ := hcell _ cs hcl
    rw [f3] at e2
    cases e2
    have hkk : k' = k := by
     have : sg.ks[sg.res.length + m]? = some k := by
      rw [Sig.ks_eq]
      rw [List.getElem?_append_right (by simp), List.length_map, show sg.res.length + m - sg.res.length = m by omega, hsg, List.getElem?_append_left hmlt]
      exact t6
     rw [this] at f1; cases f1; rfl
    subst hkk
    have hro := hc.mem.obj j _ (hh _ _ t2)
    obtain ⟨b', ar, r1, r2, r3⟩ := hro t3
    rw [t4] at r1; cases r1
    have hrt : RepT c.te c.w S' k' y (ar.toList.take cs.length) := rei1_rep hc.mem hh (S' := S') (fun b hb => .inl hb) (hN m g cs (.inr t1)) r3 f2
    have hll : (leaves k' y).length = cs.length := by
     have h1 := ((leaves_rep (c := clC c.te c.w S') k' y _).2 hrt).length
     rw [h1, <- r3.length]
    refine ⟨k', b, t6, by rw [Nat.sub_zero]; exact t5, ⟨ar, r2, ?_⟩, ?_, ?_⟩
    ·rw [hll]
     exact (leaves_rep (c := clC c.te c.w S') k' y _).2 hrt
    ·refine hnS j b ⟨t4, _, hh _ _ t2, by cases cs <;> simp [Obj.live] at t3 ⊢⟩ fun hid => ?_
     obtain ⟨k2, xs2, g2, h2, fz, ho⟩ := hNrow j hid
     rw [hh _ _ t2] at ho; cases ho
    ·have := hrt.len
     rw [hll, <- this, <- r3.length]
 ·cases h
theorem eqKs_eq : ∀ (a b : List K), eqKs a b = true -> a = b
 | [], [], _ => rfl
 | a :: r, b :: s, h => by
  simp only [eqKs, Bool.and_eq_true, decide_eq_true_eq] at h
  rw [h.1, eqKs_eq r s h.2]
 | [], _ :: _, h => by cases h
 | _ :: _, [], h => by cases h
theorem callB_ok (hC : SoundC P A Gl C) (hmx : P.follows .mixedOrders = true) (k : Nat) : SoundC P A Gl (callB P A C k) := by
 intro sg f args cos rr hco h
 unfold callB at h
 split at h
 ·rename_i fn hf
  split at h
  ·rename_i c hb
   rw [plainN_eq args cos hco] at h
   cases hcnd : (Nat.ble args.length fn.ntmps && Nat.ble args.length 1048575 && !(fn.name == "runtime.NumGoroutine") && eqKs sg.io (ioKs (args ++ cos.map coAV))) with
   | false => rw [hcnd] at h; cases h
   | true =>
    rw [hcnd] at h
    simp only [cond_true] at h
    simp only [Bool.and_eq_true, Bool.not_eq_true'] at hcnd
    obtain ⟨⟨⟨h1, h1'⟩, h2⟩, h3⟩ := hcnd
    have h1' := Nat.le_of_ble_eq_true h1'
    have h3 := eqKs_eq _ _ h3
    have h1 := Nat.le_of_ble_eq_true h1
    refine ⟨⟨fn, hf, h2, by simp [hb]⟩, fun te w Sb vs bs hte hG hbel hA hbs hinj hIn => ?_⟩
    have hl := hA.length.1
    refine calls_of_wp hf hb (runCode_ok hC hmx c 0 _ _ _ _ _ h (entry_ok hte hco hIn h1' hG hbel hA hbs hinj h1) fun e σ a w' hk hok => ?_)
    have ha0 : ∀ j, j < args.length -> (vs ++ Array.replicate (fn.ntmps - vs.size) undef).getD j undef = vs.getD j undef := by
     intro j hj
     rw [Array.getD_eq_getD_getElem?, Array.getD_eq_getD_getElem?, Array.getElem?_append_left (by rw [<- Array.length_toList, <- hl]; exact hj)]
    cases e with
    | exit id => cases hk
    | normal =>
     obtain ⟨q1, v, q2, te', S', cos', q3, q4, q5⟩ := finish_ok hA ha0 hco hIn h1' h3 hok hk
     exact ⟨q1, v, q2, v, te', S', cos', rfl, q3, q4, q5⟩
    | ret =>
     obtain ⟨q1, v, q2, te', S', cos', q3, q4, q5⟩ := finish_ok hA ha0 hco hIn h1' h3 hok hk
     exact ⟨q1, v, q2, v, te', S', cos', rfl, q3, q4, q5⟩
  ·cases h
 ·cases h
def SoundX (P : Program) (A : Ann) (Gl : Nat -> Option Go.Obj) (X : Outer) : Prop := SoundC P A Gl (fun sg f args => (X sg f args).join)
theorem callF_ok {X : Outer} (hX : SoundX P A Gl X) (hmx : P.follows .mixedOrders = true) : ∀ k, SoundC P A Gl (callF P A X k)
 | 0 => fun sg f args cos rr hco h => by cases h
 | k + 1 => fun sg f args cos rr hco h => by
  simp only [callF] at h
  split at h
  ·rename_i r hr
   exact hX sg f args cos rr hco (by simp only [hr, h]; rfl)
  ·exact callB_ok (callF_ok hX hmx k) hmx k sg f args cos rr hco h
end
end Go.Eng
namespace Go.Eng
open Go.RowKit Go.Deep Go.ChangeShapes
section
variable {P : Program} {A : Ann} {te : TE} {Gl : Nat -> Option Go.Obj} {C : CallF}
def allB (w : World) : Nat -> Prop := fun b => b < w.heap.size
theorem argRel_of_plain {w : World} {Sb : Nat -> Prop} {a : AV} {v : Value} (h1 : ∀ k xs, a = .val false [.mv k xs] -> False) (h2 : ∀ k x, a = .val false [.io k x] -> False) (h : RepV (clC te w Sb) a v) : ArgRel te w Sb a v none := by
 unfold ArgRel
 split
 ·exact (h1 _ _ rfl).elim
 ·exact (h2 _ _ rfl).elim
 ·exact ⟨rfl, h⟩
theorem lr3_plain {w : World} {Sb : Nat -> Prop} : ∀ (args : List AV) (vs : List Value), (∀ a ∈ args, (∀ k xs, a = .val false [.mv k xs] -> False) /\ (∀ k x, a = .val false [.io k x] -> False)) -> LR (RepV (clC te w Sb)) args vs -> LR3 (ArgRel te w Sb) args vs (args.map fun _ => none)
 | [], [], _, _ => trivial
 | a :: r, v :: vs, h, hl => ⟨argRel_of_plain (h a (by simp)).1 (h a (by simp)).2 hl.1, lr3_plain r vs (fun a ha => h a (by simp [ha])) hl.2⟩
 | [], _ :: _, _, h => h.elim
 | _ :: _, [], _, h => h.elim
def te00 (A : Ann) : TE := ⟨A.te, fun _ _ => none, fun _ _ => none, fun _ _ => undef⟩
def coE (t off : Nat) (m : Mode) (k : K) : CoD := ⟨cidOf t off, t, off, m, k, []⟩
theorem manR_empty {w : World} {Sb : Nat -> Prop} {cos : List CoD} (hlay : ∀ t, LayOk (A.man t)) (hcos : ∀ d ∈ cos, d.xs = [] /\ d.cid = cidOf d.t d.off /\ (d.off, d.m, d.k) ∈ A.man d.t) : ManR A (coC (te00 A) w Sb cos) := by
 have hx : ∀ cid t off m k (xs : List (K.T k)) g p, (coC (te00 A) w Sb cos).hp cid = some (.col t off m k xs g p) -> xs = [] /\ cid = cidOf t off /\ (off, m, k) ∈ A.man t := by
  intro cid t off m k xs g p h
  obtain ⟨d, hd, rfl, e⟩ := coHp_mem h
  cases e
  exact hcos d hd
 refine ⟨hlay, fun cid t off m k xs g p h => (hx _ _ _ _ _ _ _ _ h).2, fun cid t off m k xs g p h i => ?_, fun t i b _ hi => ?_, fun cid t off k xs g p h i x b arr hx' => ?_, fun cid t off e xs g p h i x hx' => ?_, fun cid t off e xs g p h i es hx' => ?_, fun l b hl => ?_, fun l l' b hl => ?_⟩
 ·rw [(hx _ _ _ _ _ _ _ _ h).1]; simp [coC, te00]
 ·cases hi
 ·rw [(hx _ _ _ _ _ _ _ _ h).1] at hx'; simp at hx'
 ·rw [(hx _ _ _ _ _ _ _ _ h).1] at hx'; simp at hx'
 ·rw [(hx _ _ _ _ _ _ _ _ h).1] at hx'; simp at hx'
 ·cases l with
  | man t i => cases hl.2
  | own cid i => cases hl.2
 ·cases l with
  | man t i => cases hl.2
  | own cid i => cases hl.2
theorem ownX_empty {w : World} {Sb : Nat -> Prop} {cos : List CoD} {l : Lab} {b : Nat} (h : OwnX (coC (te00 A) w Sb cos) l b) : False := by
 cases l with
 | man t i => cases h.2
 | own cid i => cases h.2
theorem law_calls (hC : SoundC P A Gl C) {f : Nat} {args : List AV} {io : List K} {cos : List CoD} {rr : (Sig.mk [(false, .bool)] io).R} {vs : Array Value} {w : World} (h : C ⟨[(false, .bool)], io⟩ f (args ++ cos.map coAV) = some rr)
  (hres : (lvs (Sig.mk [(false, .bool)] io).ks rr).take 1 = [(false, [.bool true])])
  (hlay : ∀ t, LayOk (A.man t)) (hnod : (cos.map (·.cid)).Nodup) (hcos : ∀ d ∈ cos, d.xs = [] /\ d.cid = cidOf d.t d.off /\ (d.off, d.m, d.k) ∈ A.man d.t) (hco : ∀ a ∈ args, isCo a = false)
  (hp : ∀ a ∈ args, (∀ k xs, a = .val false [.mv k xs] -> False) /\ (∀ k x, a = .val false [.io k x] -> False)) (hG : ∀ b o, Gl b = some o -> w.heap[b]? = some o) (hA : LR (RepV (clC (te00 A) w (allB w))) args vs.toList) :
  Calls P f vs w (fun e w' => e = .returned (.bool true) /\ Below w.heap.size w w') := by
 obtain ⟨_, hc⟩ := hC _ _ _ _ _ hco h
 have hnone : ∀ (j b : Nat), (args.map fun _ => (none : Option Nat))[j]? = some (some b) -> False := by
  intro j b hj
  rw [List.getElem?_map] at hj
  cases hq : args[j]? with
  | none => rw [hq] at hj; cases hj
  | some a => rw [hq] at hj; cases hj
 refine (hc (te00 A) w (allB w) vs (args.map fun _ => none) rfl (fun b o hb => ⟨lt_of_some (hG b o hb), hG b o hb⟩) (fun b hb => hb) (lr3_plain args vs.toList hp hA) (fun j b hj => (hnone j b hj).elim) (fun j j' b hj => (hnone j b hj).elim) ⟨hnod, manR_empty hlay hcos, fun l b hl => (ownX_empty hl).elim⟩).mono ?_
 rintro e w' ⟨v, te', S', cos', rfl, ⟨arr, rfl, hfr, _, _, hrv, _⟩, _, _⟩
 have hM : ∀ b, ¬ (some b ∈ (args.map fun _ => (none : Option Nat)) \/ XOf (te00 A) w (allB w) cos b) := by
  rintro b (hb | ⟨l, hl⟩)
  ·obtain ⟨a, _, ha⟩ := List.mem_map.1 hb
   cases ha
  ·exact ownX_empty hl
 refine ⟨?_, hfr.os, hfr.tape, hfr.output, hfr.size, fun b hb => hfr.block b hb (hM b)⟩
 have hrv : ResV te' w' S' _ [(false, .bool)] ((lvs (Sig.mk [(false, .bool)] io).ks rr).take 1) arr.toList := hrv
 rw [hres] at hrv
 match hl : arr.toList, hrv with
 | [u], hrv =>
  obtain ⟨h1, _⟩ := hrv
  have hu : u = .bool true := by
   have := repV_inv h1
   exact this
  have : arr = #[u] := by apply Array.ext'; simp [hl]
  subst this
  rw [hu]; rfl
def OpnT (P : Program) (te : TE) (w : World) (t : TypeId) (k : K) (ok : k.T -> Prop) : Prop :=
 ∀ (H : Type) (enc : TypeId × Value -> H) (fuel : Nat) (cs : List Value) (x : DataW H × List MemPlace),
  DataW.trod enc P w 0 (fun _ => true) true fuel t cs = some x -> (∀ n ∈ x.1.weights P t, n <= reachBytes) -> ∃ y : k.T, RepT te w (allB w) k y cs /\ ok y
variable {w : World} {t : TypeId}
theorem okI_wf {k : IntKind} {n : Int} (h : (Lit.int k n).wf = true) : okI k n := by
 unfold okI okB
 cases k <;> first | rfl | (simp [Lit.wf, IntKind.min, IntKind.max, IntKind.signed, IntKind.bits] at h; simp; omega)
theorem opnT_int {k : IntKind} (hu : P.underlying t = some (.int k)) : OpnT P te w t (.int k) (fun n => (Lit.int k n).wf = true) := by
 intro H enc fuel cs x h _
 obtain ⟨n, rfl, _, hw⟩ := DataW.trod_int hu h
 exact ⟨n, ⟨rfl, okI_wf hw⟩, hw⟩
theorem exists_listT {α : Type} {Q : Nat -> α -> Prop} : ∀ n, (∀ i, i < n -> ∃ y, Q i y) -> ∃ xs : List α, xs.length = n /\ ∀ (i : Nat) y, xs[i]? = some y -> Q i y
 | 0, _ => ⟨[], rfl, fun i y h => by simp at h⟩
 | n + 1, h => by
  obtain ⟨xs, hl, hx⟩ := exists_listT n (fun i hi => h i (by omega))
  obtain ⟨y, hy⟩ := h n (by omega)
  refine ⟨xs ++ [y], by simp [hl], fun i z hz => ?_⟩
  rcases Nat.lt_or_ge i n with hi | hi
  ·rw [List.getElem?_append_left (by omega)] at hz
   exact hx i z hz
  ·rw [List.getElem?_append_right (by omega), hl] at hz
   obtain rfl : i = n := by
    rcases Nat.lt_or_ge (i - n) 1 with h1 | h1
    ·omega
    ·rw [List.getElem?_eq_none (by simpa using h1)] at hz
     cases hz
   simp at hz
   subst hz
   exact hy
theorem weightsAll_memT {H : Type} {e : TypeId} {n : Nat} : ∀ {ds : List (DataW H)} {d : DataW H}, d ∈ ds -> n ∈ d.weights P e -> n ∈ DataW.weightsAll P e ds
 | d0 :: ds, d, hd, hn => by
  simp only [DataW.weightsAll, List.mem_append]
  rcases List.mem_cons.1 hd with rfl | hd
  ·exact .inl hn
  ·exact .inr (weightsAll_memT hd hn)
theorem cell_spot {w : World} {a : Addr} {v : Value} (h : w.cell? a = some v) : a.spot = none /\ a.block < w.heap.size := by
 unfold World.cell? at h
 split at h
 ·rename_i hq
  cases hs : a.spot with
  | none => exact ⟨rfl, lt_of_some hq⟩
  | some x => rw [hs] at h; simp at h
 ·cases h
theorem add_none {a : Addr} (h : a.spot = none) (k : Nat) : a.add k = ⟨a.block, a.off + k, none⟩ := by
 obtain ⟨b, o, s⟩ := a
 cases h
 simp [Addr.add]
theorem opnT_slice {e : TypeId} {d : K} {ok : d.T -> Prop} {b : Nat} (hu : P.underlying t = some (.slice e)) (he : OpnT P te w e d ok) (hC : P.cellsOf e = d.size) (hd : 0 < d.size) (hb : P.bytesOf e = b) :
  OpnT P te w t (.slice d) (fun (xs : List d.T) => xs.length * b <= 140737488351232 /\ ∀ x ∈ xs, ok x) := by
 intro H enc fuel cs x h hw
 rcases open_slice hu h with ⟨rfl, rfl⟩ | ⟨a, len, cap, m, n, D, Pl, rfl, _, hl, hc, hm, rfl, hi⟩
 ·exact ⟨([] : List d.T), repT_nil _ _ _ _, by simp, fun x hx => by cases hx⟩
 ·simp only [if_true] at hm
  subst hm
  have h1 : (len + (m - len)) * b <= reachBytes := by
   have := hw ((((List.range len).map D).length + ((List.range (m - len)).map fun j => D (len + j)).length) * P.bytesOf e) (by simp [DataW.weights, hu])
   rw [hb] at this
   simpa using this
  have hb1 : len * b <= 140737488351232 := by
   have h2 : len * b <= (len + (m - len)) * b := Nat.mul_le_mul_right _ (by omega)
   have h3 : reachBytes = 140737488351232 := by decide
   omega
  obtain ⟨xs, hxl, hx⟩ := exists_listT (Q := fun i (y : d.T) => (∃ cs', w.cells? 0 (a.add (i * P.cellsOf e)) (P.cellsOf e) = some cs' /\ RepT te w (allB w) d y cs') /\ ok y) len (fun i hlt => by
   obtain ⟨cs', hcs, ht⟩ := hi i (by omega)
   obtain ⟨y, hy, hok⟩ := he H enc n cs' _ ht (fun q hq => hw q (by
    simp only [DataW.weights, hu]
    refine List.mem_cons_of_mem _ (List.mem_append_left _ (weightsAll_memT (List.mem_map.2 ⟨i, List.mem_range.2 hlt, rfl⟩) hq))))
   exact ⟨y, ⟨cs', hcs, hy⟩, hok⟩)
  have hcell : ∀ (i : Nat) (y : d.T), xs[i]? = some y -> ∃ vs, RepT te w (allB w) d y vs /\ ∀ (j : Nat) v, vs[j]? = some v -> w.cell? (a.add (i * d.size + j)) = some v := by
   intro i y hy
   obtain ⟨⟨cs', hcs, hk⟩, _⟩ := hx i y hy
   obtain ⟨_, hcl, hat⟩ := World.cells?_some hcs
   refine ⟨cs', hk, fun j v hj => ?_⟩
   have hil : j < P.cellsOf e := by
    have := (List.getElem?_eq_some_iff.1 hj).1
    omega
   have := hat j hil
   rw [Go.Deep.add_add, hC] at this
   rw [this, hj]
  have hsp : xs ≠ [] -> a.spot = none /\ a.block < w.heap.size := by
   intro hne
   match xs, hne with
   | y :: _, _ =>
    obtain ⟨vs, h1, h2⟩ := hcell 0 y rfl
    have hl := h1.len
    match vs, hl with
    | [], hl => simp at hl; omega
    | v :: _, _ =>
     have := cell_spot (h2 0 v rfl)
     simpa [Addr.add] using this
  refine ⟨xs, ⟨some a, m, by rw [hxl], by omega, fun hn => ⟨a, rfl, (hsp hn).1, (hsp hn).2, fun i y hy => ?_⟩⟩, by rw [hxl]; exact hb1, fun y hy => ?_⟩
  ·obtain ⟨vs, h1, h2⟩ := hcell i y hy
   refine ⟨vs, h1, fun j v hj => ?_⟩
   have := h2 j v hj
   rw [add_none (hsp hn).1] at this
   rw [<- Nat.add_assoc] at this
   exact this
  ·obtain ⟨i, hi', rfl⟩ := List.getElem_of_mem hy
   exact (hx i _ (List.getElem?_eq_getElem hi')).2
theorem repV_arg {Sb : Nat -> Prop} {k : K} {x : k.T} {v : Value} (h : RepT te w Sb k x v.cells.toList) (hg : k.isAgg = true -> ∃ cs, v = .agg cs) (hs : k.isAgg = false -> one v = true) : RepV (clC te w Sb) (inj k x) v := by
 have hl := (leaves_rep (c := clC te w Sb) k x v.cells.toList).2 h
 unfold inj
 cases hk : k.isAgg with
 | true =>
  obtain ⟨cs, rfl⟩ := hg hk
  exact ⟨cs, rfl, hl⟩
 | false =>
  have := one_cells (hs hk)
  rw [this] at hl
  have hn := hl.length
  match hlv : leaves k x, hn with
  | [s], _ =>
   rw [hlv] at hl
   exact ⟨s, rfl, hl.1⟩
  | [], h => simp at h
  | _ :: _ :: _, h => simp at h
end
end Go.Eng
namespace Go.Eng
open Go.RowKit
abbrev w64 (n : Int) : Int := IntKind.i64.wrap n
theorem w64_spec (n : Int) : ∃ q : Int, w64 n = n - 18446744073709551616 * q /\ -9223372036854775808 <= w64 n /\ w64 n < 9223372036854775808 := by
 have h : w64 n = if 9223372036854775808 <= n % 18446744073709551616 then n % 18446744073709551616 - 18446744073709551616 else n % 18446744073709551616 := by
  unfold w64 IntKind.wrap
  simp [IntKind.bits, IntKind.signed]
 by_cases hc : 9223372036854775808 <= n % 18446744073709551616
 ·rw [if_pos hc] at h
  exact ⟨n / 18446744073709551616 + 1, by omega, by omega, by omega⟩
 ·rw [if_neg hc] at h
  exact ⟨n / 18446744073709551616, by omega, by omega, by omega⟩
theorem w64_eq {n : Int} (h1 : -9223372036854775808 <= n) (h2 : n < 9223372036854775808) : w64 n = n := by
 obtain ⟨q, h3, h4, h5⟩ := w64_spec n
 omega
theorem okU_of {n : Int} (h : (Lit.int .u8 n).wf = true) : 0 <= n /\ n < 256 := by
 simp [Lit.wf, IntKind.min, IntKind.max, IntKind.signed, IntKind.bits] at h
 omega
def GlOf (w : World) : Nat -> Option Go.Obj := fun b => if b = 0 then w.heap[0]? else none
end Go.Eng
namespace Go.Eng
abbrev w8 (n : Int) : Int := IntKind.u8.wrap n
abbrev w32 (n : Int) : Int := IntKind.u32.wrap n
abbrev wu64 (n : Int) : Int := IntKind.u64.wrap n
theorem w8_mod (n : Int) : w8 n = n % 256 := by
 unfold w8 IntKind.wrap
 simp only [IntKind.bits, IntKind.signed, Bool.false_and, Bool.false_eq_true, if_false]
 rfl
theorem w32_mod (n : Int) : w32 n = n % 4294967296 := by
 unfold w32 IntKind.wrap
 simp only [IntKind.bits, IntKind.signed, Bool.false_and, Bool.false_eq_true, if_false]
 rfl
theorem wu64_mod (n : Int) : wu64 n = n % 18446744073709551616 := by
 unfold wu64 IntKind.wrap
 simp only [IntKind.bits, IntKind.signed, Bool.false_and, Bool.false_eq_true, if_false]
 rfl
theorem bindE {α β : Type} {o : Option α} {v : α} {F : α -> Option β} {r : Option β} (h : o = some v) (h2 : F v = r) : o.bind F = r := by subst h; exact h2
def Ev1 {α : Type} (f : Nat -> Option α) (r : α) : Prop := ∃ K : Nat, ∀ k : Nat, K <= k -> f k = some r
theorem Ev1.now {α : Type} (r : α) : Ev1 (fun _ => some r) r := ⟨0, fun _ _ => rfl⟩
theorem Ev1.const {α : Type} {o : Option α} {r : α} (h : o = some r) : Ev1 (fun _ => o) r := ⟨0, fun _ _ => h⟩
theorem Ev1.of {α : Type} {f g : Nat -> Option α} {r : α} (h : ∀ k, f k = g k) (hg : Ev1 g r) : Ev1 f r := by
 obtain ⟨K, hK⟩ := hg
 exact ⟨K, fun k hk => (h k).trans (hK k hk)⟩
theorem Ev1.iff {α : Type} {p : Prop} [Decidable p] {f g : Nat -> Option α} {r : α} (h1 : p -> Ev1 f r) (h2 : ¬ p -> Ev1 g r) : Ev1 (fun k => bif decide p then f k else g k) r := by
 by_cases h : p
 ·simp only [decide_eq_true h, cond_true]; exact h1 h
 ·simp only [decide_eq_false h, cond_false]; exact h2 h
theorem Ev1.pos {α : Type} {b : Bool} {f g : Nat -> Option α} {r : α} (h : b = true) (h1 : Ev1 f r) : Ev1 (fun k => bif b then f k else g k) r := by subst h; exact h1
theorem Ev1.neg {α : Type} {b : Bool} {f g : Nat -> Option α} {r : α} (h : b = false) (h1 : Ev1 g r) : Ev1 (fun k => bif b then f k else g k) r := by subst h; exact h1
theorem Ev1.posD {α : Type} {p : Prop} [Decidable p] {f g : Nat -> Option α} {r : α} (h : p) (h1 : Ev1 f r) : Ev1 (fun k => bif decide p then f k else g k) r := Ev1.pos (decide_eq_true h) h1
theorem Ev1.negD {α : Type} {p : Prop} [Decidable p] {f g : Nat -> Option α} {r : α} (h : ¬ p) (h1 : Ev1 g r) : Ev1 (fun k => bif decide p then f k else g k) r := Ev1.neg (decide_eq_false h) h1
theorem Ev1.step {α : Type} {f g : Nat -> Option α} {r : α} (h : ∀ k, f (k + 1) = g k) (hg : Ev1 g r) : Ev1 f r := by
 obtain ⟨K, hK⟩ := hg
 refine ⟨K + 1, fun k hk => ?_⟩
 obtain ⟨j, rfl⟩ : ∃ j, k = j + 1 := ⟨k - 1, by omega⟩
 exact (h j).trans (hK j (by omega))
theorem Ev1.bind {α β : Type} {a : Nat -> Option α} {F : Nat -> α -> Option β} {x : α} {r : β} (h : Ev1 a x) (hg : Ev1 (fun k => F k x) r) : Ev1 (fun k => (a k).bind (F k)) r := by
 obtain ⟨K, hK⟩ := h
 obtain ⟨L, hL⟩ := hg
 refine ⟨max K L, fun k hk => ?_⟩
 show (a k).bind (F k) = some r
 rw [hK k (by omega)]
 exact hL k (by omega)
def Ev2 {α : Type} (f : Nat -> Nat -> Option α) (r : α) : Prop := ∃ K : Nat, ∀ k m : Nat, K <= k -> K <= m -> f k m = some r
theorem Ev2.now {α : Type} (r : α) : Ev2 (fun _ _ => some r) r := ⟨0, fun _ _ _ _ => rfl⟩
theorem Ev2.const {α : Type} {o : Option α} {r : α} (h : o = some r) : Ev2 (fun _ _ => o) r := ⟨0, fun _ _ _ _ => h⟩
theorem Ev2.of {α : Type} {f g : Nat -> Nat -> Option α} {r : α} (h : ∀ k m, f k m = g k m) (hg : Ev2 g r) : Ev2 f r := by
 obtain ⟨K, hK⟩ := hg
 exact ⟨K, fun k m hk hm => (h k m).trans (hK k m hk hm)⟩
theorem Ev2.iff {α : Type} {p : Prop} [Decidable p] {f g : Nat -> Nat -> Option α} {r : α} (h1 : p -> Ev2 f r) (h2 : ¬ p -> Ev2 g r) : Ev2 (fun k m => bif decide p then f k m else g k m) r := by
 by_cases h : p
 ·simp only [decide_eq_true h, cond_true]; exact h1 h
 ·simp only [decide_eq_false h, cond_false]; exact h2 h
theorem Ev2.pos {α : Type} {b : Bool} {f g : Nat -> Nat -> Option α} {r : α} (h : b = true) (h1 : Ev2 f r) : Ev2 (fun k m => bif b then f k m else g k m) r := by subst h; exact h1
theorem Ev2.neg {α : Type} {b : Bool} {f g : Nat -> Nat -> Option α} {r : α} (h : b = false) (h1 : Ev2 g r) : Ev2 (fun k m => bif b then f k m else g k m) r := by subst h; exact h1
theorem Ev2.posD {α : Type} {p : Prop} [Decidable p] {f g : Nat -> Nat -> Option α} {r : α} (h : p) (h1 : Ev2 f r) : Ev2 (fun k m => bif decide p then f k m else g k m) r := Ev2.pos (decide_eq_true h) h1
theorem Ev2.negD {α : Type} {p : Prop} [Decidable p] {f g : Nat -> Nat -> Option α} {r : α} (h : ¬ p) (h1 : Ev2 g r) : Ev2 (fun k m => bif decide p then f k m else g k m) r := Ev2.neg (decide_eq_false h) h1
theorem Ev2.step {α : Type} {f g : Nat -> Nat -> Option α} {r : α} (h : ∀ k m, f k (m + 1) = g k m) (hg : Ev2 g r) : Ev2 f r := by
 obtain ⟨K, hK⟩ := hg
 refine ⟨K + 1, fun k m hk hm => ?_⟩
 obtain ⟨j, rfl⟩ : ∃ j, m = j + 1 := ⟨m - 1, by omega⟩
 exact (h k j).trans (hK k j (by omega) (by omega))
theorem Ev2.bind {α β : Type} {a : Nat -> Option α} {F : Nat -> Nat -> α -> Option β} {x : α} {r : β} (h : Ev1 a x) (hg : Ev2 (fun k m => F k m x) r) : Ev2 (fun k m => (a k).bind (F k m)) r := by
 obtain ⟨K, hK⟩ := h
 obtain ⟨L, hL⟩ := hg
 refine ⟨max K L, fun k m hk hm => ?_⟩
 show (a k).bind (F k m) = some r
 rw [hK k (by omega)]
 exact hL k m (by omega) (by omega)
def Ev3 {α : Type} (f : Nat -> Nat -> Nat -> Option α) (r : α) : Prop := ∃ K : Nat, ∀ k m m2 : Nat, K <= k -> K <= m -> K <= m2 -> f k m m2 = some r
theorem Ev3.now {α : Type} (r : α) : Ev3 (fun _ _ _ => some r) r := ⟨0, fun _ _ _ _ _ _ => rfl⟩
theorem Ev3.const {α : Type} {o : Option α} {r : α} (h : o = some r) : Ev3 (fun _ _ _ => o) r := ⟨0, fun _ _ _ _ _ _ => h⟩
theorem Ev3.of {α : Type} {f g : Nat -> Nat -> Nat -> Option α} {r : α} (h : ∀ k m m2, f k m m2 = g k m m2) (hg : Ev3 g r) : Ev3 f r := by
 obtain ⟨K, hK⟩ := hg
 exact ⟨K, fun k m m2 hk hm hm2 => (h k m m2).trans (hK k m m2 hk hm hm2)⟩
theorem Ev3.iff {α : Type} {p : Prop} [Decidable p] {f g : Nat -> Nat -> Nat -> Option α} {r : α} (h1 : p -> Ev3 f r) (h2 : ¬ p -> Ev3 g r) : Ev3 (fun k m m2 => bif decide p then f k m m2 else g k m m2) r := by
 by_cases h : p
 ·simp only [decide_eq_true h, cond_true]; exact h1 h
 ·simp only [decide_eq_false h, cond_false]; exact h2 h
theorem Ev3.pos {α : Type} {b : Bool} {f g : Nat -> Nat -> Nat -> Option α} {r : α} (h : b = true) (h1 : Ev3 f r) : Ev3 (fun k m m2 => bif b then f k m m2 else g k m m2) r := by subst h; exact h1
theorem Ev3.neg {α : Type} {b : Bool} {f g : Nat -> Nat -> Nat -> Option α} {r : α} (h : b = false) (h1 : Ev3 g r) : Ev3 (fun k m m2 => bif b then f k m m2 else g k m m2) r := by subst h; exact h1
theorem Ev3.posD {α : Type} {p : Prop} [Decidable p] {f g : Nat -> Nat -> Nat -> Option α} {r : α} (h : p) (h1 : Ev3 f r) : Ev3 (fun k m m2 => bif decide p then f k m m2 else g k m m2) r := Ev3.pos (decide_eq_true h) h1
theorem Ev3.negD {α : Type} {p : Prop} [Decidable p] {f g : Nat -> Nat -> Nat -> Option α} {r : α} (h : ¬ p) (h1 : Ev3 g r) : Ev3 (fun k m m2 => bif decide p then f k m m2 else g k m m2) r := Ev3.neg (decide_eq_false h) h1
theorem Ev3.step {α : Type} {f g : Nat -> Nat -> Nat -> Option α} {r : α} (h : ∀ k m m2, f k m (m2 + 1) = g k m m2) (hg : Ev3 g r) : Ev3 f r := by
 obtain ⟨K, hK⟩ := hg
 refine ⟨K + 1, fun k m m2 hk hm hm2 => ?_⟩
 obtain ⟨j, rfl⟩ : ∃ j, m2 = j + 1 := ⟨m2 - 1, by omega⟩
 exact (h k m j).trans (hK k m j (by omega) (by omega) (by omega))
theorem Ev3.bind {α β : Type} {a : Nat -> Option α} {F : Nat -> Nat -> Nat -> α -> Option β} {x : α} {r : β} (h : Ev1 a x) (hg : Ev3 (fun k m m2 => F k m m2 x) r) : Ev3 (fun k m m2 => (a k).bind (F k m m2)) r := by
 obtain ⟨K, hK⟩ := h
 obtain ⟨L, hL⟩ := hg
 refine ⟨max K L, fun k m m2 hk hm hm2 => ?_⟩
 show (a k).bind (F k m m2) = some r
 rw [hK k (by omega)]
 exact hL k m m2 (by omega) (by omega) (by omega)
theorem Ev2.diag {α : Type} {f : Nat -> Nat -> Option α} {r : α} (h : Ev2 f r) : Ev1 (fun k => f k k) r := by
 obtain ⟨K, hK⟩ := h
 exact ⟨K, fun k hk => hK k k hk hk⟩
theorem Ev3.diag {α : Type} {f : Nat -> Nat -> Nat -> Option α} {r : α} (h : Ev3 f r) : Ev2 (fun k m => f k m k) r := by
 obtain ⟨K, hK⟩ := h
 exact ⟨K, fun k m hk hm => hK k m k hk hm hk⟩
theorem Ev2.drop {α : Type} {f : Nat -> Nat -> Option α} {r : α} (h : Ev2 f r) : Ev3 (fun k m _ => f k m) r := by
 obtain ⟨K, hK⟩ := h
 exact ⟨K, fun k m _ hk hm _ => hK k m hk hm⟩
theorem Ev1.drop {α : Type} {f : Nat -> Option α} {r : α} (h : Ev1 f r) : Ev2 (fun k _ => f k) r := by
 obtain ⟨K, hK⟩ := h
 exact ⟨K, fun k _ hk _ => hK k hk⟩
theorem Ev1.of_rfl {α : Type} {f : Nat -> Option α} {r : α} (K : Nat) (h : ∀ k, f (k + K) = some r) : Ev1 f r := ⟨K, fun k hk => by
 obtain ⟨j, rfl⟩ : ∃ j, k = j + K := ⟨k - K, by omega⟩
 exact h j⟩
theorem Ev1.uniq {α : Type} {f : Nat -> Option α} {r q : α} (h : Ev1 f r) (h' : Ev1 f q) : r = q := by
 obtain ⟨K, hK⟩ := h; obtain ⟨L, hL⟩ := h'
 have h1 := hK (max K L) (Nat.le_max_left _ _); have h2 := hL (max K L) (Nat.le_max_right _ _)
 rw [h1] at h2; exact Option.some.inj h2
theorem inb_true {i : Int} {n : Nat} (h0 : 0 <= i) (h1 : i < n) : inb i n = true := by simp only [inb, Bool.and_eq_true, decide_eq_true_eq]; exact ⟨h0, h1⟩
theorem wnat {i : Nat} (h : i < 9223372036854775807) : w64 ((i : Int) + 1) = ((i + 1 : Nat) : Int) := by rw [w64_eq (by omega) (by omega)]; omega
theorem getD_nat (l : List Int) (i : Nat) (d : Int) (h : i < l.length) : l.getD (Int.toNat (i : Int)) d = l[i] := by
 rw [Int.toNat_natCast, List.getD_eq_getElem?_getD, List.getElem?_eq_getElem h]; rfl
theorem getD_at {α : Type} (l : List α) (i : Nat) (d : α) (h : i < l.length) : l.getD i d = l[i] := by
 rw [List.getD_eq_getElem?_getD, List.getElem?_eq_getElem h]; rfl
theorem w64_id {x : Int} (h : -9223372036854775808 <= x /\ x <= 9223372036854775807) : w64 x = x := w64_eq h.1 (by omega)
def Byt (l : List Int) : Prop := ∀ x ∈ l, 0 <= x /\ x <= 255
theorem Byt.nil : Byt [] := fun _ h => by cases h
theorem Byt.cons {x : Int} {l : List Int} (h : 0 <= x /\ x <= 255) (hl : Byt l) : Byt (x :: l) := fun y hy => by
 rcases List.mem_cons.1 hy with rfl | hy
 ·exact h
 ·exact hl y hy
theorem Byt.append {a b : List Int} (ha : Byt a) (hb : Byt b) : Byt (a ++ b) := fun y hy => (List.mem_append.1 hy).elim (ha y) (hb y)
theorem Byt.tail {x : Int} {l : List Int} (h : Byt (x :: l)) : Byt l := fun y hy => h y (List.mem_cons_of_mem _ hy)
theorem Byt.head {x : Int} {l : List Int} (h : Byt (x :: l)) : 0 <= x /\ x <= 255 := h x List.mem_cons_self
theorem Byt.left {a b : List Int} (h : Byt (a ++ b)) : Byt a := fun y hy => h y (List.mem_append_left _ hy)
theorem Byt.right {a b : List Int} (h : Byt (a ++ b)) : Byt b := fun y hy => h y (List.mem_append_right _ hy)
theorem Byt.take {l : List Int} (h : Byt l) (n : Nat) : Byt (l.take n) := fun y hy => h y (List.mem_of_mem_take hy)
theorem Byt.drop {l : List Int} (h : Byt l) (n : Nat) : Byt (l.drop n) := fun y hy => h y (List.mem_of_mem_drop hy)
def I64 (ns : List Int) : Prop := ∀ x ∈ ns, -9223372036854775808 <= x /\ x <= 9223372036854775807
theorem cond_some {α : Type} (b : Bool) (x y : α) : (bif b then some x else some y) = some (bif b then x else y) := by cases b <;> rfl
theorem cond_iff (b x y : Bool) : ((bif b then x else y) = true) = ((b = true /\ x = true) \/ (b = false /\ y = true)) := by cases b <;> simp
theorem some_iff {x y : Bool} (h : x = true ↔ y = true) : some x = some y := congrArg some (Bool.eq_iff_iff.2 h)
end Go.Eng
namespace Go.Eng
def hLess (a b : Int × Int) : Bool := decide (a.1 < b.1) || (decide (a.1 = b.1) && decide (a.2 < b.2))
def hSwap (l : List (Int × Int)) (i j : Nat) : List (Int × Int) := (l.set i (l.getD j (0, 0))).set j (l.getD i (0, 0))
def hUp : Nat -> List (Int × Int) -> Nat -> List (Int × Int)
 | 0, l, _ => l
 | m + 1, l, j => bif Nat.beq j 0 then l else bif hLess (l.getD j (0, 0)) (l.getD ((j - 1) / 2) (0, 0)) then hUp m (hSwap l ((j - 1) / 2) j) ((j - 1) / 2) else l
def hDown : Nat -> List (Int × Int) -> Nat -> Nat -> List (Int × Int)
 | 0, l, _, _ => l
 | m + 1, l, i, n => bif Nat.ble n (2 * i + 1) then l else
   let j := bif Nat.ble (2 * i + 3) n && hLess (l.getD (2 * i + 2) (0, 0)) (l.getD (2 * i + 1) (0, 0)) then 2 * i + 2 else 2 * i + 1
   bif hLess (l.getD j (0, 0)) (l.getD i (0, 0)) then hDown m (hSwap l i j) j n else l
def hPush (l : List (Int × Int)) (x : Int × Int) : List (Int × Int) := hUp (l.length + 1) (l ++ [x]) l.length
def hPop (l : List (Int × Int)) : List (Int × Int) × (Int × Int) :=
 let l2 := hDown l.length (hSwap l 0 (l.length - 1)) 0 (l.length - 1)
 (l2.take (l.length - 1), l2.getD (l.length - 1) (0, 0))
def hDrain : Nat -> List (Int × Int) -> List Int
 | 0, _ => []
 | m + 1, l => let p := hPop l; p.2.2 :: hDrain m p.1
abbrev KPayX : K := .strct (.prod (.int .i64) (.prod (.int .i64) (.prod (.int .i64) (.prod (.int .i64) (.prod (.int .i64) (.prod (.int .i64) (.prod (.int .i64) (.int .i64))))))))
def duePush : Nat -> List KPayX.T -> List (Int × Int) -> List (Int × Int)
 | _, [], l => l
 | k, p :: r, l => duePush (k + 1) r (bif decide (p.2.2.2.2.2.2.2 = (0 : Int)) then hPush l (p.2.2.2.2.2.2.1, (k : Int)) else l)
def dueAll (ps : List KPayX.T) : List Int := let l := duePush 0 ps []; hDrain l.length l
def usedOf (bs : List (List Int)) : List (Int × Option Nat) -> Int
 | [] => 0
 | e :: r => w64 (((bs.getD (e.2.getD 0) []).length : Int) + usedOf bs r)
def usedX (r : Option Nat) (fs : List (List (Int × Option Nat))) (bs : List (List Int)) : Option (Int × List (List (Int × Option Nat)) × List (List Int)) :=
 match r with
 | some i => bif (fs.getD i []).all (fun e => e.2.isSome) then some (usedOf bs (fs.getD i []), fs, bs) else none
 | none => none
def namesX (r : Option Nat) (fs : List (List (Int × Option Nat))) : Option (List Int × List (List (Int × Option Nat))) :=
 match r with
 | some i => (match fs.getD i [] with | [] => some ([], fs) | _ => none)
 | none => none
def XTop (num due used names : Nat) : Outer := fun sg f args => match sg, args with
 | ⟨[(false, .int .i64)], []⟩, [.val false [.err e]] => bif Nat.beq f num then some (some (e.getD 0)) else none
 | ⟨[(false, .slice (.int .i64))], []⟩, [.val false [.sl k ps]] => bif Nat.beq f due then (match cst k KPayX ps with | some l => (bif Nat.ble l.length 1000000 then some (some (dueAll l)) else none) | none => none) else none
 | ⟨[(false, .int .i64)], [.slice (.slice (.prod (.int .i64) (.ref 219))), .slice (.slice (.int .u8))]⟩, [.val false [.ref 29 r], .val false [.co 1050432 29 0 .mp (.slice (.prod (.int .i64) (.ref 219))) fs], .val false [.co 1062592 219 0 .own (.slice (.int .u8)) bs]] =>
  bif Nat.beq f used then some (usedX r fs bs) else none
 | ⟨[(false, .slice (.int .i64))], [.slice (.slice (.prod (.int .i64) (.ref 219)))]⟩, [.val false [.ref 29 r], .val false [.co 1050432 29 0 .mp (.slice (.prod (.int .i64) (.ref 219))) fs]] =>
  bif Nat.beq f names then some (namesX r fs) else none
 | _, _ => none
end Go.Eng
