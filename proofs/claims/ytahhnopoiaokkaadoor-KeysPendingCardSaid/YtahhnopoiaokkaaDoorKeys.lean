/- Lemmas of this session: what keys.Find, keys.Open, keys.Put and keys.Ask compute; the chapter's examples. -/
import Derived.Test.YtahhnopoiaokkaaDoorWEv
import Derived.Test.YtahhnopoiaokkaaDoorPAllx4
import Derived.Test.YtahhnopoiaokkaaDoorPAllx10
import Derived.Test.YtahhnopoiaokkaaDoorPAllx6
import Derived.Test.YtahhnopoiaokkaaDoorPAllx4
import Derived.Test.YtahhnopoiaokkaaDoorPAllx5
import Derived.Test.YtahhnopoiaokkaaDoorPAllx7
namespace Go.Proofs.YtahhnopoiaokkaaDoor.KeysL
set_option linter.unusedVariables false
set_option linter.unusedSimpArgs false
open Go.RowKit Go.Proofs.YtahhnopoiaokkaaDoor.PAll Go.Proofs.YtahhnopoiaokkaaDoorW.PrintWords Go.Proofs.YtahhnopoiaokkaaDoorW.PrintMore Go.Proofs.YtahhnopoiaokkaaDoorW.EvL

/-- What is known of a key. -/
abbrev Kn := S39
theorem rdT (l : List Kn) (i : Nat) (h : i < l.length) : rd_T39 l (i : Int) = l[i] := by
  unfold rd_T39; rw [Int.toNat_natCast, List.getD_eq_getElem?_getD, List.getElem?_eq_getElem h]; rfl
theorem dropC {α : Type} {l : List α} {i : Nat} (h : i < l.length) : l.drop i = l[i] :: l.drop (i + 1) := List.drop_eq_getElem_cons h
/-- A key's place, from i on; -1 of none. -/
def findB (key : Int) : List Kn → Int → Int
  | [], _ => -1
  | x :: xs, i => if x.f0.f0 = key then i else findB key xs (i + 1)
theorem find_l0 (l : List Kn) (hl : l.length ≤ 9223372036854775000) (key : Int) : ∀ (d i : Nat), i + d = l.length → Ev (fun k => keys_Find.l0 k key l (l.length : Int) (i : Int)) (findB key (l.drop i) (i : Int))
  | 0, i, h => by
    refine Ev.step (fun k => rfl) ?_
    simp only [keys_Find.l0]
    rw [List.drop_eq_nil_of_le (by omega)]
    exact evElse (by omega) (Ev.now _)
  | d + 1, i, h => by
    refine Ev.step (fun k => rfl) ?_
    simp only [keys_Find.l0]
    refine evIf (by omega) (evIf (by omega) (evIf (by omega) ?_))
    rw [rdT l i (by omega), dropC (by omega : i < l.length)]
    by_cases hk : l[i].f0.f0 = key
    · have e : findB key (l[i] :: l.drop (i + 1)) (i : Int) = (i : Int) := by show (if _ then _ else _) = _; rw [if_pos hk]
      rw [e]; exact evIf hk (Ev.now _)
    · have e : findB key (l[i] :: l.drop (i + 1)) (i : Int) = findB key (l.drop (i + 1)) ((i + 1 : Nat) : Int) := by show (if _ then _ else _) = _; rw [if_neg hk]; rfl
      rw [e]
      refine evElse hk ?_
      rw [w64 (by omega) (by omega)]
      exact find_l0 l hl key d (i + 1) (by omega)
theorem find_ev (l : List Kn) (hl : l.length ≤ 9223372036854775000) (key : Int) : Ev (fun k => keys_Find.f k l key) (findB key l 0) := find_l0 l hl key l.length 0 (by omega)
theorem find_ge (key : Int) : ∀ (l : List Kn) (i : Int), 0 ≤ i → findB key l i = -1 ∨ i ≤ findB key l i ∧ findB key l i < i + l.length
  | [], i, h => .inl rfl
  | x :: xs, i, h => by
    show (if _ then _ else _) = _ ∨ _ ≤ (if _ then _ else _) ∧ (if _ then _ else _) < _
    by_cases hk : x.f0.f0 = key
    · rw [if_pos hk]; right; simp only [List.length_cons]; omega
    · rw [if_neg hk]
      rcases find_ge key xs (i + 1) (by omega) with h1 | h1
      · left; exact h1
      · right; simp only [List.length_cons]; omega
theorem find_snoc (key : Int) (y : Kn) : ∀ (l : List Kn) (i : Int), 0 ≤ i → findB key (l ++ [y]) i = if findB key l i = -1 then (if y.f0.f0 = key then i + l.length else -1) else findB key l i
  | [], i, h => by
    show (if _ then _ else _) = _
    rw [if_pos (show findB key [] i = -1 from rfl)]
    by_cases hk : y.f0.f0 = key
    · rw [if_pos hk, if_pos hk]; simp
    · rw [if_neg hk, if_neg hk]; rfl
  | x :: xs, i, h => by
    have ih := find_snoc key y xs (i + 1) (by omega)
    by_cases hk : x.f0.f0 = key
    · have e : findB key (x :: xs) i = i := by show (if _ then _ else _) = _; rw [if_pos hk]
      have e' : findB key (x :: xs ++ [y]) i = i := by show (if _ then _ else _) = _; rw [if_pos hk]
      rw [e', e, if_neg (by omega)]
    · have e : findB key (x :: xs) i = findB key xs (i + 1) := by show (if _ then _ else _) = _; rw [if_neg hk]
      have e' : findB key (x :: xs ++ [y]) i = findB key (xs ++ [y]) (i + 1) := by show (if _ then _ else _) = _; rw [if_neg hk]; rfl
      rw [e', e, ih]
      split
      · split
        · simp only [List.length_cons]; omega
        · rfl
      · rfl

/-- The keys that were not told, in order. -/
def openB : List Kn → List Int
  | [] => []
  | x :: xs => if x.f2 = true then openB xs else x.f0.f0 :: openB xs
theorem open_snoc (y : Kn) : ∀ l : List Kn, openB (l ++ [y]) = openB l ++ (if y.f2 = true then [] else [y.f0.f0])
  | [] => by show (if _ then _ else _) = _; split <;> rfl
  | x :: xs => by
    have ih := open_snoc y xs
    show (if _ then _ else _) = (if _ then _ else _) ++ _
    by_cases h : x.f2 = true
    · rw [if_pos h, if_pos h]; exact ih
    · rw [if_neg h, if_neg h]; exact congrArg (x.f0.f0 :: ·) ih
theorem open_len : ∀ l : List Kn, (openB l).length ≤ l.length
  | [] => Nat.le_refl _
  | x :: xs => by
    show (if _ then _ else _ : List Int).length ≤ _
    have := open_len xs
    split <;> simp only [List.length_cons] <;> omega
theorem open_l0 (l : List Kn) (hl : l.length ≤ 17592186044415) : ∀ (d i : Nat) (acc : List Int), i + d = l.length → acc.length ≤ i → Ev (fun k => keys_Open.l0 k acc l (l.length : Int) (i : Int)) (acc ++ openB (l.drop i))
  | 0, i, acc, h, ha => by
    refine Ev.step (fun k => rfl) ?_
    simp only [keys_Open.l0]
    rw [List.drop_eq_nil_of_le (by omega), show openB [] = [] from rfl, List.append_nil]
    exact evElse (by omega) (Ev.now _)
  | d + 1, i, acc, h, ha => by
    refine Ev.step (fun k => rfl) ?_
    simp only [keys_Open.l0]
    refine evIf (by omega) (evIf (by omega) (evIf (by omega) ?_))
    rw [rdT l i (by omega), dropC (by omega : i < l.length), w64 (by omega) (by omega)]
    by_cases hk : l[i].f2 = true
    · have e : openB (l[i] :: l.drop (i + 1)) = openB (l.drop (i + 1)) := by show (if _ then _ else _) = _; rw [if_pos hk]
      rw [e]; exact evIf hk (open_l0 l hl d (i + 1) acc (by omega) (by omega))
    · have e : openB (l[i] :: l.drop (i + 1)) = l[i].f0.f0 :: openB (l.drop (i + 1)) := by show (if _ then _ else _) = _; rw [if_neg hk]
      rw [e, show acc ++ l[i].f0.f0 :: openB (l.drop (i + 1)) = (acc ++ [l[i].f0.f0]) ++ openB (l.drop (i + 1)) by simp]
      exact evElse hk (evIf (by omega) (open_l0 l hl d (i + 1) _ (by omega) (by simp; omega)))
theorem open_ev (l : List Kn) (hl : l.length ≤ 17592186044415) : Ev (fun k => keys_Open.f k l) (openB l) := open_l0 l hl l.length 0 [] (by omega) (by simp)

/-- What keys.Put answers. -/
def putB (l : List Kn) (a b c d e f g : Int) : List Kn × Option Int :=
  if findB a l 0 ≥ 0 then ([], some 5) else if (l.length : Int) ≥ 256 then ([], some 7) else (l ++ [⟨⟨a, b, c, d, e, f, g⟩, ⟨0, 0⟩, false⟩], none)
theorem put_ev (l : List Kn) (hl : l.length ≤ 9223372036854775000) (a b c d e f g : Int) : Ev (fun k => keys_Put.f k l a b c d e f g) (putB l a b c d e f g) := by
  have hp : putB l a b c d e f g = if findB a l 0 ≥ 0 then ([], some 5) else if (l.length : Int) ≥ 256 then ([], some 7) else (l ++ [⟨⟨a, b, c, d, e, f, g⟩, ⟨0, 0⟩, false⟩], none) := rfl
  rw [hp]
  unfold keys_Put.f
  refine Ev.bind (find_ev l hl a) ?_
  by_cases h1 : findB a l 0 ≥ 0
  · refine evIf h1 ?_; rw [if_pos h1]; exact Ev.now _
  refine evElse h1 ?_
  rw [if_neg h1]
  by_cases h2 : (l.length : Int) ≥ 256
  · refine evIf h2 ?_; rw [if_pos h2]; exact Ev.now _
  refine evElse h2 ?_
  rw [if_neg h2]
  refine (evIf (by simp; omega) ?_)
  refine evBind1 rfl (evBind1 rfl (evIf (by simp; omega) ?_))
  exact Ev.now _
theorem ask_new (l : List Kn) (hl : l.length < 256) (a b c d e f g : Int) (hf : findB a l 0 = -1) : Ev (fun k => keys_Ask.f k (l ++ [⟨⟨a, b, c, d, e, f, g⟩, ⟨0, 0⟩, false⟩]) a b c d e f g) (10, 0, true) := by
  have e1 : findB a (l ++ [(⟨⟨a, b, c, d, e, f, g⟩, ⟨0, 0⟩, false⟩ : Kn)]) 0 = (l.length : Int) := by
    rw [find_snoc _ _ _ _ (by omega), if_pos hf, if_pos rfl]; omega
  have er : rd_T39 (l ++ [(⟨⟨a, b, c, d, e, f, g⟩, ⟨0, 0⟩, false⟩ : Kn)]) (l.length : Int) = ⟨⟨a, b, c, d, e, f, g⟩, ⟨0, 0⟩, false⟩ := by
    rw [rdT _ l.length (by simp)]; simp
  unfold keys_Ask.f
  refine Ev.bind (find_ev _ (by simp; omega) a) ?_
  rw [e1, er]
  refine evElse (by omega) (evIf (by omega) (evIf (by simp; omega) (evElse (by simp) (evElse (by simp) (Ev.now _)))))
theorem awake11_ev : Ev (fun k => hawalalaw11_awake.f k) true := Ev.of hawalalaw11_awake.mono (k := 60) (by kernel_rfl)
end Go.Proofs.YtahhnopoiaokkaaDoor.KeysL
