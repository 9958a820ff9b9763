/- Accounts that are right, by a plain rule; those of a book, what they are. -/
import Derived.Test.YtckllbdddppbpaaE30
set_option linter.all false
set_option linter.unusedVariables false
set_option linter.unusedSimpArgs false
set_option linter.deprecated false
namespace Go.Eng.LChart
open Go.Eng
/-- Currency, balance, and what is held. -/
abbrev Acc : Type := Int × Int × Int
/-- An account that may stand at place k. -/
def OkAt (k : Nat) (a : Acc) : Prop := 0 ≤ a.1 ∧ a.1 ≤ 2 ∧ -1125899906842624 ≤ a.2.1 ∧ a.2.1 ≤ 1125899906842624 ∧ (k < 9 → a.2.2 = 0 ∧ a.1 = ((k / 3 : Nat) : Int)) ∧ (9 ≤ k → 0 ≤ a.2.2 ∧ a.2.2 ≤ a.2.1)
instance (k : Nat) (a : Acc) : Decidable (OkAt k a) := by unfold OkAt; infer_instance
def okFrom : Nat → List Acc → Bool
  | _, [] => true
  | i, a :: r => decide (OkAt i a) && okFrom (i + 1) r
def rightB (ac : List Acc) : Bool := decide (9 ≤ ac.length) && (decide (ac.length ≤ 64) && okFrom 0 ac)
theorem okFrom_iff : ∀ (l : List Acc) (i : Nat), okFrom i l = true ↔ ∀ (k : Nat) (h : k < l.length), OkAt (i + k) l[k]
  | [], i => by simp [okFrom]
  | a :: r, i => by
    simp only [okFrom, Bool.and_eq_true, decide_eq_true_eq, okFrom_iff r (i + 1)]
    constructor
    · rintro ⟨h0, h⟩ k hk
      rcases k with _ | k
      · exact h0
      · have := h k (by simpa using hk)
        rw [show i + (k + 1) = i + 1 + k by omega]; exact this
    · intro h
      refine ⟨h 0 (by simp), fun k hk => ?_⟩
      have := h (k + 1) (by simpa using hk)
      rw [show i + 1 + k = i + (k + 1) by omega]; exact this
theorem rightB_iff (ac : List Acc) : rightB ac = true ↔ 9 ≤ ac.length ∧ ac.length ≤ 64 ∧ ∀ (k : Nat) (h : k < ac.length), OkAt k ac[k] := by
  unfold rightB
  simp only [Bool.and_eq_true, decide_eq_true_eq, okFrom_iff, Nat.zero_add]

/-! ### a book's -/
def cur (c : Int) (a : Acc) : Int := if a.1 = c then a.2.1 else 0
def sums (c : Int) (ac : List Acc) : Int := (ac.map (cur c)).sum
theorem sums_append (c : Int) (a b : List Acc) : sums c (a ++ b) = sums c a + sums c b := by unfold sums; simp
theorem sums_set (c : Int) : ∀ (l : List Acc) (k : Nat) (x : Acc) (h : k < l.length), sums c (l.set k x) = sums c l - cur c l[k] + cur c x
  | [], k, x, h => by simp at h
  | a :: l, 0, x, h => by simp [sums]; omega
  | a :: l, k + 1, x, h => by
    have := sums_set c l k x (by simpa using h)
    simp only [sums, List.set_cons_succ, List.map_cons, List.sum_cons, List.getElem_cons_succ] at this ⊢
    omega
/-- What is told of a book's accounts, i of them clients'. -/
structure Book (i : Nat) (ac : List Acc) : Prop where
  len : ac.length = 9 + i
  ok : ∀ (k : Nat) (h : k < ac.length), OkAt k ac[k]
  low : ∀ (k : Nat) (h : k < ac.length), -(100000 * (i : Int)) ≤ ac[k].2.1 ∧ ac[k].2.1 ≤ 100000
  sum : ∀ c, sums c ac = 0
theorem Book.right {i : Nat} {ac : List Acc} (h : Book i ac) (hi : i ≤ 8) : rightB ac = true := (rightB_iff ac).2 ⟨by have := h.len; omega, by have := h.len; omega, h.ok⟩

def house (i : Nat) : List Acc := (List.range 9).map fun j => ((if j < i then ((j / 3 : Nat) : Int) else 0, 0, 0) : Acc)
theorem house_set (i : Nat) (h : i < 9) : (house i).set i (((i / 3 : Nat) : Int), ((house i).getD i (0, 0, 0)).2) = house (i + 1) := by
  have : i = 0 ∨ i = 1 ∨ i = 2 ∨ i = 3 ∨ i = 4 ∨ i = 5 ∨ i = 6 ∨ i = 7 ∨ i = 8 := by omega
  rcases this with rfl | rfl | rfl | rfl | rfl | rfl | rfl | rfl | rfl <;> rfl
theorem house_len (i : Nat) : (house i).length = 9 := by simp [house]
theorem house_book : Book 0 (house 9) := by
  refine ⟨house_len 9, ?_, ?_, ?_⟩
  · intro k hk
    rw [house_len] at hk
    have : k = 0 ∨ k = 1 ∨ k = 2 ∨ k = 3 ∨ k = 4 ∨ k = 5 ∨ k = 6 ∨ k = 7 ∨ k = 8 := by omega
    rcases this with rfl | rfl | rfl | rfl | rfl | rfl | rfl | rfl | rfl <;> exact of_decide_eq_true rfl
  · intro k hk
    rw [house_len] at hk
    have : k = 0 ∨ k = 1 ∨ k = 2 ∨ k = 3 ∨ k = 4 ∨ k = 5 ∨ k = 6 ∨ k = 7 ∨ k = 8 := by omega
    rcases this with rfl | rfl | rfl | rfl | rfl | rfl | rfl | rfl | rfl <;> exact ⟨of_decide_eq_true rfl, of_decide_eq_true rfl⟩
  · intro c
    simp [sums, house, cur, List.range, List.range.loop]
/-- A client more, with what the house's World gives. -/
theorem book_more {i : Nat} {ac : List Acc} (h : Book i ac) (c : Nat) (hc : c < 3) (b d : Int) (hb : 0 ≤ b ∧ b ≤ 99999) (hd : 0 ≤ d ∧ d ≤ b) (hk : 3 * c < ac.length) (hi : i < 8) :
    Book (i + 1) (ac.set (3 * c) ((ac[3 * c].1, ac[3 * c].2.1 - b, ac[3 * c].2.2) : Acc) ++ [(((c : Int), b, d) : Acc)]) := by
  have hl := h.len
  have h0 := (h.ok (3 * c) hk).2.2.2.2.1 (by omega)
  have h0c : ac[3 * c].1 = (c : Int) := by rw [h0.2]; omega
  have hlow := h.low (3 * c) hk
  refine ⟨by simp; omega, ?_, ?_, ?_⟩
  · intro k hkl
    simp only [List.length_append, List.length_set, List.length_singleton] at hkl
    by_cases hlt : k < ac.length
    · rw [List.getElem_append_left (by simpa using hlt)]
      by_cases he : 3 * c = k
      · subst he
        rw [List.getElem_set_self]
        exact ⟨by show 0 ≤ ac[3 * c].1; omega, by show ac[3 * c].1 ≤ 2; omega, by show -1125899906842624 ≤ ac[3 * c].2.1 - b; omega, by show ac[3 * c].2.1 - b ≤ 1125899906842624; omega, fun _ => h0, fun q => by omega⟩
      · rw [List.getElem_set_ne he]; exact h.ok k hlt
    · rw [List.getElem_append_right (by simpa using hlt)]
      have e : k - (ac.set (3 * c) ((ac[3 * c].1, ac[3 * c].2.1 - b, ac[3 * c].2.2) : Acc)).length = 0 := by simp; omega
      simp only [e, List.getElem_cons_zero]
      exact ⟨by show (0 : Int) ≤ c; omega, by show (c : Int) ≤ 2; omega, by show -1125899906842624 ≤ b; omega, by show b ≤ 1125899906842624; omega, fun q => by omega, fun _ => hd⟩
  · intro k hkl
    simp only [List.length_append, List.length_set, List.length_singleton] at hkl
    by_cases hlt : k < ac.length
    · rw [List.getElem_append_left (by simpa using hlt)]
      by_cases he : 3 * c = k
      · subst he
        rw [List.getElem_set_self]
        show -(100000 * ((i + 1 : Nat) : Int)) ≤ ac[3 * c].2.1 - b ∧ ac[3 * c].2.1 - b ≤ 100000
        omega
      · rw [List.getElem_set_ne he]; have := h.low k hlt; omega
    · rw [List.getElem_append_right (by simpa using hlt)]
      have e : k - (ac.set (3 * c) ((ac[3 * c].1, ac[3 * c].2.1 - b, ac[3 * c].2.2) : Acc)).length = 0 := by simp; omega
      simp only [e, List.getElem_cons_zero]
      show -(100000 * ((i + 1 : Nat) : Int)) ≤ b ∧ b ≤ 100000
      omega
  · intro c'
    rw [sums_append, sums_set c' ac (3 * c) _ hk, h.sum c']
    simp only [sums, List.map_cons, List.map_nil, List.sum_cons, List.sum_nil, cur, h0c]
    split <;> omega
/-! ### currencies' sums, with the machine's wrapping -/
def addW (a : Acc) (s : Int × Int × Int) : Int × Int × Int :=
  if a.1 = 0 then (w64 (s.1 + a.2.1), s.2.1, s.2.2) else if a.1 = 1 then (s.1, w64 (s.2.1 + a.2.1), s.2.2) else if a.1 = 2 then (s.1, s.2.1, w64 (s.2.2 + a.2.1)) else s
def sumW : List Acc → Int × Int × Int → Int × Int × Int
  | [], s => s
  | a :: r, s => sumW r (addW a s)
theorem addW_in {a : Acc} {x y z e3 : Int} (h0 : 0 ≤ a.1) (h3 : a.1 < 3) (he : e3 = w64 (selInt a.1 [x, y, z] + a.2.1)) :
    ((bif decide (a.1 = 0) then e3 else x), (bif decide (a.1 = 1) then e3 else y), (bif decide (a.1 = 2) then e3 else z)) = addW a (x, y, z) := by
  obtain ⟨c, b, d⟩ := a
  subst he
  rcases (by dsimp only at h0 h3; omega : c = 0 ∨ c = 1 ∨ c = 2) with rfl | rfl | rfl <;> rfl
theorem addW_out {a : Acc} {s : Int × Int × Int} (h : ¬ (0 ≤ a.1 ∧ a.1 < 3)) : addW a s = s := by
  unfold addW
  rw [if_neg (by omega), if_neg (by omega), if_neg (by omega)]
theorem cur_abs (c B : Int) (a : Acc) (h : -B ≤ a.2.1 ∧ a.2.1 ≤ B) : -B ≤ cur c a ∧ cur c a ≤ B := by unfold cur; split <;> omega
theorem sumW_small (B : Int) (hB : 0 ≤ B) : ∀ (l : List Acc) (x y z M : Int), (∀ a ∈ l, -B ≤ a.2.1 ∧ a.2.1 ≤ B) → (-M ≤ x ∧ x ≤ M) → (-M ≤ y ∧ y ≤ M) → (-M ≤ z ∧ z ≤ M) → M + l.length * B ≤ 4611686018427387904 →
    sumW l (x, y, z) = (x + sums 0 l, y + sums 1 l, z + sums 2 l)
  | [], x, y, z, M, _, _, _, _, _ => by simp [sumW, sums]
  | a :: l, x, y, z, M, h, hx, hy, hz, hM => by
    have ha := h a (by simp)
    simp only [List.length_cons] at hM
    have e : ((l.length + 1 : Nat) : Int) * B = l.length * B + B := by rw [Int.natCast_add, Int.add_mul]; simp
    rw [e] at hM
    have hlB : 0 ≤ (l.length : Int) * B := Int.mul_nonneg (by omega) hB
    have w : ∀ s : Int, -M ≤ s ∧ s ≤ M → w64 (s + a.2.1) = s + a.2.1 := fun s hs => w64_id (by omega)
    have go := fun (x y z : Int) (hx : -(M + B) ≤ x ∧ x ≤ M + B) (hy : -(M + B) ≤ y ∧ y ≤ M + B) (hz : -(M + B) ≤ z ∧ z ≤ M + B) => sumW_small B hB l x y z (M + B) (fun b hb => h b (by simp [hb])) hx hy hz (by omega)
    have hs : ∀ c, sums c (a :: l) = cur c a + sums c l := fun c => by simp [sums]
    rw [hs 0, hs 1, hs 2]
    unfold sumW addW
    unfold cur
    by_cases h0 : a.1 = 0
    · rw [if_pos h0]; dsimp only; rw [w x hx, go _ _ _ (by omega) (by omega) (by omega), h0]
      simp [Int.add_assoc]
    · rw [if_neg h0]
      by_cases h1 : a.1 = 1
      · rw [if_pos h1]; dsimp only; rw [w y hy, go _ _ _ (by omega) (by omega) (by omega), h1]
        simp [Int.add_assoc]
      · rw [if_neg h1]
        by_cases h2 : a.1 = 2
        · rw [if_pos h2]; dsimp only; rw [w z hz, go _ _ _ (by omega) (by omega) (by omega), h2]
          simp [Int.add_assoc]
        · rw [if_neg h2, go _ _ _ (by omega) (by omega) (by omega), if_neg h0, if_neg h1, if_neg h2]
          simp
theorem book_sums {i : Nat} {ac : List Acc} (h : Book i ac) (hi : i ≤ 8) : sumW ac (0, 0, 0) = (0, 0, 0) := by
  have hl := h.len
  rw [sumW_small 900000 (by omega) ac 0 0 0 0 (fun a ha => ?_) (by omega) (by omega) (by omega) (by omega), h.sum, h.sum, h.sum]
  · rfl
  · obtain ⟨k, hk, rfl⟩ := List.getElem_of_mem ha
    have := h.low k hk
    omega
end Go.Eng.LChart
