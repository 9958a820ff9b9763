/- money's functions: what they come to, by plain rules. No conditions. -/
import Derived.Test.YtckllbdddppbpaaPEnbQ
set_option linter.all false
set_option linter.unusedVariables false
set_option linter.unusedSimpArgs false
set_option linter.deprecated false
namespace Go.Eng.Enb
open Go.RowKit Go.Eng
set_option maxRecDepth 100000
abbrev sBo : Sig := ⟨[(false, .bool)], []⟩
abbrev sIn : Sig := ⟨[(false, .int .i64)], []⟩
abbrev I : K := .int .i64
abbrev sCv : Sig := ⟨[(false, .int .i64), (false, .int .i64), (false, .err)], []⟩
abbrev sAd : Sig := ⟨[(false, .int .i64), (false, .err)], []⟩
theorem amount_eq (k : Nat) (n : Int) : CF (k + 1) sBo n_money_Amount [inj I n] = some (decide (1 ≤ n ∧ n ≤ 1099511627776)) := by
  refine (f_money_Amount k n).trans ?_
  by_cases h : 1 ≤ n
  · rw [decide_eq_true h, cond_true]; exact congrArg some (decide_eq_decide.2 (by omega))
  · rw [decide_eq_false h, cond_false, decide_eq_false (by omega)]
abbrev okM (n : Int) : Prop := -1125899906842624 ≤ n ∧ n ≤ 1125899906842624
theorem maym_eq (k : Nat) (n : Int) : CF (k + 1) sBo n_money_May [inj I n] = some (decide (okM n)) := by
  refine (f_money_May k n).trans ?_
  by_cases h : -1125899906842624 ≤ n
  · rw [decide_eq_true h, cond_true]; exact congrArg some (decide_eq_decide.2 (by unfold okM; omega))
  · rw [decide_eq_false h, cond_false, decide_eq_false (by unfold okM; omega)]
/-- Two balances together. -/
def addV (a b : Int) : Int × Option Int := if okM a ∧ okM b ∧ okM (a + b) then (a + b, none) else (0, some 4)
theorem add_eq (k : Nat) (a b : Int) : CF (k + 2) sAd n_money_Add [inj I a, inj I b] = some (addV a b) := by
  refine (f_money_Add (k + 1) a b).trans ?_
  unfold addV
  refine bindE (maym_eq k a) ?_
  by_cases h1 : okM a
  · rw [decide_eq_true h1]
    refine bindE (maym_eq k b) ?_
    by_cases h2 : okM b
    · rw [decide_eq_true h2]
      have hw : w64 (a + b) = a + b := w64_id (by unfold okM at h1 h2; omega)
      show ((CF (k + 1) sBo n_money_May [inj I (w64 (a + b))]).bind _ : Option (Int × Option Int)) = _
      rw [hw]
      refine bindE (maym_eq k (a + b)) ?_
      by_cases h3 : okM (a + b)
      · rw [decide_eq_true h3, if_pos ⟨h1, h2, h3⟩]; rfl
      · rw [decide_eq_false h3, if_neg (fun h => h3 h.2.2)]; rfl
    · rw [decide_eq_false h2, if_neg (fun h => h2 h.2.1)]; rfl
  · rw [decide_eq_false h1, if_neg (fun h => h1 h.1)]; rfl
theorem add_ev (a b : Int) : Ev1 (fun k => CF k sAd n_money_Add [inj I a, inj I b]) (addV a b) := Ev1.of_rfl 2 (fun k => add_eq k a b)
/-- A rate that may be. -/
abbrev okR (num den : Int) : Prop := 1 ≤ num ∧ num ≤ 1024 ∧ 1 ≤ den ∧ den ≤ 1024
theorem right_eq (k : Nat) (num den : Int) : CF (k + 1) sBo n_money_Rate_right [inj (.strct (.prod (.int .i64) (.int .i64))) (num, den)] = some (decide (okR num den)) := by
  refine (f_money_Rate_right k (num, den)).trans ?_
  simp only [cond_some]
  refine some_iff ?_
  simp only [cond_iff, decide_eq_true_eq, decide_eq_false_iff_not, Bool.false_eq_true, and_false, or_false]
def convV (n num den : Int) : Int × Int × Option Int :=
  if (1 ≤ n ∧ n ≤ 1099511627776) ∧ okR num den then (if 1099511627776 < n * num / den then (0, 0, some 4) else (n * num / den, n * num % den, none)) else (0, 0, some 13)
theorem convert_eq (k : Nat) (n num den : Int) : CF (k + 2) sCv n_money_Convert [inj I n, inj (.strct (.prod (.int .i64) (.int .i64))) (num, den)] = some (convV n num den) := by
  refine (f_money_Convert (k + 1) n (num, den) _ rfl _ rfl).trans (bindE (amount_eq k n) ?_)
  unfold convV
  by_cases h1 : 1 ≤ n ∧ n ≤ 1099511627776
  · rw [decide_eq_true h1]
    refine bindE (right_eq k num den) ?_
    by_cases h2 : okR num den
    · rw [decide_eq_true h2, if_pos ⟨h1, h2⟩]
      obtain ⟨r1, r2, r3, r4⟩ := h2
      have hp0 : 0 ≤ n * num := Int.mul_nonneg (by omega) (by omega)
      have hp1 : n * num ≤ 1099511627776 * 1024 := Int.mul_le_mul h1.2 r2 (by omega) (by omega)
      have hq0 : 0 ≤ n * num / den := Int.ediv_nonneg hp0 (by omega)
      have hq1 : n * num / den ≤ n * num := Int.ediv_le_self _ hp0
      have e1 : w64 (n * num) = n * num := w64_id (by omega)
      dsimp only
      rw [e1, Int.tdiv_eq_ediv_of_nonneg hp0, Int.tmod_eq_emod_of_nonneg hp0, w64_id (x := n * num / den) (by omega), decide_eq_false (show ¬ den = 0 by omega)]
      by_cases h3 : 1099511627776 < n * num / den
      · rw [decide_eq_true h3, if_pos h3]; rfl
      · rw [decide_eq_false h3, if_neg h3]; rfl
    · rw [decide_eq_false h2, if_neg (fun h => h2 h.2)]; rfl
  · rw [decide_eq_false h1, if_neg (fun h => h1 h.1)]; rfl
theorem convert_ev (n num den : Int) : Ev1 (fun k => CF k sCv n_money_Convert [inj I n, inj (.strct (.prod (.int .i64) (.int .i64))) (num, den)]) (convV n num den) := Ev1.of_rfl 2 (fun k => convert_eq k n num den)
theorem convV_cases (n p q : Int) (h : okR p q) : (convV n p q = (0, 0, some 13) ∧ ¬ (1 ≤ n ∧ n ≤ 1099511627776)) ∨ (convV n p q = (0, 0, some 4) ∧ (1 ≤ n ∧ n ≤ 1099511627776) ∧ 1099511627776 < n * p / q) ∨
    (convV n p q = (n * p / q, n * p % q, none) ∧ (1 ≤ n ∧ n ≤ 1099511627776) ∧ n * p / q ≤ 1099511627776 ∧ 0 ≤ n * p / q) := by
  unfold convV
  by_cases hn : 1 ≤ n ∧ n ≤ 1099511627776
  · rw [if_pos ⟨hn, h⟩]
    by_cases ho : 1099511627776 < n * p / q
    · rw [if_pos ho]; exact .inr (.inl ⟨rfl, hn, ho⟩)
    · rw [if_neg ho]
      exact .inr (.inr ⟨rfl, hn, by omega, Int.ediv_nonneg (Int.mul_nonneg (by omega) (by unfold okR at h; omega)) (by unfold okR at h; omega)⟩)
  · rw [if_neg (fun q => hn q.1)]; exact .inl ⟨rfl, hn⟩
end Go.Eng.Enb
