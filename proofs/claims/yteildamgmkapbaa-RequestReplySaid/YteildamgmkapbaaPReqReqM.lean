/- Requests: which may be, by a plain rule; a request by numbers; its bytes. Conditions: lengths that a machine has. -/
import Derived.Test.YteildamgmkapbaaPReqVar
set_option linter.all false
set_option linter.unusedVariables false
set_option linter.unusedSimpArgs false
set_option linter.deprecated false
namespace Go.Eng.Req
open Go.RowKit Go.Eng Go.Eng.LVar
abbrev sBo : Sig := ⟨[(false, .bool)], []⟩
abbrev I : K := .int .i64
theorem amount_eq (k : Nat) (n : Int) : CF (k + 1) sBo n_money_Amount [inj I n] = some (decide (1 ≤ n ∧ n ≤ 1099511627776)) := by
  refine (f_money_Amount k n).trans ?_
  by_cases h : 1 ≤ n
  · rw [decide_eq_true h, cond_true]; exact congrArg some (decide_eq_decide.2 (by omega))
  · rw [decide_eq_false h, cond_false, decide_eq_false (by omega)]
/-- What a request's op asks for. -/
def opB (op a n : Int) : Bool := decide (op = 0 ∧ 0 ≤ a ∧ a < 3 ∨ op = 5 ∨ (op = 1 ∨ op = 2 ∨ op = 3 ∨ op = 4 ∨ op = 6 ∨ op = 7) ∧ 1 ≤ n ∧ n ≤ 1099511627776)
def mayB (key op a n legs till : Int) : Bool := decide (0 ≤ key ∧ key < 1073741824 ∧ 0 ≤ legs ∧ legs ≤ 4 ∧ 0 ≤ till ∧ till ≤ 1073741824 ∧ (legs ≤ 0 ∨ op = 2)) && opB op a n
abbrev rq (key op a b n legs till : Int) : TRequest := (key, op, a, b, n, legs, till)
theorem dec_iff {p : Prop} [Decidable p] {b : Bool} (h : b = true ↔ p) : b = decide p := by
  cases b with
  | true => exact (decide_eq_true (h.1 rfl)).symm
  | false => exact (decide_eq_false (fun q => by cases h.2 q)).symm
set_option maxHeartbeats 4000000 in
theorem opB_dec (op a n : Int) : (bif decide (op = 0) then (bif decide (0 ≤ a) then some (decide (a < 3)) else some false) else (bif decide (op = 5) then some true else
   (bif decide (op = 1) then (bif decide (op = 1) then some (decide (1 ≤ n ∧ n ≤ 1099511627776)) else some false) else
   (bif decide (op = 2) then (bif decide (op = 2) then some (decide (1 ≤ n ∧ n ≤ 1099511627776)) else some false) else
   (bif decide (op = 3) then (bif decide (op = 3) then some (decide (1 ≤ n ∧ n ≤ 1099511627776)) else some false) else
   (bif decide (op = 4) then (bif decide (op = 4) then some (decide (1 ≤ n ∧ n ≤ 1099511627776)) else some false) else
   (bif decide (op = 6) then (bif decide (op = 6) then some (decide (1 ≤ n ∧ n ≤ 1099511627776)) else some false) else
   (bif decide (op = 7) then some (decide (1 ≤ n ∧ n ≤ 1099511627776)) else some false)))))))) = some (opB op a n) := by
  unfold opB
  simp only [Bool.cond_decide]
  repeat' split
  all_goals
    refine congrArg some (dec_iff ?_)
    simp only [decide_eq_true_eq, Bool.false_eq_true, true_iff, false_iff]
    omega
theorem may_eq (k : Nat) (key op a b n legs till : Int) : CF (k + 2) sBo n_request_May [inj KRequest (rq key op a b n legs till)] = some (mayB key op a n legs till) := by
  refine (f_request_May (k + 1) (rq key op a b n legs till)).trans ?_
  have hb := amount_eq k n
  dsimp only [rq]
  simp only [hb, Option.bind_some]
  rw [opB_dec]
  unfold mayB
  generalize opB op a n = B
  simp only [Bool.cond_decide, Bool.cond_not]
  repeat' split
  all_goals first
  | (rw [decide_eq_false (by omega)] <;> rfl)
  | (rw [decide_eq_true (by omega)] <;> rfl)
theorem bytes_ev (r : TRequest) (h : I64 [r.1, r.2.1, r.2.2.1, r.2.2.2.1, r.2.2.2.2.1, r.2.2.2.2.2.1, r.2.2.2.2.2.2]) : Ev1 (fun k => CF k sBy n_request_Bytes [inj KRequest r]) (encs [r.1, r.2.1, r.2.2.1, r.2.2.2.1, r.2.2.2.2.1, r.2.2.2.2.2.1, r.2.2.2.2.2.2]) := by
  refine Ev1.step (fun k => f_request_Bytes k r) ?_
  refine Ev1.bind (Ev1.step (fun k => f_request_numbers k r) (Ev1.now _)) ?_
  exact Ev1.bind (all_ev _ h (by simp)) (Ev1.now _)
/-- A request by numbers. -/
structure Asked (r : TRequest) : Prop where
  may : mayB r.1 r.2.1 r.2.2.1 r.2.2.2.2.1 r.2.2.2.2.2.1 r.2.2.2.2.2.2 = true
  legs : (r.2.1 : Int) ≠ 2 → (r.2.2.2.2.2.1 : Int) = 0
  key : (0 : Int) ≤ r.1 ∧ (r.1 : Int) ≤ 255
  range : I64 [r.1, r.2.1, r.2.2.1, r.2.2.2.1, r.2.2.2.2.1, r.2.2.2.2.2.1, r.2.2.2.2.2.2]
set_option maxHeartbeats 4000000 in
theorem ask_ev (a0 a1 a2 a3 a4 a5 a6 : Int) (h0 : 0 ≤ a0 ∧ a0 ≤ 255) (h1 : 0 ≤ a1 ∧ a1 ≤ 255) (h2 : 0 ≤ a2 ∧ a2 ≤ 255) (h3 : 0 ≤ a3 ∧ a3 ≤ 255) (h4 : 0 ≤ a4 ∧ a4 ≤ 65535) (h5 : 0 ≤ a5 ∧ a5 ≤ 255) (h6 : 0 ≤ a6 ∧ a6 ≤ 255) :
    ∃ op a b n legs till, (∀ k, CF (k + 1) ⟨[(false, KRequest)], []⟩ n_law10_Ask_Request [inj KAsk (a0, a1, a2, a3, a4, a5, a6)] = some (rq a0 op a b n legs till)) ∧ Asked (rq a0 op a b n legs till) ∧ op = a1 % 8 := by
  have tm : ∀ (x m : Int), 0 ≤ x ∧ x ≤ 65535 → 0 < m ∧ m ≤ 65535 → w64 (Int.tmod x m) = x % m := by
    intro x m hx hm
    have q1 : 0 ≤ x % m := Int.emod_nonneg _ (by omega)
    have q2 : x % m < m := Int.emod_lt_of_pos _ hm.1
    rw [Int.tmod_eq_emod_of_nonneg hx.1, w64_id (by omega)]
  have e : ∀ k, CF (k + 1) ⟨[(false, KRequest)], []⟩ n_law10_Ask_Request [inj KAsk (a0, a1, a2, a3, a4, a5, a6)] = _ := fun k => f_law10_Ask_Request k (a0, a1, a2, a3, a4, a5, a6)
  dsimp only at e
  simp only [tm a1 8 (by omega) (by omega), tm a2 3 (by omega) (by omega), tm a2 6 (by omega) (by omega), tm a3 6 (by omega) (by omega), tm a4 2000 (by omega) (by omega), tm a5 5 (by omega) (by omega), tm a6 12 (by omega) (by omega), tm a2 5 (by omega) (by omega), w64_id (show -9223372036854775808 ≤ a0 ∧ a0 ≤ 9223372036854775807 by omega), w64_id (show -9223372036854775808 ≤ 9 + a2 % 6 ∧ 9 + a2 % 6 ≤ 9223372036854775807 by omega), w64_id (show -9223372036854775808 ≤ 9 + a3 % 6 ∧ 9 + a3 % 6 ≤ 9223372036854775807 by omega), w64_id (show -9223372036854775808 ≤ 1 + a4 % 2000 ∧ 1 + a4 % 2000 ≤ 9223372036854775807 by omega)] at e
  have mk : ∀ (op a n legs till : Int), (0 ≤ op ∧ op ≤ 7) → (op = 0 ∧ 0 ≤ a ∧ a < 3 ∨ op = 5 ∨ (op = 1 ∨ op = 2 ∨ op = 3 ∨ op = 4 ∨ op = 6 ∨ op = 7) ∧ 1 ≤ n ∧ n ≤ 1099511627776) → (0 ≤ a ∧ a ≤ 100) → (0 ≤ n ∧ n ≤ 3000) → (0 ≤ legs ∧ legs ≤ 4) → (0 ≤ till ∧ till ≤ 12) → (op ≠ 2 → legs = 0) → Asked (rq a0 op a (9 + a3 % 6) n legs till) := by
    intro op a n legs till q0 q1 q2 q3 q4 q5 q6
    refine ⟨?_, q6, h0, ?_⟩
    · show mayB a0 op a n legs till = true
      unfold mayB opB
      rw [decide_eq_true q1, decide_eq_true (by omega)]; rfl
    · intro x hx
      simp at hx
      omega
  by_cases c0 : a1 % 8 = 0
  · exact ⟨_, _, _, _, _, _, fun k => (e k).trans (by rw [decide_eq_true c0]; rfl), mk _ _ _ _ _ (by omega) (by omega) (by omega) (by omega) (by omega) (by omega) (by omega), rfl⟩
  · by_cases c2 : a1 % 8 = 2
    · exact ⟨_, _, _, _, _, _, fun k => (e k).trans (by rw [decide_eq_false c0, decide_eq_true c2]; rfl), mk _ _ _ _ _ (by omega) (by omega) (by omega) (by omega) (by omega) (by omega) (by omega), rfl⟩
    · by_cases c3 : a1 % 8 = 3
      · exact ⟨_, _, _, _, _, _, fun k => (e k).trans (by rw [decide_eq_false c0, decide_eq_false c2, decide_eq_true c3]; rfl), mk _ _ _ _ _ (by omega) (by omega) (by omega) (by omega) (by omega) (by omega) (by omega), rfl⟩
      · by_cases c4 : a1 % 8 = 4
        · exact ⟨_, _, _, _, _, _, fun k => (e k).trans (by rw [decide_eq_false c0, decide_eq_false c2, decide_eq_false c3, decide_eq_true c4]; rfl), mk _ _ _ _ _ (by omega) (by omega) (by omega) (by omega) (by omega) (by omega) (by omega), rfl⟩
        · by_cases c5 : a1 % 8 = 5
          · exact ⟨_, _, _, _, _, _, fun k => (e k).trans (by rw [decide_eq_false c0, decide_eq_false c2, decide_eq_false c3, decide_eq_false c4, decide_eq_true c5]; rfl), mk _ _ _ _ _ (by omega) (by omega) (by omega) (by omega) (by omega) (by omega) (by omega), rfl⟩
          · by_cases c6 : a1 % 8 = 6
            · exact ⟨_, _, _, _, _, _, fun k => (e k).trans (by rw [decide_eq_false c0, decide_eq_false c2, decide_eq_false c3, decide_eq_false c4, decide_eq_false c5, decide_eq_true c6]; rfl), mk _ _ _ _ _ (by omega) (by omega) (by omega) (by omega) (by omega) (by omega) (by omega), rfl⟩
            · by_cases c7 : a1 % 8 = 7
              · exact ⟨_, _, _, _, _, _, fun k => (e k).trans (by rw [decide_eq_false c0, decide_eq_false c2, decide_eq_false c3, decide_eq_false c4, decide_eq_false c5, decide_eq_false c6, decide_eq_true c7]; rfl), mk _ _ _ _ _ (by omega) (by omega) (by omega) (by omega) (by omega) (by omega) (by omega), rfl⟩
              · exact ⟨_, _, _, _, _, _, fun k => (e k).trans (by rw [decide_eq_false c0, decide_eq_false c2, decide_eq_false c3, decide_eq_false c4, decide_eq_false c5, decide_eq_false c6, decide_eq_false c7]; rfl), mk _ _ _ _ _ (by omega) (by omega) (by omega) (by omega) (by omega) (by omega) (by omega), rfl⟩
end Go.Eng.Req
