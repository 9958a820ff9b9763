/- Lemmas of this session: what money.May, money.Add, money.Amount and money.Convert compute; the chapter's examples. -/
import Derived.Test.YtbgofpibjdgohaaDoorWEv
import Derived.Test.YtbgofpibjdgohaaDoorPAllx1
import Derived.Test.YtbgofpibjdgohaaDoorPAllx2
import Derived.Test.YtbgofpibjdgohaaDoorPAllx2
namespace Go.Proofs.YtbgofpibjdgohaaDoor.MoneyL
set_option linter.unusedVariables false
set_option linter.unusedSimpArgs false
open Go.RowKit Go.Proofs.YtbgofpibjdgohaaDoor.PAll Go.Proofs.YtbgofpibjdgohaaDoorW.PrintWords Go.Proofs.YtbgofpibjdgohaaDoorW.PrintMore Go.Proofs.YtbgofpibjdgohaaDoorW.EvL

/-- A balance that may be. -/
def mayP (x : Int) : Prop := -1125899906842624 ≤ x ∧ x ≤ 1125899906842624
instance (x : Int) : Decidable (mayP x) := inferInstanceAs (Decidable (_ ∧ _))
theorem may_f (a : Int) : money_May.f a = some (decide (mayP a)) := by
  unfold money_May.f
  by_cases h : a ≥ -1125899906842624
  · rw [if_pos h]; exact congrArg some (decide_eq_decide.2 ⟨fun h2 => ⟨h, h2⟩, fun h2 => h2.2⟩)
  · rw [if_neg h]; exact congrArg some (decide_eq_false (fun q => h q.1)).symm
/-- What money.Add answers. -/
def addB (a b : Int) : Int × Option Int := if mayP a ∧ mayP b ∧ mayP (a + b) then (a + b, none) else (0, some 4)
theorem add_f (k : Nat) (a b : Int) : money_Add.f (k + 1) a b = some (addB a b) := by
  unfold money_Add.f addB
  by_cases ha : mayP a
  · by_cases hb : mayP b
    · have e : wrap64 (a + b) = a + b := by unfold mayP at ha hb; exact w64 (by omega) (by omega)
      by_cases hc : mayP (a + b)
      · rw [if_pos ⟨ha, hb, hc⟩]; simp [may_f, money_Add.j0, ha, hb, hc, e]
      · rw [if_neg (fun q => hc q.2.2)]; simp [may_f, money_Add.j0, ha, hb, hc, e]
    · rw [if_neg (fun q => hb q.2.1)]; simp [may_f, money_Add.j0, ha, hb]
  · rw [if_neg (fun q => ha q.1)]; simp [may_f, money_Add.j0, ha]
theorem add_ev (a b : Int) : Ev (fun k => money_Add.f k a b) (addB a b) := Ev.step (fun k => rfl) (by exact ⟨0, fun k _ => add_f k a b⟩)

theorem amount_f (a : Int) : money_Amount.f a = some (decide (1 ≤ a ∧ a ≤ 1099511627776)) := by
  unfold money_Amount.f
  by_cases h : a ≥ 1
  · rw [if_pos h]; exact congrArg some (decide_eq_decide.2 ⟨fun h2 => ⟨h, h2⟩, fun h2 => h2.2⟩)
  · rw [if_neg h]; exact congrArg some (decide_eq_false (fun q => h q.1)).symm
/-- A rate that may be. -/
def rateP (a b : Int) : Prop := (1 ≤ a ∧ a ≤ 1024) ∧ 1 ≤ b ∧ b ≤ 1024
instance (a b : Int) : Decidable (rateP a b) := inferInstanceAs (Decidable (_ ∧ _))
theorem rate_f (a b : Int) : money_Rate_right.f a b = some (decide (rateP a b)) := by
  unfold money_Rate_right.f
  by_cases h1 : a ≥ 1
  · by_cases h2 : a ≤ 1024
    · by_cases h3 : b ≥ 1
      · rw [if_pos h1, if_pos h2, if_pos h3]; exact congrArg some (decide_eq_decide.2 ⟨fun h => ⟨⟨h1, h2⟩, h3, h⟩, fun h => h.2.2⟩)
      · rw [if_pos h1, if_pos h2, if_neg h3]; exact congrArg some (decide_eq_false (fun q => h3 q.2.1)).symm
    · rw [if_pos h1, if_neg h2]; exact congrArg some (decide_eq_false (fun q => h2 q.1.2)).symm
  · rw [if_neg h1]; exact congrArg some (decide_eq_false (fun q => h1 q.1.1)).symm
/-- What money.Convert answers. -/
def convB (n a b : Int) : Int × Int × Option Int :=
  if (1 ≤ n ∧ n ≤ 1099511627776) ∧ rateP a b then (if n * a / b > 1099511627776 then (0, 0, some 4) else (n * a / b, n * a % b, none)) else (0, 0, some 13)
theorem conv_range {n a b : Int} (hn : 1 ≤ n ∧ n ≤ 1099511627776) (hr : rateP a b) : 0 ≤ n * a ∧ n * a ≤ 1125899906842624 ∧ 0 ≤ n * a / b ∧ n * a / b ≤ 1125899906842624 := by
  have h1 : 0 ≤ n * a := Int.mul_nonneg (by omega) (by unfold rateP at hr; omega)
  have h2 : n * a ≤ 1099511627776 * 1024 := Int.mul_le_mul hn.2 hr.1.2 (by unfold rateP at hr; omega) (by omega)
  have h3 : 0 ≤ n * a / b := Int.ediv_nonneg h1 (by unfold rateP at hr; omega)
  have h4 : n * a / b ≤ n * a := Int.ediv_le_self _ h1
  exact ⟨h1, by omega, h3, by omega⟩
theorem conv_f (k : Nat) (n a b : Int) : money_Convert.f (k + 1) n a b = some (convB n a b) := by
  unfold money_Convert.f convB
  by_cases hn : 1 ≤ n ∧ n ≤ 1099511627776
  · by_cases hr : rateP a b
    · obtain ⟨h1, h2, h3, h4⟩ := conv_range hn hr
      have e1 : wrap64 (n * a) = n * a := w64 (by omega) (by omega)
      have e2 : Int.tdiv (n * a) b = n * a / b := Int.tdiv_eq_ediv_of_nonneg h1
      have e3 : wrap64 (n * a / b) = n * a / b := w64 (by omega) (by omega)
      have e4 : Int.tmod (n * a) b = n * a % b := Int.tmod_eq_emod_of_nonneg h1
      have hb : ¬ b = 0 := by unfold rateP at hr; omega
      rw [if_pos ⟨hn, hr⟩]
      by_cases hg : n * a / b > 1099511627776
      · rw [if_pos hg]; rw [amount_f, decide_eq_true hn]; simp only [Option.bind_some, if_true]; rw [rate_f, decide_eq_true hr]; simp only [Option.bind_some, money_Convert.j0]
        rw [if_neg (by decide), if_neg hb, e1, e2, e3, if_pos hg]
      · rw [if_neg hg]; rw [amount_f, decide_eq_true hn]; simp only [Option.bind_some, if_true]; rw [rate_f, decide_eq_true hr]; simp only [Option.bind_some, money_Convert.j0]
        rw [if_neg (by decide), if_neg hb, e1, e2, e3, if_neg hg, e4]
    · rw [if_neg (fun q => hr q.2)]; rw [amount_f, decide_eq_true hn]; simp only [Option.bind_some, if_true]; rw [rate_f, decide_eq_false hr]; simp only [Option.bind_some, money_Convert.j0]
      rw [if_pos (by decide)]
  · rw [if_neg (fun q => hn q.1)]; rw [amount_f, decide_eq_false hn]; simp only [Option.bind_some, money_Convert.j0]
    rw [if_neg (by decide), if_pos (by first | rfl | decide)]
theorem conv_ev (n a b : Int) : Ev (fun k => money_Convert.f k n a b) (convB n a b) := Ev.step (fun k => rfl) (by exact ⟨0, fun k _ => conv_f k n a b⟩)
theorem awake_f (k : Nat) : hawalalaw01_awake.f (k + 1) = some true := by
  unfold hawalalaw01_awake.f
  rw [conv_f, add_f]; rfl
theorem awake_ev : Ev (fun k => hawalalaw01_awake.f k) true := Ev.step (fun k => rfl) (by exact ⟨0, fun k _ => awake_f k⟩)
end Go.Proofs.YtbgofpibjdgohaaDoor.MoneyL
