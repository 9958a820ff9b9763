/- An amount by a rate is rounded down, and what is left is told; of any three numbers. Conditions: none beyond the statement's own. -/
import Derived.Test.YtbgofpibjdgohaaDoorMoney
import Derived.Test.YtbgofpibjdgohaaDoorPAllx4
namespace Go.Proofs.YtbgofpibjdgohaaDoor.Pure
set_option linter.unusedVariables false
set_option linter.unusedSimpArgs false
open Go.RowKit Go.Proofs.YtbgofpibjdgohaaDoor.PAll Go.Proofs.YtbgofpibjdgohaaDoorW.PrintWords Go.Proofs.YtbgofpibjdgohaaDoorW.PrintMore Go.Proofs.YtbgofpibjdgohaaDoorW.EvL Go.Proofs.YtbgofpibjdgohaaDoor.MoneyL

theorem bad_f (k : Nat) (n a b : Int) (h : ¬ ((1 ≤ n ∧ n ≤ 1099511627776) ∧ rateP a b)) : hawalalaw01_MoneyConvert.j0 (k + 1) n a b 0 0 (some 13) true = some true := by
  simp only [hawalalaw01_MoneyConvert.j0, if_true, api_Number.f, Option.bind_some, Option.getD_some, amount_f]
  by_cases h1 : n ≥ 1
  · rw [if_pos h1]; congr 1; rw [beq_iff_eq]; exact decide_eq_decide.2 ⟨fun q => q.2, fun q => ⟨h1, q⟩⟩
  · rw [if_neg h1, decide_eq_false (fun q => h1 q.1)]; rfl
theorem MoneyConvert : hawalalaw01_MoneyConvert.Pure := by
  intro n a b hn0 ha0 hb0
  refine ⟨1, ?_⟩
  unfold hawalalaw01_MoneyConvert.f
  rw [awake_f, conv_f]
  simp only [Option.bind_some, if_true]
  by_cases hg : (1 ≤ n ∧ n ≤ 1099511627776) ∧ rateP a b
  · obtain ⟨hn, hr⟩ := hg
    obtain ⟨h1, h2, h3, h4⟩ := conv_range hn hr
    have hr' : (1 ≤ a ∧ a ≤ 1024) ∧ 1 ≤ b ∧ b ≤ 1024 := hr
    rw [if_neg (by omega), if_neg (by omega), if_neg (by omega), if_neg (by omega), if_neg (by omega), decide_eq_false (show ¬ b > 1024 by omega)]
    have e1 : wrap64 (n * a) = n * a := w64 (by omega) (by omega)
    have e2 : Int.tdiv (n * a) b = n * a / b := Int.tdiv_eq_ediv_of_nonneg h1
    have e3 : wrap64 (n * a / b) = n * a / b := w64 (by omega) (by omega)
    have hcv : convB n a b = if n * a / b > 1099511627776 then (0, 0, some 4) else (n * a / b, n * a % b, none) := by unfold convB; rw [if_pos ⟨hn, hr⟩]
    rw [hcv]
    simp only [hawalalaw01_MoneyConvert.j0]
    rw [if_neg (by decide), if_neg (by omega), e1, e2, e3]
    by_cases hq : n * a / b > 1099511627776
    · rw [if_pos hq, if_pos hq]; rfl
    · rw [if_neg hq, if_neg hq]
      have m1 : 0 ≤ n * a % b := Int.emod_nonneg _ (by omega)
      have m2 : n * a % b < b := Int.emod_lt_of_pos _ (by omega)
      have m3 : b * (n * a / b) + n * a % b = n * a := Int.mul_ediv_add_emod _ _
      have m4 : n * a / b * b = b * (n * a / b) := Int.mul_comm _ _
      have e4 : wrap64 (n * a / b * b) = n * a / b * b := w64 (by omega) (by omega)
      dsimp only
      rw [if_pos (show (none : Option Int).isNone = true from rfl), if_pos m1, if_pos m2, e4, w64 (by omega) (by omega)]
      congr 1; rw [beq_iff_eq]; omega
  · have hc : convB n a b = (0, 0, some 13) := by unfold convB; rw [if_neg hg]
    rw [hc]
    have hB := bad_f 0 n a b hg
    by_cases c1 : n < 1
    · rw [if_pos c1]; exact hB
    rw [if_neg c1]
    by_cases c2 : n > 1099511627776
    · rw [if_pos c2]; exact hB
    rw [if_neg c2]
    by_cases c3 : a < 1
    · rw [if_pos c3]; exact hB
    rw [if_neg c3]
    by_cases c4 : a > 1024
    · rw [if_pos c4]; exact hB
    rw [if_neg c4]
    by_cases c5 : b < 1
    · rw [if_pos c5]; exact hB
    rw [if_neg c5]
    have c6 : b > 1024 := by
      refine Classical.byContradiction fun c6 => hg ⟨by omega, ?_⟩
      unfold rateP; omega
    rw [decide_eq_true c6]; exact hB
end Go.Proofs.YtbgofpibjdgohaaDoor.Pure
