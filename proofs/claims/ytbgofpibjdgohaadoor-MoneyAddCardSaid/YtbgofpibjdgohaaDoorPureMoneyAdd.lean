/- Two balances are added, if all three may be; of any two numbers. Conditions: none beyond the statement's own. -/
import Derived.Test.YtbgofpibjdgohaaDoorMoney
import Derived.Test.YtbgofpibjdgohaaDoorPAllx3
namespace Go.Proofs.YtbgofpibjdgohaaDoor.Pure
set_option linter.unusedVariables false
set_option linter.unusedSimpArgs false
open Go.RowKit Go.Proofs.YtbgofpibjdgohaaDoor.PAll Go.Proofs.YtbgofpibjdgohaaDoorW.PrintWords Go.Proofs.YtbgofpibjdgohaaDoorW.PrintMore Go.Proofs.YtbgofpibjdgohaaDoorW.EvL Go.Proofs.YtbgofpibjdgohaaDoor.MoneyL

theorem may2_f (a : Int) : hawalalaw01_may.f a = some (decide (mayP a)) := by
  unfold hawalalaw01_may.f
  by_cases h : a ≥ -1125899906842624
  · rw [if_pos h]; exact congrArg some (decide_eq_decide.2 ⟨fun h2 => ⟨h, h2⟩, fun h2 => h2.2⟩)
  · rw [if_neg h]; exact congrArg some (decide_eq_false (fun q => h q.1)).symm
theorem MoneyAdd : hawalalaw01_MoneyAdd.Pure := by
  intro a b ha0 hb0
  refine ⟨1, ?_⟩
  unfold hawalalaw01_MoneyAdd.f
  rw [awake_f, add_f]
  unfold addB
  by_cases ha : mayP a
  · by_cases hb : mayP b
    · have e : wrap64 (a + b) = a + b := by unfold mayP at ha hb; exact w64 (by omega) (by omega)
      by_cases hc : mayP (a + b)
      · rw [if_pos ⟨ha, hb, hc⟩]; simp [may2_f, may_f, hawalalaw01_MoneyAdd.j0, ha, hb, hc, e]
      · rw [if_neg (fun q => hc q.2.2)]; simp [may2_f, may_f, hawalalaw01_MoneyAdd.j0, api_Number.f, ha, hb, hc, e]
    · rw [if_neg (fun q => hb q.2.1)]; simp [may2_f, may_f, hawalalaw01_MoneyAdd.j0, api_Number.f, ha, hb]
  · rw [if_neg (fun q => ha q.1)]; simp [may2_f, may_f, hawalalaw01_MoneyAdd.j0, api_Number.f, ha]
end Go.Proofs.YtbgofpibjdgohaaDoor.Pure
