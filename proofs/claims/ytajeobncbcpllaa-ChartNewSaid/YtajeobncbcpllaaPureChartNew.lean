/- The house has three accounts of each currency, with nothing; for every number asked for. Conditions: none beyond the statement's own. -/
import Derived.Test.YtajeobncbcpllaaChart7
import Derived.Test.YtajeobncbcpllaaPAllx3
import Derived.Test.YtajeobncbcpllaaPAllx13
namespace Go.Proofs.Ytajeobncbcpllaa.Pure
set_option linter.unusedVariables false
set_option linter.unusedSimpArgs false
open Go.RowKit Go.Proofs.Ytajeobncbcpllaa.PAll Go.Proofs.YtajeobncbcpllaaW.PrintWords Go.Proofs.YtajeobncbcpllaaW.PrintMore Go.Proofs.YtajeobncbcpllaaW.EvL Go.Proofs.Ytajeobncbcpllaa.ChartL

theorem ChartNew : hawalalaw07_ChartNew.Pure := by
  intro n hn
  have hn := wf_u8 hn
  obtain ⟨m, hm, hm9⟩ : ∃ m : Nat, wrap64 (Int.tmod n 9) = (m : Int) ∧ m < 9 := by
    refine ⟨(n % 9).toNat, ?_, by omega⟩
    rw [Int.tmod_eq_emod_of_nonneg (by omega), w64 (by omega) (by omega)]; omega
  have new : Ev (fun k => chart_New.f k) (house 9) := Ev.of chart_New.mono (k := 100) (by kernel_rfl)
  apply evOf
  unfold hawalalaw07_ChartNew.f
  refine Ev.bind awake7_ev (evIf rfl (Ev.bind new (evIf (by rw [house_len]; rfl) (Ev.bind (right_ev _ (by rw [house_len]; omega)) ?_))))
  rw [house_book.right (by omega)]
  refine Ev.step (fun k => rfl) ?_
  simp only [hawalalaw07_ChartNew.j0]
  rw [hm]
  refine evElse (by decide) (Ev.bind (of_ev _ _) (evIf (by omega) (evIf (by rw [house_len]; omega) ?_)))
  rw [rdT _ m (by rw [house_len]; omega), div3 m (by omega)]
  have hf : ((house 9)[m]'(by rw [house_len]; omega)) = (⟨((m / 3 : Nat) : Int), 0, 0⟩ : Acc) := by
    have : m = 0 ∨ m = 1 ∨ m = 2 ∨ m = 3 ∨ m = 4 ∨ m = 5 ∨ m = 6 ∨ m = 7 ∨ m = 8 := by omega
    rcases this with rfl | rfl | rfl | rfl | rfl | rfl | rfl | rfl | rfl <;> rfl
  rw [hf]
  have ho : ofB (house 9) (m : Int) = ((m : Int) % 3, true) := by
    unfold ofB
    rw [if_neg (by rw [house_len]; omega), if_pos (by omega)]
  rw [ho]
  refine evIf (by simp) (evIf rfl (Ev.bind (number_ev _ _) (evIf ?_ (Ev.bind (isClient_ev _ _) (evConst ?_)))))
  · show numberB ((m : Int) % 3) ((m / 3 : Nat) : Int) = (m : Int)
    unfold numberB
    rw [if_neg (by omega)]; omega
  · unfold isClientB
    rw [decide_eq_false (by omega)]; rfl
end Go.Proofs.Ytajeobncbcpllaa.Pure
