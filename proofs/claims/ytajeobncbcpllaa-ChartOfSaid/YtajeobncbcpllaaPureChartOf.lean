/- Whose an account is, and where the house's are, is what the document says; of any book, any place, any kind and currency. Conditions: none beyond the statement's own. -/
import Derived.Test.YtajeobncbcpllaaChart7
import Derived.Test.YtajeobncbcpllaaPAllx12
namespace Go.Proofs.Ytajeobncbcpllaa.Pure
set_option linter.unusedVariables false
set_option linter.unusedSimpArgs false
open Go.RowKit Go.Proofs.Ytajeobncbcpllaa.PAll Go.Proofs.YtajeobncbcpllaaW.PrintWords Go.Proofs.YtajeobncbcpllaaW.PrintMore Go.Proofs.YtajeobncbcpllaaW.EvL Go.Proofs.Ytajeobncbcpllaa.ChartL

theorem ChartOf : hawalalaw07_ChartOf.Pure := by
  intro y a kind c hy ha hk hc
  have ha := wf_i64 ha
  obtain ⟨ac, n, hac, hB, hn⟩ := book_ev y hy
  have hl := hB.len
  have j3 : ∀ (x14 : Int) (z : Bool), z = decide (0 ≤ kind ∧ kind < 3 ∧ 0 ≤ c ∧ c < 3) → x14 = -1 → Ev (fun k => hawalalaw07_ChartOf.j3 k kind c x14 z) true := by
    intro x14 z hz hx
    refine Ev.step (fun k => rfl) ?_
    simp only [hawalalaw07_ChartOf.j3]
    by_cases h : 0 ≤ kind ∧ kind < 3 ∧ 0 ≤ c ∧ c < 3
    · rw [hz, decide_eq_true h]
      refine evIf (by first | rfl | trivial) (Ev.bind (number_ev _ _) (evConst ?_))
      have e1 : wrap64 (3 * c) = 3 * c := w64 (by omega) (by omega)
      rw [e1, w64 (by omega) (by omega)]
      unfold numberB
      rw [if_neg (by omega)]; simp
    · rw [hz, decide_eq_false h, hx]
      refine evElse (by decide) (Ev.bind (number_ev _ _) (evConst ?_))
      unfold numberB
      rw [if_pos (by omega)]; rfl
  have j2 : Ev (fun k => hawalalaw07_ChartOf.j2 k kind c false) true := by
    refine Ev.step (fun k => rfl) ?_
    simp only [hawalalaw07_ChartOf.j2]
    refine evElse (by decide) ?_
    by_cases h1 : kind ≥ 0
    · refine evIf h1 ?_
      by_cases h2 : kind < 3
      · refine evIf h2 ?_
        by_cases h3 : c ≥ 0
        · exact evIf h3 (j3 _ _ (by apply decide_eq_decide.2; omega) rfl)
        · exact evElse h3 (j3 _ _ (by rw [decide_eq_false (by omega)]) rfl)
      · exact evElse h2 (j3 _ _ (by rw [decide_eq_false (by omega)]) rfl)
    · exact evElse h1 (j3 _ _ (by rw [decide_eq_false (by omega)]) rfl)
  have j1 : Ev (fun k => hawalalaw07_ChartOf.j1 k a kind c ac (ofB ac a).1 (ofB ac a).2) true := by
    refine Ev.step (fun k => rfl) ?_
    simp only [hawalalaw07_ChartOf.j1]
    refine Ev.bind (of_ev ac a) (evIf rfl (evElse (by simp) (Ev.bind (isClient_ev ac a) ?_)))
    unfold isClientB ofB
    by_cases h : a < 0 ∨ a ≥ (ac.length : Int)
    · simp only [if_pos h]
      refine evElse (by decide) ?_
      rw [decide_eq_false (show ¬ (9 ≤ a ∧ a < (ac.length : Int)) by omega)]
      exact j2
    · by_cases h9 : a < 9
      · simp only [if_neg h, if_pos h9]
        refine evIf (by first | rfl | trivial) ?_
        rw [show decide (9 ≤ a ∧ a < (ac.length : Int)) = decide (a > 8) by apply decide_eq_decide.2; omega]
        simpa using j2
      · simp only [if_neg h, if_neg h9]
        refine evIf (by first | rfl | trivial) ?_
        rw [show decide (9 ≤ a ∧ a < (ac.length : Int)) = decide (a > 8) by apply decide_eq_decide.2; omega]
        simpa using j2
  have j0 : ∀ z : Bool, z = decide (0 ≤ a ∧ a < (ac.length : Int)) → Ev (fun k => hawalalaw07_ChartOf.j0 k a kind c ac 0 z) true := by
    intro z hz
    refine Ev.step (fun k => rfl) ?_
    simp only [hawalalaw07_ChartOf.j0]
    by_cases h : 0 ≤ a ∧ a < (ac.length : Int)
    · rw [hz, decide_eq_true h]
      refine evIf (by first | rfl | trivial) ?_
      by_cases h9 : a < 9
      · refine evIf h9 ?_
        rw [Int.tmod_eq_emod_of_nonneg h.1]
        have : ofB ac a = (a % 3, true) := by unfold ofB; rw [if_neg (by omega), if_pos h9]
        rw [this] at j1; exact j1
      · refine evElse h9 ?_
        have : ofB ac a = (3, true) := by unfold ofB; rw [if_neg (by omega), if_neg h9]
        rw [this] at j1; exact j1
    · rw [hz, decide_eq_false h]
      refine evElse (by decide) ?_
      have : ofB ac a = (0, false) := by unfold ofB; rw [if_pos (by omega)]
      rw [this] at j1; exact j1
  apply evOf
  unfold hawalalaw07_ChartOf.f
  refine Ev.bind awake7_ev (evIf rfl (Ev.bind hac ?_))
  by_cases h : a ≥ 0
  · exact evIf h (j0 _ (by apply decide_eq_decide.2; omega))
  · exact evElse h (j0 _ (by rw [decide_eq_false (by omega)]))
end Go.Proofs.Ytajeobncbcpllaa.Pure
