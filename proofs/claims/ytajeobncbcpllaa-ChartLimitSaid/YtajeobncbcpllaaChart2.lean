/- Lemmas of this session: whose an account is, where the house's are, whether rows of accounts are the same; the example. -/
import Derived.Test.YtajeobncbcpllaaChart
import Derived.KernelRfl
import Derived.Test.YtajeobncbcpllaaPAllx11
import Derived.Test.YtajeobncbcpllaaPAllx11
import Derived.Test.YtajeobncbcpllaaPAllx3
import Derived.Test.YtajeobncbcpllaaPAllx8
import Derived.Test.YtajeobncbcpllaaPAllx9
namespace Go.Proofs.Ytajeobncbcpllaa.ChartL
set_option linter.unusedVariables false
set_option linter.unusedSimpArgs false
open Go.RowKit Go.Proofs.Ytajeobncbcpllaa.PAll Go.Proofs.YtajeobncbcpllaaW.PrintWords Go.Proofs.YtajeobncbcpllaaW.PrintMore Go.Proofs.YtajeobncbcpllaaW.EvL

def ofB (as_ : List Acc) (i : Int) : Int × Bool := if i < 0 ∨ i ≥ (as_.length : Int) then (0, false) else if i < 9 then (i % 3, true) else (3, true)
theorem of_ev (ac : List Acc) (i : Int) : Ev (fun k => chart_Of.f k ac i) (ofB ac i) := by
  unfold chart_Of.f ofB
  have j1 : ∀ z : Bool, z = decide (i < 0 ∨ i ≥ (ac.length : Int)) → Ev (fun k => chart_Of.j0 k i z) (if i < 0 ∨ i ≥ (ac.length : Int) then ((0, false) : Int × Bool) else if i < 9 then (i % 3, true) else (3, true)) := by
    intro z hz
    refine Ev.step (fun k => rfl) ?_
    simp only [chart_Of.j0]
    by_cases h : i < 0 ∨ i ≥ (ac.length : Int)
    · rw [if_pos h, hz, decide_eq_true h]; exact evIf (by first | rfl | trivial) (Ev.now _)
    · rw [if_neg h, hz, decide_eq_false h]
      refine evElse (by decide) ?_
      by_cases h9 : i < 9
      · simp only [if_pos h9]
        exact evConst (by rw [Int.tmod_eq_emod_of_nonneg (by omega)])
      · simp only [if_neg h9]; exact Ev.now _
  by_cases h : i < 0
  · exact evIf h (j1 true (by rw [decide_eq_true (Or.inl h)]))
  · refine evElse h (j1 _ ?_)
    apply decide_eq_decide.2; constructor
    · intro q; exact Or.inr q
    · rintro (q | q)
      · exact absurd q h
      · exact q
def isClientB (ac : List Acc) (i : Int) : Bool := decide (9 ≤ i ∧ i < (ac.length : Int))
theorem isClient_ev (ac : List Acc) (i : Int) : Ev (fun k => chart_IsClient.f k ac i) (isClientB ac i) := by
  unfold chart_IsClient.f isClientB
  refine Ev.bind (of_ev ac i) ?_
  unfold ofB
  by_cases h : i < 0 ∨ i ≥ (ac.length : Int)
  · simp only [if_pos h]
    refine evElse (by decide) (evConst ?_)
    rw [decide_eq_false (by omega)]
  · simp only [if_neg h]
    by_cases h9 : i < 9
    · simp only [if_pos h9]
      refine evIf (by first | rfl | trivial) (evConst ?_)
      rw [decide_eq_false (by omega), beq_eq_false_iff_ne.2 (by omega)]
    · simp only [if_neg h9]
      refine evIf (by first | rfl | trivial) (evConst ?_)
      rw [decide_eq_true (by omega)]; rfl
def numberB (kind c : Int) : Int := if kind < 0 ∨ kind > 2 ∨ c < 0 ∨ c ≥ 3 then -1 else 3 * c + kind
theorem number_ev (kind c : Int) : Ev (fun k => chart_Number.f k kind c) (numberB kind c) := by
  unfold chart_Number.f numberB
  have j1 : ∀ z : Bool, z = decide (kind < 0 ∨ kind > 2 ∨ c < 0 ∨ c ≥ 3) → Ev (fun k => chart_Number.j0 k kind c z) (if kind < 0 ∨ kind > 2 ∨ c < 0 ∨ c ≥ 3 then -1 else 3 * c + kind) := by
    intro z hz
    refine Ev.step (fun k => rfl) ?_
    simp only [chart_Number.j0]
    by_cases h : kind < 0 ∨ kind > 2 ∨ c < 0 ∨ c ≥ 3
    · rw [if_pos h, hz, decide_eq_true h]; exact evIf (by first | rfl | trivial) (Ev.now _)
    · rw [if_neg h, hz, decide_eq_false h]
      refine evElse (by decide) (evConst ?_)
      have e1 : wrap64 (3 * c) = 3 * c := w64 (by omega) (by omega)
      rw [e1, w64 (by omega) (by omega)]
  by_cases h0 : kind < 0
  · exact evIf h0 (j1 _ (by rw [decide_eq_true (by omega)]))
  · refine evElse h0 ?_
    by_cases h1 : kind > 2
    · exact evIf h1 (j1 _ (by rw [decide_eq_true (by omega)]))
    · refine evElse h1 ?_
      by_cases h2 : c < 0
      · exact evIf h2 (j1 _ (by rw [decide_eq_true (by omega)]))
      · refine evElse h2 (j1 _ ?_)
        apply decide_eq_decide.2; omega
theorem clone_ev (ac : List Acc) (h : ac.length * 24 ≤ 140737488351232) : chart_Clone.f ac = some ac := by
  unfold chart_Clone.f
  rw [if_pos (by simp; omega)]; simp
theorem acc_ext {a b : Acc} (h0 : a.f0 = b.f0) (h1 : a.f1 = b.f1) (h2 : a.f2 = b.f2) : a = b := by
  cases a; cases b; simp_all
theorem same_l0 (a b : List Acc) (hl : a.length = b.length) (hm : a.length ≤ 9223372036854775000) : ∀ (d i : Nat), i + d = a.length → ∃ z, Ev (fun k => hawalalaw07_Same.l0 k a b (a.length : Int) (i : Int)) z ∧ (z = true ↔ a.drop i = b.drop i)
  | 0, i, h => by
    refine ⟨true, ?_, ?_⟩
    · refine Ev.step (fun k => rfl) ?_
      simp only [hawalalaw07_Same.l0]
      exact evElse (by omega) (Ev.now _)
    · rw [List.drop_of_length_le (by omega), List.drop_of_length_le (by omega)]; simp
  | d + 1, i, h => by
    have hi : i < a.length := by omega
    have hi' : i < b.length := by omega
    obtain ⟨z, hz, hzi⟩ := same_l0 a b hl hm d (i + 1) (by omega)
    rw [List.drop_eq_getElem_cons hi, List.drop_eq_getElem_cons hi']
    by_cases he : a[i] = b[i]
    · refine ⟨z, ?_, ?_⟩
      · refine Ev.step (fun k => rfl) ?_
        simp only [hawalalaw07_Same.l0]
        rw [rdT a i hi, rdT b i hi', he, w64 (by omega) (by omega)]
        exact evIf (by omega) (evIf (by omega) (evIf (by omega) (evIf (by omega) (evElse (by simp) hz))))
      · rw [hzi, he]
        exact ⟨fun q => by rw [q], fun q => (List.cons.inj q).2⟩
    · refine ⟨false, ?_, ?_⟩
      · refine Ev.step (fun k => rfl) ?_
        simp only [hawalalaw07_Same.l0]
        rw [rdT a i hi, rdT b i hi']
        refine evIf (by omega) (evIf (by omega) (evIf (by omega) (evIf (by omega) (evIf ?_ (Ev.now _)))))
        by_cases q0 : a[i].f0 = b[i].f0
        · by_cases q1 : a[i].f1 = b[i].f1
          · have q2 : ¬ a[i].f2 = b[i].f2 := fun q => he (acc_ext q0 q1 q)
            simp [q0, q1, q2]
          · simp [q0, q1]
        · simp [q0]
      · constructor
        · intro q; cases q
        · intro q; exact absurd (List.cons.inj q).1 he
theorem same_ev (a b : List Acc) (hm : a.length ≤ 9223372036854775000) : ∃ z, Ev (fun k => hawalalaw07_Same.f k a b) z ∧ (z = true ↔ a = b) := by
  by_cases hl : a.length = b.length
  · obtain ⟨z, hz, hzi⟩ := same_l0 a b hl hm a.length 0 (by omega)
    refine ⟨z, ?_, by simpa using hzi⟩
    unfold hawalalaw07_Same.f
    exact evIf (by omega) hz
  · refine ⟨false, ?_, ?_⟩
    · unfold hawalalaw07_Same.f
      exact evElse (by omega) (Ev.now _)
    · constructor
      · intro q; cases q
      · rintro rfl; exact absurd rfl hl
theorem same_self (a : List Acc) (hm : a.length ≤ 9223372036854775000) : Ev (fun k => hawalalaw07_Same.f k a a) true := by
  obtain ⟨z, hz, hi⟩ := same_ev a a hm
  have : z = true := hi.2 rfl
  subst this; exact hz
end Go.Proofs.Ytajeobncbcpllaa.ChartL
