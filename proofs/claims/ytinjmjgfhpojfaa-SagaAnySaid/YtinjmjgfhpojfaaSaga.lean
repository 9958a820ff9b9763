/- Lemmas of this session: a saga behind an answer, by a plain rule, and what stays so. -/
import Derived.Test.YtinjmjgfhpojfaaWEv
import Derived.KernelRfl
import Derived.Test.YtinjmjgfhpojfaaPAllx3
import Derived.Test.YtinjmjgfhpojfaaPAllx8
import Derived.Test.YtinjmjgfhpojfaaPAllx6
import Derived.Test.YtinjmjgfhpojfaaPAllx5
namespace Go.Proofs.Ytinjmjgfhpojfaa.SagaL
set_option linter.unusedVariables false
set_option linter.unusedSimpArgs false
open Go.RowKit Go.Proofs.Ytinjmjgfhpojfaa.PAll Go.Proofs.YtinjmjgfhpojfaaW.PrintWords Go.Proofs.YtinjmjgfhpojfaaW.PrintMore Go.Proofs.YtinjmjgfhpojfaaW.EvL

theorem awake_ev : Ev (fun k => hawalalaw14_awake.f k) true := Ev.of hawalalaw14_awake.mono (k := 100) (by kernel_rfl)
abbrev Sg := Int × Int × Int × Int × Int × Int × Int × Int × Int × Int × Int
def legB (a0 a1 a2 a3 a4 a5 a6 a7 a8 a9 a10 : Int) (ok : Bool) : Sg :=
  if a7 = 0 ∧ ¬ a8 ≥ a5 then (if ok = true then (a0, a1, a2, a3, a4, a5, a6, a7, wrap64 (a8 + 1), 0, a10) else if wrap64 (a9 + 1) > 3 then (a0, a1, a2, a3, a4, a5, a6, 1, a8, wrap64 (a9 + 1), 9) else (a0, a1, a2, a3, a4, a5, a6, a7, a8, wrap64 (a9 + 1), a10)) else (a0, a1, a2, a3, a4, a5, a6, a7, a8, a9, a10)
theorem leg_ev (a0 a1 a2 a3 a4 a5 a6 a7 a8 a9 a10 : Int) (ok : Bool) : Ev (fun k => saga_Leg.f k a0 a1 a2 a3 a4 a5 a6 a7 a8 a9 a10 ok) (legB a0 a1 a2 a3 a4 a5 a6 a7 a8 a9 a10 ok) := by
  have j : ∀ z : Bool, (z = true ↔ ¬ (a7 = 0 ∧ ¬ a8 ≥ a5)) → Ev (fun k => saga_Leg.j0 k ok z a0 a1 a2 a3 a4 a5 a6 a7 a8 a9 a10) (legB a0 a1 a2 a3 a4 a5 a6 a7 a8 a9 a10 ok) := by
    intro z hz
    refine Ev.step (fun k => rfl) ?_
    simp only [saga_Leg.j0]
    unfold legB
    by_cases h : a7 = 0 ∧ ¬ a8 ≥ a5
    · obtain rfl : z = false := by
        cases z with
        | false => rfl
        | true => exact absurd h (hz.1 rfl)
      rw [if_pos h]
      refine evElse (by decide) ?_
      cases ok with
      | true => exact evIf (by first | rfl | trivial) (evConst rfl)
      | false =>
        by_cases h3 : wrap64 (a9 + 1) > 3
        · simp only [Bool.false_eq_true, if_false, h3, if_true]
          exact evConst (by unfold saga_refuse.f; rw [if_pos h3]; rfl)
        · simp only [Bool.false_eq_true, if_false, h3]
          exact evConst (by unfold saga_refuse.f; rw [if_neg h3]; rfl)
    · obtain rfl : z = true := hz.2 h
      rw [if_neg h]
      exact evIf (by first | rfl | trivial) (Ev.now _)
  unfold saga_Leg.f
  by_cases h7 : a7 = 0
  · refine evIf h7 (evBind1 (a := decide (a8 ≥ a5)) (by unfold saga_Ready.f; rw [if_pos h7]) (j _ ?_))
    rw [decide_eq_true_eq]
    exact ⟨fun q q2 => q2.2 q, fun q => Classical.byContradiction fun q2 => q ⟨h7, q2⟩⟩
  · exact evElse h7 (j true ⟨fun _ q => h7 q.1, fun _ => rfl⟩)
theorem lawleg_ev (a0 a1 a2 a3 a4 a5 a6 a7 a8 a9 a10 : Int) (ok : Bool) : Ev (fun k => hawalalaw14_leg.f k a0 a1 a2 a3 a4 a5 a6 a7 a8 a9 a10 ok) (legB a0 a1 a2 a3 a4 a5 a6 a7 a8 a9 a10 ok) := by
  have j : ∀ z : Bool, (z = true ↔ ¬ (a7 = 0 ∧ ¬ a8 ≥ a5)) → Ev (fun k => hawalalaw14_leg.j0 k ok z a0 a1 a2 a3 a4 a5 a6 a7 a8 a9 a10) (legB a0 a1 a2 a3 a4 a5 a6 a7 a8 a9 a10 ok) := by
    intro z hz
    refine Ev.step (fun k => rfl) ?_
    simp only [hawalalaw14_leg.j0]
    unfold legB
    by_cases h : a7 = 0 ∧ ¬ a8 ≥ a5
    · obtain rfl : z = false := by
        cases z with
        | false => rfl
        | true => exact absurd h (hz.1 rfl)
      rw [if_pos h]
      refine evElse (by decide) ?_
      cases ok with
      | true => exact evIf (by first | rfl | trivial) (evConst rfl)
      | false =>
        by_cases h3 : wrap64 (a9 + 1) > 3
        · simp only [Bool.false_eq_true, if_false, h3, if_true]
          exact Ev.now _
        · simp only [Bool.false_eq_true, if_false, h3]
          exact Ev.now _
    · obtain rfl : z = true := hz.2 h
      rw [if_neg h]
      exact evIf (by first | rfl | trivial) (Ev.now _)
  unfold hawalalaw14_leg.f
  by_cases h7 : a7 = 0
  · refine evIf h7 (j _ ?_)
    rw [decide_eq_true_eq]
    exact ⟨fun q q2 => q2.2 q, fun q => Classical.byContradiction fun q2 => q ⟨h7, q2⟩⟩
  · exact evElse h7 (j true ⟨fun _ q => h7 q.1, fun _ => rfl⟩)
/-- What stays so, of a saga of L legs: it goes on, or goes back. -/
def Fit (L : Int) (s : Sg) : Prop := s.2.2.2.2.2.1 = L ∧ ((s.2.2.2.2.2.2.2.1 = 0 ∧ 0 ≤ s.2.2.2.2.2.2.2.2.1 ∧ s.2.2.2.2.2.2.2.2.1 ≤ L ∧ 0 ≤ s.2.2.2.2.2.2.2.2.2.1 ∧ s.2.2.2.2.2.2.2.2.2.1 ≤ 3) ∨ s.2.2.2.2.2.2.2.1 = 1)
theorem fit_leg {L : Int} (hL : 0 ≤ L ∧ L ≤ 4) (a0 a1 a2 a3 a4 a5 a6 a7 a8 a9 a10 : Int) (ok : Bool) (h : Fit L (a0, a1, a2, a3, a4, a5, a6, a7, a8, a9, a10)) : Fit L (legB a0 a1 a2 a3 a4 a5 a6 a7 a8 a9 a10 ok) := by
  obtain ⟨h5, h⟩ := h
  simp only at h5 h
  unfold legB
  by_cases hc : a7 = 0 ∧ ¬ a8 ≥ a5
  · rw [if_pos hc]
    have h' : 0 ≤ a8 ∧ a8 ≤ L ∧ 0 ≤ a9 ∧ a9 ≤ 3 := by rcases h with h | h <;> omega
    have e8 : wrap64 (a8 + 1) = a8 + 1 := w64 (by omega) (by omega)
    have e9 : wrap64 (a9 + 1) = a9 + 1 := w64 (by omega) (by omega)
    cases ok with
    | true => rw [if_pos rfl, e8]; exact ⟨h5, .inl ⟨hc.1, by show (0 : Int) ≤ a8 + 1; omega, by show a8 + 1 ≤ L; omega, by show (0 : Int) ≤ 0; omega, by show (0 : Int) ≤ 3; omega⟩⟩
    | false =>
      rw [if_neg (by decide), e9]
      by_cases h3 : a9 + 1 > 3
      · rw [if_pos h3]; exact ⟨h5, .inr rfl⟩
      · rw [if_neg h3]; exact ⟨h5, .inl ⟨hc.1, h'.1, h'.2.1, by show (0 : Int) ≤ a9 + 1; omega, by show a9 + 1 ≤ 3; omega⟩⟩
  · rw [if_neg hc]; exact ⟨h5, h⟩
def mostB (L : Int) (s : Sg) : Int := if s.2.2.2.2.2.2.2.1 = 0 then (L - s.2.2.2.2.2.2.2.2.1) * 4 - s.2.2.2.2.2.2.2.2.2.1 + 2 else 1
theorem most_ev {L : Int} (hL : 0 ≤ L ∧ L ≤ 4) (a0 a1 a2 a3 a4 a5 a6 a7 a8 a9 a10 : Int) (h : Fit L (a0, a1, a2, a3, a4, a5, a6, a7, a8, a9, a10)) : saga_Most.f a0 a1 a2 a3 a4 a5 a6 a7 a8 a9 a10 = some (mostB L (a0, a1, a2, a3, a4, a5, a6, a7, a8, a9, a10)) := by
  obtain ⟨h5, h⟩ := h
  simp only at h5 h
  unfold saga_Most.f mostB
  by_cases h7 : a7 = 0
  · have h' : 0 ≤ a8 ∧ a8 ≤ L ∧ 0 ≤ a9 ∧ a9 ≤ 3 := by rcases h with h | h <;> omega
    rw [if_pos h7, if_pos h7, h5]
    have e1 : wrap64 (L - a8) = L - a8 := w64 (by omega) (by omega)
    have e2 : mx 0 (L - a8) = L - a8 := by unfold mx; split <;> omega
    have e3 : wrap64 ((L - a8) * 4) = (L - a8) * 4 := w64 (by omega) (by omega)
    have e4 : wrap64 ((L - a8) * 4 - a9) = (L - a8) * 4 - a9 := w64 (by omega) (by omega)
    rw [e1, e2, e3, e4, w64 (by omega) (by omega)]
  · rw [if_neg h7, if_neg h7]
    rcases h with h | h
    · exact absurd h.1 h7
    · rw [if_pos h]
/-- A step that is waited for leaves fewer. -/
theorem most_less {L : Int} (hL : 0 ≤ L ∧ L ≤ 4) (a0 a1 a2 a3 a4 a5 a6 a7 a8 a9 a10 : Int) (ok : Bool) (h : Fit L (a0, a1, a2, a3, a4, a5, a6, a7, a8, a9, a10)) (h7 : a7 = 0) (h8 : ¬ a8 ≥ a5) : mostB L (legB a0 a1 a2 a3 a4 a5 a6 a7 a8 a9 a10 ok) < mostB L (a0, a1, a2, a3, a4, a5, a6, a7, a8, a9, a10) ∧ 1 ≤ mostB L (legB a0 a1 a2 a3 a4 a5 a6 a7 a8 a9 a10 ok) := by
  obtain ⟨h5, h⟩ := h
  simp only at h5 h
  have h' : 0 ≤ a8 ∧ a8 ≤ L ∧ 0 ≤ a9 ∧ a9 ≤ 3 := by rcases h with h | h <;> omega
  have e8 : wrap64 (a8 + 1) = a8 + 1 := w64 (by omega) (by omega)
  have e9 : wrap64 (a9 + 1) = a9 + 1 := w64 (by omega) (by omega)
  unfold legB
  rw [if_pos ⟨h7, h8⟩]
  cases ok with
  | true =>
    rw [if_pos rfl, e8]
    simp only [mostB, h7, if_true]
    omega
  | false =>
    rw [if_neg (by decide), e9]
    by_cases h3 : a9 + 1 > 3
    · rw [if_pos h3]
      simp only [mostB, h7, if_true]
      rw [if_neg (by decide)]; omega
    · rw [if_neg h3]
      simp only [mostB, h7, if_true]
      omega
end Go.Proofs.Ytinjmjgfhpojfaa.SagaL
