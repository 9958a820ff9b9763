/- A saga goes on by each answer as the document says, until it is ready, or goes back; of any request, any answers. Conditions: none beyond the statement's own. -/
import Derived.Test.YtinjmjgfhpojfaaSaga
import Derived.Test.YtinjmjgfhpojfaaPAllx7
namespace Go.Proofs.Ytinjmjgfhpojfaa.Pure
set_option linter.unusedVariables false
set_option linter.unusedSimpArgs false
open Go.RowKit Go.Proofs.Ytinjmjgfhpojfaa.PAll Go.Proofs.YtinjmjgfhpojfaaW.PrintWords Go.Proofs.YtinjmjgfhpojfaaW.PrintMore Go.Proofs.YtinjmjgfhpojfaaW.EvL Go.Proofs.Ytinjmjgfhpojfaa.SagaL

theorem both_l0 (l : List Bool) (hl : l.length ≤ 9223372036854775000) : ∀ (d i : Nat) (a0 a1 a2 a3 a4 a5 a6 a7 a8 a9 a10 : Int), i + d = l.length → Ev (fun k => hawalalaw14_SagaLeg.l0 k l (l.length : Int) (i : Int) a0 a1 a2 a3 a4 a5 a6 a7 a8 a9 a10 a0 a1 a2 a3 a4 a5 a6 a7 a8 a9 a10) true
  | 0, i, a0, a1, a2, a3, a4, a5, a6, a7, a8, a9, a10, h => by
    refine Ev.step (fun k => rfl) ?_
    simp only [hawalalaw14_SagaLeg.l0]
    exact evElse (by omega) (evConst (by simp))
  | d + 1, i, a0, a1, a2, a3, a4, a5, a6, a7, a8, a9, a10, h => by
    have j : ∀ ok : Bool, Ev (fun k => hawalalaw14_SagaLeg.j1 k ok l (l.length : Int) (i : Int) false a0 a1 a2 a3 a4 a5 a6 a7 a8 a9 a10 a0 a1 a2 a3 a4 a5 a6 a7 a8 a9 a10) true := by
      intro ok
      refine Ev.step (fun k => rfl) ?_
      simp only [hawalalaw14_SagaLeg.j1]
      refine evElse (by decide) (Ev.bind (leg_ev a0 a1 a2 a3 a4 a5 a6 a7 a8 a9 a10 ok) (Ev.bind (lawleg_ev a0 a1 a2 a3 a4 a5 a6 a7 a8 a9 a10 ok) ?_))
      rw [w64 (by omega) (by omega)]
      exact both_l0 l hl d (i + 1) _ _ _ _ _ _ _ _ _ _ _ (by omega)
    refine Ev.step (fun k => rfl) ?_
    simp only [hawalalaw14_SagaLeg.l0]
    refine evIf (by omega) (evIf (by omega) (evIf (by omega) (evElse (by simp) ?_)))
    by_cases h7 : a7 = 0
    · refine evBind1 (a := decide (a8 ≥ a5)) (by unfold saga_Ready.f; rw [if_pos h7]) (evIf h7 ?_)
      simpa using j _
    · refine evBind1 (a := false) (by unfold saga_Ready.f; rw [if_neg h7]) (evElse h7 ?_)
      simpa using j _
theorem SagaLeg : hawalalaw14_SagaLeg.Pure := by
  intro n l y hn hl hy
  apply evOf
  unfold hawalalaw14_SagaLeg.f
  refine Ev.bind awake_ev (evIf rfl (evBind1 rfl ?_))
  exact both_l0 l (by have := hl.2.1; omega) l.length 0 _ _ _ _ _ _ _ _ _ _ _ (by omega)
end Go.Proofs.Ytinjmjgfhpojfaa.Pure
