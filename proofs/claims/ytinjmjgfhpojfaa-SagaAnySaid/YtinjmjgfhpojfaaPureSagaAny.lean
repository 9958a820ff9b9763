/- A saga of any kind goes on by an answer, turns back, and ends, as the document says. Conditions: none beyond the statement's own. -/
import Derived.Test.YtinjmjgfhpojfaaSaga
import Derived.Test.YtinjmjgfhpojfaaPAllx11
namespace Go.Proofs.Ytinjmjgfhpojfaa.Pure
set_option linter.unusedVariables false
set_option linter.unusedSimpArgs false
open Go.RowKit Go.Proofs.Ytinjmjgfhpojfaa.PAll Go.Proofs.YtinjmjgfhpojfaaW.PrintWords Go.Proofs.YtinjmjgfhpojfaaW.PrintMore Go.Proofs.YtinjmjgfhpojfaaW.EvL Go.Proofs.Ytinjmjgfhpojfaa.SagaL

theorem SagaAny : hawalalaw14_SagaAny.Pure := by
  intro y ok n hy hn
  apply evOf
  unfold hawalalaw14_SagaAny.f
  refine Ev.bind awake_ev (evIf rfl ?_)
  generalize y.f0.f0 = a0; generalize y.f0.f1 = a1; generalize y.f0.f2 = a2; generalize y.f0.f3 = a3; generalize y.f0.f4 = a4; generalize y.f0.f5 = a5; generalize y.f0.f6 = a6
  generalize y.f1 = a7; generalize y.f2 = a8; generalize y.f3 = a9; generalize y.f4 = a10
  by_cases h7 : a7 = 0
  · refine evIf h7 ?_
    refine Ev.step (fun k => rfl) ?_
    simp only [hawalalaw14_SagaAny.j0]
    refine Ev.bind (leg_ev a0 a1 a2 a3 a4 a5 a6 a7 a8 a9 a10 ok) (Ev.bind (lawleg_ev a0 a1 a2 a3 a4 a5 a6 a7 a8 a9 a10 ok) (evIf (by simp) (evBind1 (by unfold saga_Turn.f; rw [if_pos h7]) (evIf (by simp) (evBind1 rfl (evConst (by simp)))))))
  · refine evElse h7 ?_
    refine Ev.step (fun k => rfl) ?_
    simp only [hawalalaw14_SagaAny.j0]
    refine Ev.bind (leg_ev a0 a1 a2 a3 a4 a5 a6 a7 a8 a9 a10 ok) (Ev.bind (lawleg_ev a0 a1 a2 a3 a4 a5 a6 a7 a8 a9 a10 ok) (evIf (by simp) (evBind1 (by unfold saga_Turn.f; rw [if_neg h7]) (evIf (by simp) (evBind1 rfl (evConst (by simp)))))))
end Go.Proofs.Ytinjmjgfhpojfaa.Pure
