/- What was put, and not told, is open, and is told so to who asks again; of whatever is known, and any request. Conditions: none beyond the statement's own. -/
import Derived.Test.YtahhnopoiaokkaaDoorKeys
import Derived.Test.YtahhnopoiaokkaaDoorPAllx12
namespace Go.Proofs.YtahhnopoiaokkaaDoor.Pure
set_option linter.unusedVariables false
set_option linter.unusedSimpArgs false
open Go.RowKit Go.Proofs.YtahhnopoiaokkaaDoor.PAll Go.Proofs.YtahhnopoiaokkaaDoorW.PrintWords Go.Proofs.YtahhnopoiaokkaaDoorW.PrintMore Go.Proofs.YtahhnopoiaokkaaDoorW.EvL Go.Proofs.YtahhnopoiaokkaaDoor.KeysL

theorem KeysPending : hawalalaw11_KeysPending.Pure := by
  intro l y h hy
  have hl : l.length ≤ 9223372036854775000 := by have := h.2.1; omega
  apply evOf
  unfold hawalalaw11_KeysPending.f
  refine Ev.bind awake11_ev (evIf rfl (Ev.bind (put_ev l hl _ _ _ _ _ _ _) ?_))
  have hg := find_ge y.f0 l 0 (by omega)
  unfold putB
  by_cases h1 : findB y.f0 l 0 ≥ 0
  · rw [if_pos h1]
    exact evElse (by decide) (evIf rfl (evBind1 rfl (Ev.bind (find_ev l hl _) (evConst (by rw [decide_eq_true h1]; rfl)))))
  have h1' : findB y.f0 l 0 = -1 := by omega
  rw [if_neg h1]
  by_cases h2 : (l.length : Int) ≥ 256
  · rw [if_pos h2]
    exact evElse (by decide) (evIf rfl (evBind1 rfl (Ev.bind (find_ev l hl _) (evConst (by rw [decide_eq_false h1]; rfl)))))
  rw [if_neg h2]
  have hlen := open_len l
  have eo : openB (l ++ [(⟨⟨y.f0, y.f1, y.f2, y.f3, y.f4, y.f5, y.f6⟩, ⟨0, 0⟩, false⟩ : Kn)]) = openB l ++ [y.f0] := by rw [open_snoc]; rfl
  have e1 : findB y.f0 (l ++ [(⟨⟨y.f0, y.f1, y.f2, y.f3, y.f4, y.f5, y.f6⟩, ⟨0, 0⟩, false⟩ : Kn)]) 0 = (l.length : Int) := by
    rw [find_snoc _ _ _ _ (by omega), if_pos h1', if_pos rfl]; omega
  refine evIf rfl (Ev.bind (ask_new l (by omega) _ _ _ _ _ _ _ h1') (Ev.bind (open_ev _ (by simp; omega)) (evIf rfl (evIf rfl (Ev.bind (open_ev l (by omega)) ?_)))))
  rw [eo]
  have el : ((openB l ++ [y.f0]).length : Int) = ((openB l).length : Int) + 1 := by simp
  have ew : wrap64 (((openB l ++ [y.f0]).length : Int) - 1) = ((openB l).length : Int) := by rw [el]; rw [w64 (by omega) (by omega)]; omega
  have ew2 : wrap64 (((openB l).length : Int) + 1) = ((openB l).length : Int) + 1 := w64 (by omega) (by omega)
  rw [ew, ew2]
  refine evIf el (evIf (by omega) (evIf (by rw [el]; omega) (evIf ?_ (Ev.bind (find_ev _ (by simp; omega) _) (evConst ?_)))))
  · rw [rd_nat _ _ (by simp)]; simp
  · rw [e1]; simp
end Go.Proofs.YtahhnopoiaokkaaDoor.Pure
