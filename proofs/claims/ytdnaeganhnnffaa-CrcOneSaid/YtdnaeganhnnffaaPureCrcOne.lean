/- Two bytes behind the same ones have the same sum just if they are the same, for all bytes. Conditions: none beyond the statement's own. -/
import Derived.Test.YtdnaeganhnnffaaCrc3
import Derived.Test.YtdnaeganhnnffaaPAllx5
namespace Go.Proofs.Ytdnaeganhnnffaa.Pure
set_option linter.unusedVariables false
set_option linter.unusedSimpArgs false
open Go.RowKit Go.Proofs.Ytdnaeganhnnffaa.PAll Go.Proofs.YtdnaeganhnnffaaW.PrintWords Go.Proofs.YtdnaeganhnnffaaW.EvL Go.Proofs.Ytdnaeganhnnffaa.CrcL

theorem CrcOne : hawalalaw03_CrcOne.Pure := by
  intro a b l ha hb hl
  have hl1 : l.length ≤ 140737488351232 := by have := hl.2.1; omega
  have hm : ∀ c : Int, (([] ++ l : List Int) ++ [c]).length ≤ 9223372036854775807 := by intro c; simp; omega
  apply evOf
  unfold hawalalaw03_CrcOne.f
  refine Ev.bind awake_ev (evIf rfl (evIf (by simp; omega) (evBind1 rfl (evIf (by simp; omega) (Ev.bind (sum_ev _ (hm a)) (evBind1 rfl (evIf (by simp; omega) (Ev.bind (sum_ev _ (hm b)) (evConst ?_)))))))))
  congr 1
  by_cases h : a = b
  · subst h; simp
  · have : ¬ sumOf (([] ++ l : List Int) ++ [a]) = sumOf (([] ++ l : List Int) ++ [b]) := fun hs => h (sum_turned _ [] a b (wf_u8 ha) (wf_u8 hb) hs)
    rw [beq_eq_false_iff_ne.2 this, beq_eq_false_iff_ne.2 h]; rfl
end Go.Proofs.Ytdnaeganhnnffaa.Pure
