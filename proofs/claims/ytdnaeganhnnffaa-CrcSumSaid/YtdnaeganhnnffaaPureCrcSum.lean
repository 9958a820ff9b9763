/- The sum of bytes by the program is the sum by the document's rule, for all bytes. Conditions: none beyond the statement's own. -/
import Derived.Test.YtdnaeganhnnffaaCrc3
import Derived.Test.YtdnaeganhnnffaaPAllx2
namespace Go.Proofs.Ytdnaeganhnnffaa.Pure
set_option linter.unusedVariables false
set_option linter.unusedSimpArgs false
open Go.RowKit Go.Proofs.Ytdnaeganhnnffaa.PAll Go.Proofs.YtdnaeganhnnffaaW.PrintWords Go.Proofs.YtdnaeganhnnffaaW.EvL Go.Proofs.Ytdnaeganhnnffaa.CrcL

theorem CrcSum : hawalalaw03_CrcSum.Pure := by
  intro l hl
  have hm : l.length ≤ 9223372036854775807 := hl.1
  apply evOf
  unfold hawalalaw03_CrcSum.f
  refine Ev.bind awake_ev (evIf rfl (Ev.bind (sum_ev l hm) (Ev.bind (law_ev l hm) (evConst ?_))))
  simp
end Go.Proofs.Ytdnaeganhnnffaa.Pure
