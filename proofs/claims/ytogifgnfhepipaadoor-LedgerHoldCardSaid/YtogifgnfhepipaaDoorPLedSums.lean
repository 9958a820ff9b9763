/- chart.Sums: what it comes to. Conditions: lengths that a machine has. -/
import Derived.Test.YtogifgnfhepipaaDoorPLedBook
set_option linter.all false
set_option linter.unusedVariables false
set_option linter.unusedSimpArgs false
set_option linter.deprecated false
namespace Go.Eng.Led
open Go.RowKit Go.Eng Go.Eng.LChart
abbrev sSm : Sig := ⟨[(false, KAccount)], []⟩
theorem sums_l0 (l : List Acc) (hl : l.length ≤ 9223372036854775000) (z0 z1 z2 : Int) : ∀ (d i : Nat) (x y z : Int), i + d = l.length → Ev2 (fun k m => h_chart_Sums k m l (l.length : Int) (i : Int) z0 z1 z2 x y z) (sumW (l.drop i) (x, y, z))
  | 0, i, x, y, z, h => by
    refine Ev2.step (fun k m => h_chart_Sums_s k m l (l.length : Int) (i : Int) z0 z1 z2 x y z _ rfl _ rfl _ rfl) (Ev2.negD (by omega) (Ev2.const ?_))
    rw [List.drop_of_length_le (by omega)]; rfl
  | d + 1, i, x, y, z, h => by
    refine Ev2.step (fun k m => h_chart_Sums_s k m l (l.length : Int) (i : Int) z0 z1 z2 x y z _ (wnat (by omega)).symm l[i] (getA l i (by omega)).symm _ rfl) (Ev2.posD (by omega) (Ev2.pos (inb_true (by omega) (by omega)) ?_))
    rw [List.drop_eq_getElem_cons (show i < l.length by omega)]
    show Ev2 _ (sumW (l.drop (i + 1)) (addW l[i] (x, y, z)))
    generalize l[i] = a
    refine Ev2.iff (fun h0 => Ev2.iff (fun h3 => Ev2.pos (inb_true h0 h3) (Ev2.pos (inb_true h0 h3) ?_)) fun h3 => ?_) fun h0 => ?_
    · rw [← addW_in h0 h3 rfl]
      exact sums_l0 l hl z0 z1 z2 d (i + 1) _ _ _ (by omega)
    · rw [addW_out (fun h => h3 h.2)]
      exact sums_l0 l hl z0 z1 z2 d (i + 1) _ _ _ (by omega)
    · rw [addW_out (fun h => h0 h.1)]
      exact sums_l0 l hl z0 z1 z2 d (i + 1) _ _ _ (by omega)
theorem sums_ev (l : List Acc) (hl : l.length ≤ 9223372036854775000) : Ev1 (fun k => CF k sSm n_chart_Sums [inj (.slice KAccount) l]) (sumW l (0, 0, 0)) := by
  refine Ev1.step (fun k => f_chart_Sums k l) ?_
  have := (sums_l0 l hl 0 0 0 l.length 0 0 0 0 (by omega)).diag
  rw [List.drop_zero] at this
  exact this
end Go.Eng.Led
