/- The law of layer 7 that is left: ChartSums. Conditions: the statement's own. -/
import Derived.Test.YtajeobncbcpllaaPChtSums
set_option linter.all false
set_option linter.unusedVariables false
set_option linter.unusedSimpArgs false
set_option linter.deprecated false
namespace Go.Eng.Cht
open Go.RowKit Go.Eng Go.Eng.LChart
set_option maxRecDepth 100000
abbrev sBo : Sig := ⟨[(false, .bool)], []⟩
theorem awake_ev : Ev1 (fun k => CF k sBo n_law07_awake []) true := Ev1.of_rfl 60 (fun k => by kernel_rfl)
theorem law_l0 (raw : List Acc) (hl : raw.length ≤ 9223372036854775000) : ∀ (d i : Nat) (x y z : Int), i + d = raw.length → sumW (raw.drop i) (x, y, z) = sumW raw (0, 0, 0) → Ev2 (fun k m => h_law07_ChartSums k m raw raw (raw.length : Int) (i : Int) x y z) true
  | 0, i, x, y, z, h, hs => by
    refine Ev2.step (fun k m => h_law07_ChartSums_s k m raw raw (raw.length : Int) (i : Int) x y z _ rfl _ rfl _ rfl) (Ev2.negD (by omega) (Ev2.bind (sums_ev raw hl) (Ev2.const ?_)))
    rw [List.drop_of_length_le (by omega)] at hs
    rw [← hs]
    simp [sumW]
  | d + 1, i, x, y, z, h, hs => by
    refine Ev2.step (fun k m => h_law07_ChartSums_s k m raw raw (raw.length : Int) (i : Int) x y z _ (wnat (by omega)).symm raw[i] (getA raw i (by omega)).symm _ rfl) (Ev2.posD (by omega) (Ev2.pos (inb_true (by omega) (by omega)) ?_))
    rw [List.drop_eq_getElem_cons (show i < raw.length by omega)] at hs
    replace hs : sumW (raw.drop (i + 1)) (addW raw[i] (x, y, z)) = _ := hs
    generalize raw[i] = a at hs ⊢
    refine Ev2.iff (fun h0 => Ev2.iff (fun h3 => Ev2.pos (inb_true h0 h3) (Ev2.pos (inb_true h0 h3) ?_)) fun h3 => ?_) fun h0 => ?_
    · rw [← addW_in h0 h3 rfl] at hs
      exact law_l0 raw hl d (i + 1) _ _ _ (by omega) hs
    · rw [addW_out (fun h => h3 h.2)] at hs
      exact law_l0 raw hl d (i + 1) _ _ _ (by omega) hs
    · rw [addW_out (fun h => h0 h.1)] at hs
      exact law_l0 raw hl d (i + 1) _ _ _ (by omega) hs
theorem ChartSums (y : TBook) (raw : List Acc) (hy : okBook y) (hl : raw.length ≤ 9223372036854775000) : Ev1 (fun k => CF k sBo n_law07_ChartSums [inj KBook y, inj (.slice KAccount) raw]) true := by
  obtain ⟨ac, n, h1, hB, hn⟩ := book_ev y hy
  have hlen := hB.len
  refine Ev1.step (fun k => f_law07_ChartSums k y raw) (Ev1.bind awake_ev (Ev1.neg rfl (Ev1.bind h1 (Ev1.bind (sums_ev ac (by omega)) (Ev1.neg ?_ ?_)))))
  · rw [book_sums hB hn]; rfl
  · exact (law_l0 raw hl raw.length 0 0 0 0 (by omega) (by rw [List.drop_zero])).diag
end Go.Eng.Cht
