/- Lemmas of this session: the document's sum, by the law's own text, is the same; the example. -/
import Derived.Test.YtdnaeganhnnffaaCrc
import Derived.Test.YtdnaeganhnnffaaPAllx2
import Derived.Test.YtdnaeganhnnffaaPAllx1
namespace Go.Proofs.Ytdnaeganhnnffaa.CrcL
set_option linter.unusedVariables false
open Go.RowKit Go.Proofs.Ytdnaeganhnnffaa.PAll Go.Proofs.YtdnaeganhnnffaaW.PrintWords Go.Proofs.YtdnaeganhnnffaaW.EvL

theorem awake_ev : Ev (fun k => hawalalaw03_awake.f k) true := by
  unfold hawalalaw03_awake.f
  exact Ev.bind (sum_ev _ (by decide)) (evConst (by decide +kernel))

theorem tm (x : BitVec 32) : Int.tmod (x.toNat : Int) 2 = (x.toNat : Int) % 2 := Int.tmod_eq_emod_of_nonneg (by omega)
theorem td (x : BitVec 32) : Int.tdiv (x.toNat : Int) 2 % 4294967296 = (x.toNat : Int) / 2 := by
  rw [Int.tdiv_eq_ediv_of_nonneg (by omega)]; have := x.isLt; omega

theorem law_l1 (l : List Int) (L j : Int) (r : Int) : ∀ (d : Nat) (i : Int) (x : BitVec 32), 0 ≤ i → i + d = 8 → Ev (fun k => hawalalaw03_sum.l0 k ((Rn d x).toNat : Int) l L (wrap64 (j + 1))) r → Ev (fun k => hawalalaw03_sum.l1 k (x.toNat : Int) i l L j) r
  | 0, i, x, h0, h, hr => by
    refine Ev.step (fun k => rfl) ?_
    simp only [hawalalaw03_sum.l1]
    exact evElse (by omega) hr
  | d + 1, i, x, h0, h, hr => by
    refine Ev.step (fun k => rfl) ?_
    simp only [hawalalaw03_sum.l1]
    refine evIf (by omega) ?_
    rw [tm, td, w64 (by omega) (by omega)]
    by_cases hx : (x.toNat : Int) % 2 = 1
    · refine evIf hx ?_
      rw [R_odd hx]; exact law_l1 l L j r d (i + 1) (R x) (by omega) (by omega) hr
    · refine evElse hx ?_
      rw [R_even hx]; exact law_l1 l L j r d (i + 1) (R x) (by omega) (by omega) hr

theorem law_l0 (l : List Int) (hl : l.length ≤ 9223372036854775807) : ∀ (d i : Nat) (r : BitVec 32), i + d = l.length → Ev (fun k => hawalalaw03_sum.l0 k (r.toNat : Int) l (l.length : Int) (i : Int)) ((~~~ fold r (l.drop i)).toNat : Int)
  | 0, i, r, h => by
    refine Ev.step (fun k => rfl) ?_
    simp only [hawalalaw03_sum.l0]
    refine evElse (by omega) ?_
    rw [List.drop_of_length_le (by omega)]
    refine evConst ?_
    have h1 := r.isLt
    have h2 : (~~~ r).toNat = 2 ^ 32 - 1 - r.toNat := BitVec.toNat_not
    show some _ = some (((~~~ r).toNat : Nat) : Int)
    rw [h2]
    congr 1
    omega
  | d + 1, i, r, h => by
    refine Ev.step (fun k => rfl) ?_
    simp only [hawalalaw03_sum.l0]
    refine evIf (by omega) (evIf (by omega) (evIf (by omega) ?_))
    rw [rd_nat l i (by omega), xor32i]
    refine law_l1 l _ _ _ 8 0 _ (by omega) (by omega) ?_
    rw [w64 (by omega) (by omega), drop_cons (show i < l.length by omega)]
    exact law_l0 l hl d (i + 1) (stp r l[i]) (by omega)
theorem law_ev (l : List Int) (hl : l.length ≤ 9223372036854775807) : Ev (fun k => hawalalaw03_sum.f k l) (sumOf l) := by
  unfold hawalalaw03_sum.f
  exact law_l0 l hl l.length 0 (BitVec.allOnes 32) (by omega)
end Go.Proofs.Ytdnaeganhnnffaa.CrcL
