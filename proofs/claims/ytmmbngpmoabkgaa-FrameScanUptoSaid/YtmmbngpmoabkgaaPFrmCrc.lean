/- crc's functions: what they come to, by the plain laws of sums. Conditions: lengths that a machine has. -/
import Derived.Test.YtmmbngpmoabkgaaPFrmQ
import Derived.Test.YtmmbngpmoabkgaaPLCrc
set_option linter.all false
set_option linter.unusedVariables false
set_option linter.unusedSimpArgs false
set_option linter.deprecated false
namespace Go.Eng.Frm
open Go.RowKit Go.Eng Go.Eng.LCrc
abbrev sU : Sig := ⟨[(false, .int .u32)], []⟩
theorem step_l0 : ∀ (d : Nat) (i : Int) (x : BitVec 32), 0 ≤ i → i + d = 8 → Ev2 (fun k m => h_crc_step k m (x.toNat : Int) i) ((Rn d x).toNat : Int)
  | 0, i, x, h0, h => Ev2.step (fun k m => h_crc_step_s k m (x.toNat : Int) i _ rfl _ rfl) (Ev2.negD (by omega) (Ev2.now _))
  | d + 1, i, x, h0, h => by
    have hf : Int.fdiv (x.toNat : Int) 2 = (x.toNat : Int) / 2 := Int.fdiv_eq_ediv_of_nonneg _ (by omega)
    refine Ev2.step (fun k m => h_crc_step_s k m (x.toNat : Int) i _ (w64_id (by omega)).symm _ hf.symm) (Ev2.posD (by omega) ?_)
    rw [and32_1]
    by_cases hx : (x.toNat : Int) % 2 = 1
    · refine Ev2.posD hx ?_
      rw [R_odd hx]; exact step_l0 d (i + 1) (R x) (by omega) (by omega)
    · refine Ev2.negD hx ?_
      rw [R_even hx]; exact step_l0 d (i + 1) (R x) (by omega) (by omega)
theorem step_ev (r : BitVec 32) (c : Int) : Ev1 (fun k => CF k sU n_crc_step [inj (.int .u32) (r.toNat : Int), inj (.int .u8) c]) ((stp r c).toNat : Int) := by
  refine Ev1.step (fun k => f_crc_step k (r.toNat : Int) c) ?_
  rw [w32_mod, xor32i]
  exact (step_l0 8 0 _ (by omega) (by omega)).diag
theorem sum_l0 (l : List Int) (hl : l.length ≤ 9223372036854775000) : ∀ (d i : Nat) (r : BitVec 32), i + d = l.length → Ev2 (fun k m => h_crc_Sum k m (r.toNat : Int) l (l.length : Int) (i : Int)) ((~~~ fold r (l.drop i)).toNat : Int)
  | 0, i, r, h => by
    refine Ev2.step (fun k m => h_crc_Sum_s k m (r.toNat : Int) l (l.length : Int) (i : Int)) (Ev2.negD (by omega) (Ev2.const ?_))
    rw [List.drop_of_length_le (by omega), not32]; rfl
  | d + 1, i, r, h => by
    refine Ev2.step (fun k m => h_crc_Sum_s k m (r.toNat : Int) l (l.length : Int) (i : Int)) (Ev2.posD (by omega) (Ev2.pos (inb_true (by omega) (by omega)) ?_))
    rw [getD_nat l i _ (by omega), wnat (by omega), drop_cons (show i < l.length by omega)]
    exact Ev2.bind (step_ev r _) (sum_l0 l hl d (i + 1) (stp r l[i]) (by omega))
theorem sum_ev (l : List Int) (hl : l.length ≤ 9223372036854775000) : Ev1 (fun k => CF k sU n_crc_Sum [inj (.slice (.int .u8)) l]) (sumOf l) := by
  refine Ev1.step (fun k => f_crc_Sum k l) ?_
  have := (sum_l0 l hl l.length 0 (BitVec.allOnes 32) (by omega)).diag
  rw [List.drop_zero] at this
  exact this
end Go.Eng.Frm
