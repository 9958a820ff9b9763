/- Lemmas of this session: the sum of bytes as what is done to 32 bits: it keeps apart what is unlike, and is linear. -/
import Derived.Test.YtdnaeganhnnffaaWEv
import Derived.Test.YtdnaeganhnnffaaPAllx1
namespace Go.Proofs.Ytdnaeganhnnffaa.CrcL
set_option linter.unusedVariables false
open Go.RowKit Go.Proofs.Ytdnaeganhnnffaa.PAll Go.Proofs.YtdnaeganhnnffaaW.PrintWords Go.Proofs.YtdnaeganhnnffaaW.EvL

def P : BitVec 32 := 3988292384#32
def R (x : BitVec 32) : BitVec 32 := (x >>> 1) ^^^ (if x.getLsbD 0 = true then P else 0#32)
def Rn : Nat → BitVec 32 → BitVec 32
  | 0, x => x
  | n + 1, x => Rn n (R x)
def stp (r : BitVec 32) (c : Int) : BitVec 32 := Rn 8 (r ^^^ BitVec.ofInt 32 c)
def fold (r : BitVec 32) (l : List Int) : BitVec 32 := l.foldl stp r
def sumOf (l : List Int) : Int := ((~~~ fold (BitVec.allOnes 32) l).toNat : Int)

theorem R_xor (x y : BitVec 32) : R (x ^^^ y) = R x ^^^ R y := by
  unfold R
  rw [BitVec.ushiftRight_xor_distrib]
  have h : (x ^^^ y).getLsbD 0 = (x.getLsbD 0 ^^ y.getLsbD 0) := by simp
  rw [h]
  cases x.getLsbD 0 <;> cases y.getLsbD 0 <;> simp [BitVec.xor_assoc]
  · exact BitVec.xor_comm _ _
  · rw [BitVec.xor_comm P (y >>> 1 ^^^ P), BitVec.xor_assoc, BitVec.xor_self, BitVec.xor_zero]
theorem R_zero {z : BitVec 32} (h : R z = 0#32) : z = 0#32 := by
  unfold R at h
  have hl : z.getLsbD 0 = false := by
    cases hz : z.getLsbD 0 with
    | false => rfl
    | true =>
      rw [hz] at h
      have h31 := congrArg (fun b : BitVec 32 => b.getLsbD 31) h
      simp only [if_true, BitVec.getLsbD_xor, BitVec.getLsbD_ushiftRight] at h31
      have hp : P.getLsbD 31 = true := by decide
      have h32 : z.getLsbD (1 + 31) = false := BitVec.getLsbD_of_ge z 32 (by omega)
      rw [hp, h32] at h31
      simp at h31
  rw [hl] at h
  simp at h
  apply BitVec.eq_of_getLsbD_eq
  intro i hi
  rcases i with _ | i
  · rw [hl]; simp
  · have := congrArg (fun b : BitVec 32 => b.getLsbD i) h
    simp only [BitVec.getLsbD_ushiftRight] at this
    rw [Nat.add_comm, this]; simp
theorem xor_eq_zero {x y : BitVec 32} (h : x ^^^ y = 0#32) : x = y := by
  have := congrArg (fun b => b ^^^ y) h
  simpa [BitVec.xor_assoc] using this
theorem R_inj {x y : BitVec 32} (h : R x = R y) : x = y := by
  apply xor_eq_zero
  apply R_zero
  rw [R_xor, h, BitVec.xor_self]
theorem Rn_xor : ∀ n x y, Rn n (x ^^^ y) = Rn n x ^^^ Rn n y
  | 0, _, _ => rfl
  | n + 1, x, y => by simp only [Rn]; rw [R_xor, Rn_xor n]
theorem Rn_inj : ∀ n {x y}, Rn n x = Rn n y → x = y
  | 0, _, _, h => h
  | n + 1, _, _, h => R_inj (Rn_inj n h)
theorem xor_right_inj {a b c : BitVec 32} (h : a ^^^ b = a ^^^ c) : b = c := by
  have := congrArg (fun z => a ^^^ z) h
  simpa [← BitVec.xor_assoc] using this
theorem xor_left_inj {a b c : BitVec 32} (h : b ^^^ a = c ^^^ a) : b = c := by
  rw [BitVec.xor_comm b, BitVec.xor_comm c] at h; exact xor_right_inj h
theorem stp_inj_left {r s : BitVec 32} {c : Int} (h : stp r c = stp s c) : r = s := xor_left_inj (Rn_inj 8 h)
theorem byte_inj {c d : Int} (hc : 0 ≤ c ∧ c ≤ 255) (hd : 0 ≤ d ∧ d ≤ 255) (h : BitVec.ofInt 32 c = BitVec.ofInt 32 d) : c = d := by
  have := congrArg BitVec.toNat h
  simp only [BitVec.toNat_ofInt] at this
  omega
theorem stp_inj_right {r : BitVec 32} {c d : Int} (hc : 0 ≤ c ∧ c ≤ 255) (hd : 0 ≤ d ∧ d ≤ 255) (h : stp r c = stp r d) : c = d := byte_inj hc hd (xor_right_inj (Rn_inj 8 h))
theorem fold_inj : ∀ (l : List Int) {r s : BitVec 32}, fold r l = fold s l → r = s
  | [], _, _, h => h
  | c :: l, _, _, h => stp_inj_left (fold_inj l h)
theorem fold_append (r : BitVec 32) (a b : List Int) : fold r (a ++ b) = fold (fold r a) b := by unfold fold; rw [List.foldl_append]
theorem sumOf_inj {a b : List Int} (h : sumOf a = sumOf b) : fold (BitVec.allOnes 32) a = fold (BitVec.allOnes 32) b := by
  unfold sumOf at h
  have h1 : (~~~ fold (BitVec.allOnes 32) a) = ~~~ fold (BitVec.allOnes 32) b := BitVec.eq_of_toNat_eq (by omega)
  have := congrArg (fun z : BitVec 32 => ~~~ z) h1
  simpa using this
theorem sumOf_lt (l : List Int) : 0 ≤ sumOf l ∧ sumOf l < 4294967296 := by unfold sumOf; have := (~~~ fold (BitVec.allOnes 32) l).isLt; omega

/-- One byte that is another one: another sum. -/
theorem sum_turned (a b : List Int) (c d : Int) (hc : 0 ≤ c ∧ c ≤ 255) (hd : 0 ≤ d ∧ d ≤ 255) (h : sumOf (a ++ c :: b) = sumOf (a ++ d :: b)) : c = d := by
  have := sumOf_inj h
  rw [fold_append, fold_append] at this
  exact stp_inj_right hc hd (fold_inj b this)

theorem half (x : BitVec 32) : Int.ofNat x.toNat / (2 : Int) = Int.ofNat (x >>> 1).toNat := by
  rw [BitVec.toNat_ushiftRight, Nat.shiftRight_eq_div_pow]; simp only [Int.ofNat_eq_natCast]; omega
theorem lsb (x : BitVec 32) : x.getLsbD 0 = true ↔ (x.toNat : Int) % 2 = 1 := by
  rw [BitVec.getLsbD, Nat.testBit_zero]; simp; omega
theorem R_odd {x : BitVec 32} (h : (x.toNat : Int) % 2 = 1) : Go.bits .xor .u32 ((x.toNat : Int) / 2) 3988292384 = ((R x).toNat : Int) := by
  have hh : (x.toNat : Int) / (2 : Int) = ((x >>> 1).toNat : Int) := half x
  rw [hh, show (3988292384 : Int) = (P.toNat : Int) from rfl, xor32]
  unfold R; rw [if_pos ((lsb x).2 h)]
theorem R_even {x : BitVec 32} (h : ¬ (x.toNat : Int) % 2 = 1) : (x.toNat : Int) / 2 = ((R x).toNat : Int) := by
  have hh : (x.toNat : Int) / (2 : Int) = ((x >>> 1).toNat : Int) := half x
  rw [hh]
  unfold R; rw [if_neg (fun hh => h ((lsb x).1 hh))]; simp

theorem step_l0 : ∀ (d : Nat) (i : Int) (x : BitVec 32), 0 ≤ i → i + d = 8 → Ev (fun k => crc_step.l0 k (x.toNat : Int) i) ((Rn d x).toNat : Int)
  | 0, i, x, h0, h => by
    refine Ev.step (fun k => rfl) ?_
    simp only [crc_step.l0]
    exact evElse (by omega) (Ev.now _)
  | d + 1, i, x, h0, h => by
    refine Ev.step (fun k => rfl) ?_
    simp only [crc_step.l0]
    refine evIf (by omega) ?_
    rw [and32_1, w64 (by omega) (by omega)]
    by_cases hx : (x.toNat : Int) % 2 = 1
    · refine evIf hx ?_
      rw [R_odd hx]; exact step_l0 d (i + 1) (R x) (by omega) (by omega)
    · refine evElse hx ?_
      rw [R_even hx]; exact step_l0 d (i + 1) (R x) (by omega) (by omega)
theorem step_ev (r : BitVec 32) (c : Int) : Ev (fun k => crc_step.f k (r.toNat : Int) c) ((stp r c).toNat : Int) := by
  unfold crc_step.f
  rw [xor32i]
  exact step_l0 8 0 _ (by omega) (by omega)
theorem not32 (x : BitVec 32) : Go.bits .xor .u32 4294967295 (x.toNat : Int) = ((~~~ x).toNat : Int) := by
  rw [show (4294967295 : Int) = ((BitVec.allOnes 32).toNat : Int) from rfl, xor32, BitVec.allOnes_xor]
theorem drop_cons {l : List Int} {i : Nat} (h : i < l.length) : l.drop i = l[i] :: l.drop (i + 1) := List.drop_eq_getElem_cons h
theorem sum_l0 (l : List Int) (hl : l.length ≤ 9223372036854775807) : ∀ (d i : Nat) (r : BitVec 32), i + d = l.length → Ev (fun k => crc_Sum.l0 k (r.toNat : Int) l (l.length : Int) (i : Int)) ((~~~ fold r (l.drop i)).toNat : Int)
  | 0, i, r, h => by
    refine Ev.step (fun k => rfl) ?_
    simp only [crc_Sum.l0]
    refine evElse (by omega) ?_
    rw [List.drop_of_length_le (by omega)]
    exact evConst (by rw [not32]; rfl)
  | d + 1, i, r, h => by
    refine Ev.step (fun k => rfl) ?_
    simp only [crc_Sum.l0]
    refine evIf (by omega) (evIf (by omega) (evIf (by omega) ?_))
    rw [rd_nat l i (by omega), w64 (by omega) (by omega), drop_cons (show i < l.length by omega)]
    exact Ev.bind (step_ev r _) (sum_l0 l hl d (i + 1) (stp r l[i]) (by omega))
theorem sum_ev (l : List Int) (hl : l.length ≤ 9223372036854775807) : Ev (fun k => crc_Sum.f k l) (sumOf l) := by
  unfold crc_Sum.f
  have := sum_l0 l hl l.length 0 (BitVec.allOnes 32) (by omega)
  simpa [sumOf] using this
end Go.Proofs.Ytdnaeganhnnffaa.CrcL
