/- The sum of bytes, plain: what is done to 32 bits; it keeps apart what is unlike, and is linear. -/
import Derived.Test.YtmmbngpmoabkgaaE30
set_option linter.all false
set_option linter.unusedVariables false
set_option linter.unusedSimpArgs false
set_option linter.deprecated false
namespace Go.Eng.LCrc
open Go.Eng
theorem xor32 (a b : BitVec 32) : wrapb .u32 .xor (a.toNat : Int) (b.toNat : Int) = ((a ^^^ b).toNat : Int) := by
  have h1 : BitVec.ofInt 32 (a.toNat : Int) = a := by rw [BitVec.ofInt_natCast, BitVec.ofNat_toNat, BitVec.setWidth_eq]
  have h2 : BitVec.ofInt 32 (b.toNat : Int) = b := by rw [BitVec.ofInt_natCast, BitVec.ofNat_toNat, BitVec.setWidth_eq]
  show IntKind.u32.wrap ((BitVec.ofInt 32 (a.toNat : Int) ^^^ BitVec.ofInt 32 (b.toNat : Int)).toNat : Int) = _
  rw [h1, h2]
  have := (a ^^^ b).isLt
  have hw : IntKind.u32.wrap ((a ^^^ b).toNat : Int) = ((a ^^^ b).toNat : Int) % 4294967296 := by simp [IntKind.wrap, IntKind.bits, IntKind.signed]
  rw [hw]; omega
theorem xor32i (a : BitVec 32) (c : Int) : wrapb .u32 .xor (a.toNat : Int) (c % 4294967296) = ((a ^^^ BitVec.ofInt 32 c).toNat : Int) := by
  rw [← xor32]
  congr 1
  rw [BitVec.toNat_ofInt]
  omega
theorem and32_1 (a : BitVec 32) : wrapb .u32 .and (a.toNat : Int) 1 = (a.toNat : Int) % 2 := by
  have h1 : BitVec.ofInt 32 (a.toNat : Int) = a := by rw [BitVec.ofInt_natCast, BitVec.ofNat_toNat, BitVec.setWidth_eq]
  show IntKind.u32.wrap ((BitVec.ofInt 32 (a.toNat : Int) &&& BitVec.ofInt 32 1).toNat : Int) = _
  rw [h1]
  have h2 : (a &&& BitVec.ofInt 32 1).toNat = a.toNat % 2 := by
    rw [BitVec.toNat_and, show (BitVec.ofInt 32 1).toNat = 1 from rfl, Nat.and_one_is_mod]
  rw [h2]
  have hw : ∀ x : Int, IntKind.u32.wrap x = x % 4294967296 := fun x => by simp [IntKind.wrap, IntKind.bits, IntKind.signed]
  rw [hw]; omega
def P : BitVec 32 := 3988292384#32
def R (x : BitVec 32) : BitVec 32 := (x >>> 1) ^^^ (if x.getLsbD 0 = true then P else 0#32)
def Rn : Nat → BitVec 32 → BitVec 32
  | 0, x => x
  | n + 1, x => Rn n (R x)
def stp (r : BitVec 32) (c : Int) : BitVec 32 := Rn 8 (r ^^^ BitVec.ofInt 32 c)
def fold (r : BitVec 32) (l : List Int) : BitVec 32 := l.foldl stp r
def sumOf (l : List Int) : Int := ((~~~ fold (BitVec.allOnes 32) l).toNat : Int)

theorem R_xor (x y : BitVec 32) : R (x ^^^ y) = R x ^^^ R y := by
  unfold R
  rw [BitVec.ushiftRight_xor_distrib]
  have h : (x ^^^ y).getLsbD 0 = (x.getLsbD 0 ^^ y.getLsbD 0) := by simp
  rw [h]
  cases x.getLsbD 0 <;> cases y.getLsbD 0 <;> simp [BitVec.xor_assoc]
  · exact BitVec.xor_comm _ _
  · rw [BitVec.xor_comm P (y >>> 1 ^^^ P), BitVec.xor_assoc, BitVec.xor_self, BitVec.xor_zero]
theorem R_zero {z : BitVec 32} (h : R z = 0#32) : z = 0#32 := by
  unfold R at h
  have hl : z.getLsbD 0 = false := by
    cases hz : z.getLsbD 0 with
    | false => rfl
    | true =>
      rw [hz] at h
      have h31 := congrArg (fun b : BitVec 32 => b.getLsbD 31) h
      simp only [if_true, BitVec.getLsbD_xor, BitVec.getLsbD_ushiftRight] at h31
      have hp : P.getLsbD 31 = true := by decide
      have h32 : z.getLsbD (1 + 31) = false := BitVec.getLsbD_of_ge z 32 (by omega)
      rw [hp, h32] at h31
      simp at h31
  rw [hl] at h
  simp at h
  apply BitVec.eq_of_getLsbD_eq
  intro i hi
  rcases i with _ | i
  · rw [hl]; simp
  · have := congrArg (fun b : BitVec 32 => b.getLsbD i) h
    simp only [BitVec.getLsbD_ushiftRight] at this
    rw [Nat.add_comm, this]; simp
theorem xor_eq_zero {x y : BitVec 32} (h : x ^^^ y = 0#32) : x = y := by
  have := congrArg (fun b => b ^^^ y) h
  simpa [BitVec.xor_assoc] using this
theorem R_inj {x y : BitVec 32} (h : R x = R y) : x = y := by
  apply xor_eq_zero
  apply R_zero
  rw [R_xor, h, BitVec.xor_self]
theorem Rn_xor : ∀ n x y, Rn n (x ^^^ y) = Rn n x ^^^ Rn n y
  | 0, _, _ => rfl
  | n + 1, x, y => by simp only [Rn]; rw [R_xor, Rn_xor n]
theorem Rn_inj : ∀ n {x y}, Rn n x = Rn n y → x = y
  | 0, _, _, h => h
  | n + 1, _, _, h => R_inj (Rn_inj n h)
theorem xor_right_inj {a b c : BitVec 32} (h : a ^^^ b = a ^^^ c) : b = c := by
  have := congrArg (fun z => a ^^^ z) h
  simpa [← BitVec.xor_assoc] using this
theorem xor_left_inj {a b c : BitVec 32} (h : b ^^^ a = c ^^^ a) : b = c := by
  rw [BitVec.xor_comm b, BitVec.xor_comm c] at h; exact xor_right_inj h
theorem stp_inj_left {r s : BitVec 32} {c : Int} (h : stp r c = stp s c) : r = s := xor_left_inj (Rn_inj 8 h)
theorem byte_inj {c d : Int} (hc : 0 ≤ c ∧ c ≤ 255) (hd : 0 ≤ d ∧ d ≤ 255) (h : BitVec.ofInt 32 c = BitVec.ofInt 32 d) : c = d := by
  have := congrArg BitVec.toNat h
  simp only [BitVec.toNat_ofInt] at this
  omega
theorem stp_inj_right {r : BitVec 32} {c d : Int} (hc : 0 ≤ c ∧ c ≤ 255) (hd : 0 ≤ d ∧ d ≤ 255) (h : stp r c = stp r d) : c = d := byte_inj hc hd (xor_right_inj (Rn_inj 8 h))
theorem fold_inj : ∀ (l : List Int) {r s : BitVec 32}, fold r l = fold s l → r = s
  | [], _, _, h => h
  | c :: l, _, _, h => stp_inj_left (fold_inj l h)
theorem fold_append (r : BitVec 32) (a b : List Int) : fold r (a ++ b) = fold (fold r a) b := by unfold fold; rw [List.foldl_append]
theorem sumOf_inj {a b : List Int} (h : sumOf a = sumOf b) : fold (BitVec.allOnes 32) a = fold (BitVec.allOnes 32) b := by
  unfold sumOf at h
  have h1 : (~~~ fold (BitVec.allOnes 32) a) = ~~~ fold (BitVec.allOnes 32) b := BitVec.eq_of_toNat_eq (by omega)
  have := congrArg (fun z : BitVec 32 => ~~~ z) h1
  simpa using this
theorem sumOf_lt (l : List Int) : 0 ≤ sumOf l ∧ sumOf l < 4294967296 := by unfold sumOf; have := (~~~ fold (BitVec.allOnes 32) l).isLt; omega

/-- One byte that is another one: another sum. -/
theorem sum_turned (a b : List Int) (c d : Int) (hc : 0 ≤ c ∧ c ≤ 255) (hd : 0 ≤ d ∧ d ≤ 255) (h : sumOf (a ++ c :: b) = sumOf (a ++ d :: b)) : c = d := by
  have := sumOf_inj h
  rw [fold_append, fold_append] at this
  exact stp_inj_right hc hd (fold_inj b this)

theorem half (x : BitVec 32) : Int.ofNat x.toNat / (2 : Int) = Int.ofNat (x >>> 1).toNat := by
  rw [BitVec.toNat_ushiftRight, Nat.shiftRight_eq_div_pow]; simp only [Int.ofNat_eq_natCast]; omega
theorem lsb (x : BitVec 32) : x.getLsbD 0 = true ↔ (x.toNat : Int) % 2 = 1 := by
  rw [BitVec.getLsbD, Nat.testBit_zero]; simp; omega
theorem R_odd {x : BitVec 32} (h : (x.toNat : Int) % 2 = 1) : wrapb .u32 .xor ((x.toNat : Int) / 2) 3988292384 = ((R x).toNat : Int) := by
  have hh : (x.toNat : Int) / (2 : Int) = ((x >>> 1).toNat : Int) := half x
  rw [hh, show (3988292384 : Int) = (P.toNat : Int) from rfl, xor32]
  unfold R; rw [if_pos ((lsb x).2 h)]
theorem R_even {x : BitVec 32} (h : ¬ (x.toNat : Int) % 2 = 1) : (x.toNat : Int) / 2 = ((R x).toNat : Int) := by
  have hh : (x.toNat : Int) / (2 : Int) = ((x >>> 1).toNat : Int) := half x
  rw [hh]
  unfold R; rw [if_neg (fun hh => h ((lsb x).1 hh))]; simp

theorem not32 (x : BitVec 32) : wrapb .u32 .xor 4294967295 (x.toNat : Int) = ((~~~ x).toNat : Int) := by
  rw [show (4294967295 : Int) = ((BitVec.allOnes 32).toNat : Int) from rfl, xor32, BitVec.allOnes_xor]
theorem drop_cons {l : List Int} {i : Nat} (h : i < l.length) : l.drop i = l[i] :: l.drop (i + 1) := List.drop_eq_getElem_cons h
end Go.Eng.LCrc
