/- Three rows of bytes, as long as one another, turned into one another, have the sum that their sums have so, for all bytes. Conditions: none beyond the statement's own. -/
import Derived.Test.YtdnaeganhnnffaaCrc3
import Derived.Test.YtdnaeganhnnffaaPAllx4
namespace Go.Proofs.Ytdnaeganhnnffaa.Pure
set_option linter.unusedVariables false
set_option linter.unusedSimpArgs false
open Go.RowKit Go.Proofs.Ytdnaeganhnnffaa.PAll Go.Proofs.YtdnaeganhnnffaaW.PrintWords Go.Proofs.YtdnaeganhnnffaaW.EvL Go.Proofs.Ytdnaeganhnnffaa.CrcL

theorem xor8w {a b : Int} : Go.bits .xor .u8 a b = ((BitVec.ofInt 8 a ^^^ BitVec.ofInt 8 b).toNat : Int) := by
  show IntKind.u8.wrap ((BitVec.ofInt 8 a ^^^ BitVec.ofInt 8 b).toNat : Int) = _
  have := (BitVec.ofInt 8 a ^^^ BitVec.ofInt 8 b).isLt
  have hw : ∀ x : Int, IntKind.u8.wrap x = x % 256 := fun x => by simp [IntKind.wrap, IntKind.bits, IntKind.signed]
  rw [hw]; omega
theorem wide8 {a : Int} (ha : 0 ≤ a ∧ a ≤ 255) : BitVec.ofInt 32 a = (BitVec.ofInt 8 a).setWidth 32 := by
  apply BitVec.eq_of_toNat_eq
  rw [BitVec.toNat_setWidth, BitVec.toNat_ofInt, BitVec.toNat_ofInt]; omega
theorem xor8_wide {a b : Int} (ha : 0 ≤ a ∧ a ≤ 255) (hb : 0 ≤ b ∧ b ≤ 255) : BitVec.ofInt 32 (Go.bits .xor .u8 a b) = BitVec.ofInt 32 a ^^^ BitVec.ofInt 32 b := by
  rw [xor8w, wide8 ha, wide8 hb, ← BitVec.setWidth_xor]
  apply BitVec.eq_of_toNat_eq
  rw [BitVec.toNat_setWidth, BitVec.toNat_ofInt]; have := (BitVec.ofInt 8 a ^^^ BitVec.ofInt 8 b).isLt; omega
theorem xor8_rg (a b : Int) : 0 ≤ Go.bits .xor .u8 a b ∧ Go.bits .xor .u8 a b ≤ 255 := by
  rw [xor8w]; have := (BitVec.ofInt 8 a ^^^ BitVec.ofInt 8 b).isLt; omega

def x3 (a b c : List Int) : List Int := List.zipWith (fun p c => Go.bits .xor .u8 p c) (List.zipWith (fun a b => Go.bits .xor .u8 a b) a b) c
theorem fold_x3 : ∀ (a b c : List Int) (r s t : BitVec 32), a.length = b.length → b.length = c.length → (∀ x ∈ a, 0 ≤ x ∧ x ≤ 255) → (∀ x ∈ b, 0 ≤ x ∧ x ≤ 255) → (∀ x ∈ c, 0 ≤ x ∧ x ≤ 255) →
    fold (r ^^^ s ^^^ t) (x3 a b c) = fold r a ^^^ fold s b ^^^ fold t c
  | [], [], [], _, _, _, _, _, _, _, _ => rfl
  | x :: a, y :: b, z :: c, r, s, t, h1, h2, ha, hb, hc => by
    have hx := ha x (by simp); have hy := hb y (by simp); have hz := hc z (by simp)
    have ih := fold_x3 a b c (stp r x) (stp s y) (stp t z) (by simpa using h1) (by simpa using h2) (fun q hq => ha q (by simp [hq])) (fun q hq => hb q (by simp [hq])) (fun q hq => hc q (by simp [hq]))
    show fold (stp (r ^^^ s ^^^ t) (Go.bits .xor .u8 (Go.bits .xor .u8 x y) z)) (x3 a b c) = fold (stp r x) a ^^^ fold (stp s y) b ^^^ fold (stp t z) c
    rw [← ih]
    congr 1
    unfold stp
    rw [← Rn_xor, ← Rn_xor]
    congr 1
    rw [xor8_wide (xor8_rg x y) hz, xor8_wide hx hy]
    apply BitVec.eq_of_getLsbD_eq
    intro i hi
    simp only [BitVec.getLsbD_xor]
    cases r.getLsbD i <;> cases s.getLsbD i <;> cases t.getLsbD i <;> cases (BitVec.ofInt 32 x).getLsbD i <;> cases (BitVec.ofInt 32 y).getLsbD i <;> cases (BitVec.ofInt 32 z).getLsbD i <;> rfl
theorem sum_x3 (a b c : List Int) (h1 : a.length = b.length) (h2 : b.length = c.length) (ha : ∀ x ∈ a, 0 ≤ x ∧ x ≤ 255) (hb : ∀ x ∈ b, 0 ≤ x ∧ x ≤ 255) (hc : ∀ x ∈ c, 0 ≤ x ∧ x ≤ 255) :
    sumOf (x3 a b c) = Go.bits .xor .u32 (Go.bits .xor .u32 (sumOf a) (sumOf b)) (sumOf c) := by
  have h := fold_x3 a b c (BitVec.allOnes 32) (BitVec.allOnes 32) (BitVec.allOnes 32) h1 h2 ha hb hc
  have e : BitVec.allOnes 32 ^^^ BitVec.allOnes 32 ^^^ BitVec.allOnes 32 = BitVec.allOnes 32 := by decide
  rw [e] at h
  unfold sumOf
  rw [xor32, xor32, h]
  congr 2
  apply BitVec.eq_of_getLsbD_eq
  intro i hi
  simp only [BitVec.getLsbD_xor, BitVec.getLsbD_not, hi]
  cases (fold (BitVec.allOnes 32) a).getLsbD i <;> cases (fold (BitVec.allOnes 32) b).getLsbD i <;> cases (fold (BitVec.allOnes 32) c).getLsbD i <;> rfl

theorem x3_len (a b c : List Int) (n : Nat) (ha : a.length = n) (hb : b.length = n) (hc : c.length = n) : (x3 a b c).length = n := by unfold x3; simp; omega

theorem loop (a b c : List Int) (n : Nat) (hn : n ≤ 140737488351232) (ha : n ≤ a.length) (hb : n ≤ b.length) (hc : n ≤ c.length) (r : Bool) :
    ∀ (d i : Nat) (D : List Int), i + d = n → D.length = n → D.take i = x3 (a.take i) (b.take i) (c.take i) →
      (∀ D' : List Int, D' = x3 (a.take n) (b.take n) (c.take n) → Ev (fun k => (crc_Sum.f k D').bind fun t128 => (if 0 ≤ (n : Int) then (if (n : Int) ≤ (a.length : Int) then ((crc_Sum.f k (a.take (n : Int).toNat)).bind fun t130 => (if (n : Int) ≤ (b.length : Int) then ((crc_Sum.f k (b.take (n : Int).toNat)).bind fun t132 => (if (n : Int) ≤ (c.length : Int) then ((crc_Sum.f k (c.take (n : Int).toNat)).bind fun t134 => (some (t128 == (Go.bits .xor .u32 (Go.bits .xor .u32 t130 t132) t134)))) else (none))) else (none))) else (none)) else (none))) r) →
      Ev (fun k => hawalalaw03_CrcThree.l0 k a b c (n : Int) D (n : Int) (i : Int)) r
  | 0, i, D, h, hD, ht, hend => by
    refine Ev.step (fun k => rfl) ?_
    simp only [hawalalaw03_CrcThree.l0]
    refine evElse (by omega) (hend D ?_)
    obtain rfl : i = n := by omega
    rw [← ht, List.take_of_length_le (by omega)]
  | d + 1, i, D, h, hD, ht, hend => by
    refine Ev.step (fun k => rfl) ?_
    simp only [hawalalaw03_CrcThree.l0]
    refine evIf (by omega) (evIf (by omega) (evIf (by omega) (evIf (by omega) (evIf (by omega) (evIf (by omega) ?_)))))
    rw [rd_nat a i (by omega), rd_nat b i (by omega), rd_nat c i (by omega), w64 (by omega) (by omega), Int.toNat_natCast]
    refine loop a b c n hn ha hb hc r d (i + 1) (D.set i _) (by omega) (by simp [hD]) ?_ hend
    rw [List.take_add_one, List.take_set_of_le (by omega), ht]
    rw [List.take_add_one, List.take_add_one, List.take_add_one]
    rw [List.getElem?_set_self (by omega), List.getElem?_eq_getElem (show i < a.length by omega), List.getElem?_eq_getElem (show i < b.length by omega), List.getElem?_eq_getElem (show i < c.length by omega)]
    unfold x3
    simp only [Option.toList_some]
    rw [List.zipWith_append (by simp; omega), List.zipWith_append (by simp; omega)]
    rfl

theorem mn_nat (a b : Nat) : mn (a : Int) (b : Int) = ((min a b : Nat) : Int) := by unfold mn; split <;> omega

theorem CrcThree : hawalalaw03_CrcThree.Pure := by
  intro a b c ha hb hc
  have hla : a.length ≤ 140737488351232 := by have := ha.2.1; omega
  have hlb : b.length ≤ 140737488351232 := by have := hb.2.1; omega
  have hlc : c.length ≤ 140737488351232 := by have := hc.2.1; omega
  have hba : ∀ n, ∀ x ∈ a.take n, 0 ≤ x ∧ x ≤ 255 := fun n x hx => wf_u8 (ha.2.2 x (List.mem_of_mem_take hx))
  have hbb : ∀ n, ∀ x ∈ b.take n, 0 ≤ x ∧ x ≤ 255 := fun n x hx => wf_u8 (hb.2.2 x (List.mem_of_mem_take hx))
  have hbc : ∀ n, ∀ x ∈ c.take n, 0 ≤ x ∧ x ≤ 255 := fun n x hx => wf_u8 (hc.2.2 x (List.mem_of_mem_take hx))
  apply evOf
  unfold hawalalaw03_CrcThree.f
  simp only [mn_nat]
  generalize hn : min (min a.length b.length) c.length = n
  refine Ev.bind awake_ev (evIf rfl (evIf (by omega) (evIf (by omega) (evBind1 rfl ?_))))
  rw [Int.toNat_natCast, List.length_replicate]
  refine loop a b c n (by omega) (by omega) (by omega) (by omega) true n 0 _ (by omega) (by simp) (by simp [x3]) ?_
  intro D hD
  have la : (a.take n).length = n := by simp; omega
  have lb : (b.take n).length = n := by simp; omega
  have lc : (c.take n).length = n := by simp; omega
  have hDl : D.length = n := by rw [hD]; exact x3_len _ _ _ n la lb lc
  rw [Int.toNat_natCast]
  refine Ev.bind (sum_ev D (by omega)) (evIf (by omega) (evIf (by omega) (Ev.bind (sum_ev _ (by omega)) (evIf (by omega) (Ev.bind (sum_ev _ (by omega)) (evIf (by omega) (Ev.bind (sum_ev _ (by omega)) (evConst ?_))))))))
  rw [hD, sum_x3 _ _ _ (by omega) (by omega) (hba n) (hbb n) (hbc n)]
  simp
end Go.Proofs.Ytdnaeganhnnffaa.Pure
