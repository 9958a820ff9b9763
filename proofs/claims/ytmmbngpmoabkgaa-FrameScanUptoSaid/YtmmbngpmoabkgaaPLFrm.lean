/- Records as bytes, plain: what a record's bytes are, how they are read. -/
import Derived.Test.YtmmbngpmoabkgaaPLCrc
set_option linter.all false
set_option linter.unusedVariables false
set_option linter.unusedSimpArgs false
set_option linter.deprecated false
namespace Go.Eng.LFrm
open Go.Eng Go.Eng.LCrc
theorem or_i64 (a b : Nat) (ha : a < 256) (hb : b < 256) : wrapb .i64 .or ((a * 256 : Nat) : Int) (b : Int) = ((a * 256 + b : Nat) : Int) := by
  show w64 ((BitVec.ofInt 64 ((a * 256 : Nat) : Int) ||| BitVec.ofInt 64 (b : Int)).toNat : Int) = _
  have e1 : (BitVec.ofInt 64 ((a * 256 : Nat) : Int)).toNat = a * 256 := by rw [BitVec.toNat_ofInt]; omega
  have e2 : (BitVec.ofInt 64 (b : Int)).toNat = b := by rw [BitVec.toNat_ofInt]; omega
  rw [BitVec.toNat_or, e1, e2, Nat.mul_comm a 256, show (256 : Nat) = 2 ^ 8 from rfl, ← Nat.two_pow_add_eq_or_of_lt (show b < 2 ^ 8 by omega) a, w64_id (by omega)]
theorem or_u32 (i p a b : Nat) (hp : p = 2 ^ i) (h : p * a + b < 4294967296) (hb : b < p) : wrapb .u32 .or ((p * a : Nat) : Int) (b : Int) = ((p * a + b : Nat) : Int) := by
  show w32 ((BitVec.ofInt 32 ((p * a : Nat) : Int) ||| BitVec.ofInt 32 (b : Int)).toNat : Int) = _
  have e1 : (BitVec.ofInt 32 ((p * a : Nat) : Int)).toNat = p * a := by rw [BitVec.toNat_ofInt]; omega
  have e2 : (BitVec.ofInt 32 (b : Int)).toNat = b := by rw [BitVec.toNat_ofInt]; omega
  have e3 : p * a ||| b = p * a + b := by subst hp; exact (Nat.two_pow_add_eq_or_of_lt hb a).symm
  rw [BitVec.toNat_or, e1, e2, e3, w32_eq (by omega) (by omega)]
/-- Four bytes as a sum. -/
theorem four32 (a b c d : Nat) (ha : a < 256) (hb : b < 256) (hc : c < 256) (hd : d < 256) :
    wrapb .u32 .or (wrapb .u32 .or (wrapb .u32 .or (w32 (w32 (a : Int) * 16777216)) (w32 (w32 (b : Int) * 65536))) (w32 (w32 (c : Int) * 256))) (w32 (d : Int)) = ((a * 16777216 + b * 65536 + c * 256 + d : Nat) : Int) := by
  have w : ∀ x : Nat, x < 256 → w32 (x : Int) = (x : Int) := fun x hx => w32_eq (by omega) (by omega)
  rw [w a ha, w b hb, w c hc, w d hd]
  have e1 : w32 ((a : Int) * 16777216) = ((16777216 * a : Nat) : Int) := by rw [w32_eq (by omega) (by omega)]; omega
  have e2 : w32 ((b : Int) * 65536) = ((b * 65536 : Nat) : Int) := by rw [w32_eq (by omega) (by omega)]; omega
  have e3 : w32 ((c : Int) * 256) = ((c * 256 : Nat) : Int) := by rw [w32_eq (by omega) (by omega)]; omega
  rw [e1, e2, e3, or_u32 24 16777216 a (b * 65536) rfl (by omega) (by omega)]
  rw [show 16777216 * a + b * 65536 = 65536 * (256 * a + b) by omega, or_u32 16 65536 (256 * a + b) (c * 256) rfl (by omega) (by omega)]
  rw [show 65536 * (256 * a + b) + c * 256 = 256 * (256 * (256 * a + b) + c) by omega, or_u32 8 256 (256 * (256 * a + b) + c) d rfl (by omega) (by omega)]
  congr 1
  omega
/-- A record's head: its length, its sum. -/
def head (n s : Int) : List Int := [n / 256 % 256, n % 256, s / 16777216 % 256, s / 65536 % 256, s / 256 % 256, s % 256]
def fr (x : List Int) : List Int := head (x.length : Int) (sumOf x) ++ x
theorem fr_len (x : List Int) : (fr x).length = 6 + x.length := by simp [fr, head]; omega
theorem head_byt (n s : Int) : Byt (head n s) := by
  intro y hy
  simp only [head, List.mem_cons, List.not_mem_nil, or_false] at hy
  omega
theorem fr_byt {x : List Int} (h : Byt x) : Byt (fr x) := Byt.append (head_byt _ _) h
/-- What bytes tell of their head: a length, and a sum. -/
def lenOf (b : List Int) : Int := b.getD 0 0 * 256 + b.getD 1 0
def smOf (b : List Int) : Int := b.getD 2 0 * 16777216 + b.getD 3 0 * 65536 + b.getD 4 0 * 256 + b.getD 5 0
/-- The record that bytes begin with. -/
def rec1 (b : List Int) : Option (List Int) :=
  if b.length < 6 ∨ 16384 < lenOf b ∨ (b.length : Int) < 6 + lenOf b then none else if sumOf ((b.drop 6).take (lenOf b).toNat) = smOf b then some ((b.drop 6).take (lenOf b).toNat) else none
def ans1 : Option (List Int) → List Int × Int × Bool
  | none => ([], 0, false)
  | some x => (x, 6 + (x.length : Int), true)
theorem byt_get {b : List Int} (h : Byt b) (i : Nat) : 0 ≤ b.getD i 0 ∧ b.getD i 0 ≤ 255 := by
  rw [List.getD_eq_getElem?_getD]
  cases hq : b[i]? with
  | none => simp
  | some y => exact h y (List.mem_of_getElem? hq)
theorem lenOf_fr {x r : List Int} (hx : x.length ≤ 16384) : lenOf (fr x ++ r) = (x.length : Int) := by
  show (x.length : Int) / 256 % 256 * 256 + (x.length : Int) % 256 = _
  omega
theorem smOf_fr (x r : List Int) : smOf (fr x ++ r) = sumOf x := by
  show sumOf x / 16777216 % 256 * 16777216 + sumOf x / 65536 % 256 * 65536 + sumOf x / 256 % 256 * 256 + sumOf x % 256 = _
  have := sumOf_lt x
  omega
theorem drop_fr (x r : List Int) : (fr x ++ r).drop 6 = x ++ r := by simp [fr, head]
theorem one_fr (x r : List Int) (hx : x.length ≤ 16384) : rec1 (fr x ++ r) = some x := by
  unfold rec1
  rw [lenOf_fr hx, smOf_fr, drop_fr, Int.toNat_natCast, List.take_left']
  · rw [if_neg, if_pos rfl]
    rw [List.length_append, fr_len]
    omega
  · rfl
theorem six (b : List Int) (h : 6 ≤ b.length) : ∃ a0 a1 a2 a3 a4 a5 r, b = a0 :: a1 :: a2 :: a3 :: a4 :: a5 :: r := by
  rcases b with _ | ⟨a0, _ | ⟨a1, _ | ⟨a2, _ | ⟨a3, _ | ⟨a4, _ | ⟨a5, r⟩⟩⟩⟩⟩⟩ <;> first | exact ⟨_, _, _, _, _, _, _, rfl⟩ | (simp at h)
theorem one_some {b x : List Int} (hb : Byt b) (h : rec1 b = some x) : x.length ≤ 16384 ∧ 6 + x.length ≤ b.length ∧ b = fr x ++ b.drop (6 + x.length) := by
  unfold rec1 at h
  split at h
  · cases h
  · rename_i hc
    split at h
    · rename_i hs
      have h0 := byt_get hb 0
      have h1 := byt_get hb 1
      have h2 := byt_get hb 2
      have h3 := byt_get hb 3
      have h4 := byt_get hb 4
      have h5 := byt_get hb 5
      have hl0 : 0 ≤ lenOf b := by unfold lenOf; omega
      simp only [Option.some.injEq] at h
      have hxl : (x.length : Int) = lenOf b := by rw [← h, List.length_take, List.length_drop]; omega
      rw [h] at hs
      refine ⟨by omega, by omega, ?_⟩
      obtain ⟨a0, a1, a2, a3, a4, a5, r, hbb⟩ := six b (by omega)
      subst hbb
      · simp only [List.getD_cons_zero, List.getD_cons_succ] at h0 h1 h2 h3 h4 h5
        have e1 : (x.length : Int) = a0 * 256 + a1 := hxl
        have e2 : sumOf x = a2 * 16777216 + a3 * 65536 + a4 * 256 + a5 := hs
        have e3 : r.take (lenOf (a0 :: a1 :: a2 :: a3 :: a4 :: a5 :: r)).toNat = x := h
        have e4 : (lenOf (a0 :: a1 :: a2 :: a3 :: a4 :: a5 :: r)).toNat = x.length := by omega
        rw [e4] at e3
        have e5 : (a0 :: a1 :: a2 :: a3 :: a4 :: a5 :: r).drop (6 + x.length) = r.drop x.length := by
          rw [Nat.add_comm]
          rfl
        rw [e5]
        unfold fr head
        rw [e1, e2, List.append_assoc]
        conv => rhs; rhs; lhs; rw [← e3]
        rw [List.take_append_drop]
        rw [show (a0 * 256 + a1) / 256 % 256 = a0 by omega, show (a0 * 256 + a1) % 256 = a1 by omega, show (a2 * 16777216 + a3 * 65536 + a4 * 256 + a5) / 16777216 % 256 = a2 by omega,
          show (a2 * 16777216 + a3 * 65536 + a4 * 256 + a5) / 65536 % 256 = a3 by omega, show (a2 * 16777216 + a3 * 65536 + a4 * 256 + a5) / 256 % 256 = a4 by omega, show (a2 * 16777216 + a3 * 65536 + a4 * 256 + a5) % 256 = a5 by omega]
        rfl
    · cases h
/-! ### turned, and cut -/
theorem xor8 {c d : Int} (hc : 0 ≤ c ∧ c ≤ 255) (hd : 0 ≤ d ∧ d ≤ 255) : (0 ≤ wrapb .u8 .xor c d ∧ wrapb .u8 .xor c d ≤ 255) ∧ (wrapb .u8 .xor c d = c ↔ d = 0) := by
  have e : wrapb .u8 .xor c d = ((BitVec.ofInt 8 c ^^^ BitVec.ofInt 8 d).toNat : Int) := by
    show w8 ((BitVec.ofInt 8 c ^^^ BitVec.ofInt 8 d).toNat : Int) = _
    have := (BitVec.ofInt 8 c ^^^ BitVec.ofInt 8 d).isLt
    rw [w8_mod]; omega
  rw [e]
  have hlt := (BitVec.ofInt 8 c ^^^ BitVec.ofInt 8 d).isLt
  have ec : ((BitVec.ofInt 8 c).toNat : Int) = c := by rw [BitVec.toNat_ofInt]; omega
  have ed : ((BitVec.ofInt 8 d).toNat : Int) = d := by rw [BitVec.toNat_ofInt]; omega
  refine ⟨by omega, ⟨fun h => ?_, fun h => ?_⟩⟩
  · have h1 : BitVec.ofInt 8 c ^^^ BitVec.ofInt 8 d = BitVec.ofInt 8 c := BitVec.eq_of_toNat_eq (by omega)
    have h2 : BitVec.ofInt 8 d = 0#8 := by
      have := congrArg (fun z => BitVec.ofInt 8 c ^^^ z) h1
      simpa [← BitVec.xor_assoc] using this
    rw [h2] at ed
    have : (0#8 : BitVec 8).toNat = 0 := rfl
    omega
  · subst h
    have : BitVec.ofInt 8 0 = 0#8 := rfl
    rw [this, BitVec.xor_zero, ec]
theorem lenOf_set {b : List Int} {j : Nat} {v : Int} (hj : 2 ≤ j) : lenOf (b.set j v) = lenOf b := by
  unfold lenOf
  simp only [List.getD_eq_getElem?_getD]
  rw [List.getElem?_set_ne (by omega), List.getElem?_set_ne (by omega)]
/-- A record of which a byte is turned, behind its length. -/
theorem turned (x : List Int) (hx : Byt x) (hl : x.length ≤ 16384) (j : Nat) (hj : 2 ≤ j) (hj2 : j < 6 + x.length) (v : Int) (hv : 0 ≤ v ∧ v ≤ 255) : (rec1 ((fr x).set j v)).isSome = decide (v = (fr x).getD j 0) := by
  have hfl := fr_len x
  by_cases he : v = (fr x).getD j 0
  · rw [decide_eq_true he]
    have : (fr x).set j v = fr x := by
      rw [he, getD_at _ _ _ (by omega), List.set_getElem_self]
    rw [this]
    have := one_fr x [] hl
    rw [List.append_nil] at this
    rw [this]; rfl
  · rw [decide_eq_false he]
    have hn : rec1 ((fr x).set j v) = none := by
      unfold rec1
      have hlo : lenOf ((fr x).set j v) = (x.length : Int) := by
        rw [lenOf_set hj]
        have := lenOf_fr (x := x) (r := []) hl
        rwa [List.append_nil] at this
      rw [hlo, Int.toNat_natCast]
      rw [if_neg (by rw [List.length_set]; omega)]
      rw [if_neg]
      intro hs
      by_cases h6 : j < 6
      · have hb : ((fr x).set j v).drop 6 = x := by
          rw [List.drop_set_of_lt h6]
          have := drop_fr x []
          simpa using this
        rw [hb, List.take_length] at hs
        have hsm := smOf_fr x []
        rw [List.append_nil] at hsm
        rw [← hsm] at hs
        have hfx : fr x = (fr x).getD 0 0 :: (fr x).getD 1 0 :: (fr x).getD 2 0 :: (fr x).getD 3 0 :: (fr x).getD 4 0 :: (fr x).getD 5 0 :: x := rfl
        generalize (fr x).getD 0 0 = a0 at *
        generalize (fr x).getD 1 0 = a1 at *
        generalize h2 : (fr x).getD 2 0 = a2 at *
        generalize h3 : (fr x).getD 3 0 = a3 at *
        generalize h4 : (fr x).getD 4 0 = a4 at *
        generalize h5 : (fr x).getD 5 0 = a5 at *
        rw [hfx] at hs
        rcases (by omega : j = 2 ∨ j = 3 ∨ j = 4 ∨ j = 5) with rfl | rfl | rfl | rfl
        · replace hs : a2 * 16777216 + a3 * 65536 + a4 * 256 + a5 = v * 16777216 + a3 * 65536 + a4 * 256 + a5 := hs
          exact he (by rw [h2]; omega)
        · replace hs : a2 * 16777216 + a3 * 65536 + a4 * 256 + a5 = a2 * 16777216 + v * 65536 + a4 * 256 + a5 := hs
          exact he (by rw [h3]; omega)
        · replace hs : a2 * 16777216 + a3 * 65536 + a4 * 256 + a5 = a2 * 16777216 + a3 * 65536 + v * 256 + a5 := hs
          exact he (by rw [h4]; omega)
        · replace hs : a2 * 16777216 + a3 * 65536 + a4 * 256 + a5 = a2 * 16777216 + a3 * 65536 + a4 * 256 + v := hs
          exact he (by rw [h5]; omega)
      · have e6 : (fr x).set j v = head (x.length : Int) (sumOf x) ++ x.set (j - 6) v := by
          unfold fr
          rw [List.set_append_right _ _ (by show 6 ≤ j; omega)]
          rfl
        rw [e6] at hs
        have hlt : j - 6 < x.length := by omega
        have hs1 : smOf (head (x.length : Int) (sumOf x) ++ x.set (j - 6) v) = sumOf x := by
          have := smOf_fr x []
          rw [List.append_nil] at this
          exact this
        have hs2 : (head (x.length : Int) (sumOf x) ++ x.set (j - 6) v).drop 6 = x.set (j - 6) v := rfl
        rw [hs1, hs2, List.take_of_length_le (by rw [List.length_set]; omega)] at hs
        have hxj := hx x[j - 6] (List.getElem_mem hlt)
        have hd : x = x.take (j - 6) ++ x[j - 6] :: x.drop (j - 6 + 1) := by
          rw [← List.drop_eq_getElem_cons hlt, List.take_append_drop]
        have hsx : x.set (j - 6) v = x.take (j - 6) ++ v :: x.drop (j - 6 + 1) := by
          rw [List.set_eq_take_append_cons_drop, if_pos hlt]
        rw [hsx] at hs
        conv at hs => rhs; rw [hd]
        have := sum_turned (x.take (j - 6)) (x.drop (j - 6 + 1)) v x[j - 6] hv hxj hs
        apply he
        rw [this, getD_at _ _ _ (by omega)]
        unfold fr
        rw [List.getElem_append_right (by show 6 ≤ j; omega)]
        rfl
    rw [hn]; rfl
theorem cut_none (x : List Int) (hl : x.length ≤ 16384) (q : Nat) (hq : q < 6 + x.length) : rec1 ((fr x).take q) = none := by
  have hfl := fr_len x
  have hlen : ((fr x).take q).length = q := by rw [List.length_take]; omega
  unfold rec1
  by_cases h6 : q < 6
  · rw [if_pos (.inl (by omega))]
  · have hlo : lenOf ((fr x).take q) = (x.length : Int) := by
      have := lenOf_fr (x := x) (r := []) hl
      rw [List.append_nil] at this
      rw [← this]
      unfold lenOf
      simp only [List.getD_eq_getElem?_getD]
      rw [List.getElem?_take_of_lt (by omega), List.getElem?_take_of_lt (by omega)]
    rw [if_pos (.inr (.inr (by rw [hlo, hlen]; omega)))]
end Go.Eng.LFrm
