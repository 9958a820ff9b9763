/- Numbers' bytes, plain: what they are, how they are read; bits of unsigned numbers. -/
import Derived.Test.YtfbbcdkbgnmmcaaE30
set_option linter.all false
set_option linter.unusedVariables false
set_option linter.unusedSimpArgs false
set_option linter.deprecated false
namespace Go.Eng.LVar
open Go.RowKit Go.Eng
/-! ### bits -/
theorem wrapu64 (x : Int) : IntKind.u64.wrap x = x % 18446744073709551616 := by simp [IntKind.wrap, IntKind.bits, IntKind.signed]
theorem wrapu8 (x : Int) : IntKind.u8.wrap x = x % 256 := by simp [IntKind.wrap, IntKind.bits, IntKind.signed]
theorem wrapi64 (x : Int) : IntKind.i64.wrap x = (x + 9223372036854775808) % 18446744073709551616 - 9223372036854775808 := by
  simp [IntKind.wrap, IntKind.bits, IntKind.signed]; split <;> omega
theorem nat_or_add (a b i : Nat) (ha : a < 2 ^ i) : a ||| (b * 2 ^ i) = a + b * 2 ^ i := by
  rw [Nat.or_comm, Nat.mul_comm b, ← Nat.two_pow_add_eq_or_of_lt ha b, Nat.add_comm]
theorem ofInt_toNat64 (a : Nat) (h : a < 18446744073709551616) : (BitVec.ofInt 64 (a : Int)).toNat = a := by
  rw [BitVec.toNat_ofInt]; omega
theorem or64 (a b i : Nat) (ha : a < 2 ^ i) (h : a + b * 2 ^ i < 18446744073709551616) : wrapb .u64 .or (a : Int) ((b * 2 ^ i : Nat) : Int) = ((a + b * 2 ^ i : Nat) : Int) := by
  show IntKind.u64.wrap ((BitVec.ofInt 64 (a : Int) ||| BitVec.ofInt 64 ((b * 2 ^ i : Nat) : Int)).toNat : Int) = _
  rw [BitVec.toNat_or, ofInt_toNat64 a (by omega), ofInt_toNat64 _ (by omega), nat_or_add a b i ha, wrapu64]
  omega
theorem ofInt_toNat8 (a : Nat) (h : a < 256) : (BitVec.ofInt 8 (a : Int)).toNat = a := by
  rw [BitVec.toNat_ofInt]; omega
theorem or8 (a : Nat) (h : a < 256) : wrapb .u8 .or (a : Int) 128 = ((a % 128 + 128 : Nat) : Int) := by
  show IntKind.u8.wrap ((BitVec.ofInt 8 (a : Int) ||| BitVec.ofInt 8 128).toNat : Int) = _
  rw [BitVec.toNat_or, ofInt_toNat8 a h, show (BitVec.ofInt 8 128).toNat = 128 from rfl, wrapu8]
  have key : ∀ q : Fin 256, q.val ||| 128 = q.val % 128 + 128 := by decide +kernel
  have := key ⟨a, h⟩
  simp only at this
  rw [this]; omega
theorem and8 (a : Nat) (h : a < 256) : wrapb .u8 .and (a : Int) 127 = ((a % 128 : Nat) : Int) := by
  show IntKind.u8.wrap ((BitVec.ofInt 8 (a : Int) &&& BitVec.ofInt 8 127).toNat : Int) = _
  rw [BitVec.toNat_and, ofInt_toNat8 a h, show (BitVec.ofInt 8 127).toNat = 2 ^ 7 - 1 from rfl, Nat.and_two_pow_sub_one_eq_mod, wrapu8]
  omega
theorem and64_1 (a : Nat) (h : a < 18446744073709551616) : wrapb .u64 .and (a : Int) 1 = ((a % 2 : Nat) : Int) := by
  show IntKind.u64.wrap ((BitVec.ofInt 64 (a : Int) &&& BitVec.ofInt 64 1).toNat : Int) = _
  rw [BitVec.toNat_and, ofInt_toNat64 a h, show (BitVec.ofInt 64 1).toNat = 1 from rfl, Nat.and_one_is_mod, wrapu64]
  omega
theorem not64 (a : Nat) (h : a < 18446744073709551616) : wrapb .u64 .xor 18446744073709551615 (a : Int) = ((18446744073709551615 - a : Nat) : Int) := by
  show IntKind.u64.wrap ((BitVec.ofInt 64 18446744073709551615 ^^^ BitVec.ofInt 64 (a : Int)).toNat : Int) = _
  have e : BitVec.ofInt 64 18446744073709551615 = BitVec.allOnes 64 := by decide
  rw [e, BitVec.allOnes_xor, BitVec.toNat_not, ofInt_toNat64 a h, wrapu64]
  omega
theorem noti64 (a : Nat) (h : a < 9223372036854775808) : wrapb .i64 .xor (-1) (a : Int) = -1 - (a : Int) := by
  show IntKind.i64.wrap ((BitVec.ofInt 64 (-1) ^^^ BitVec.ofInt 64 (a : Int)).toNat : Int) = _
  have e : BitVec.ofInt 64 (-1) = BitVec.allOnes 64 := by decide
  rw [e, BitVec.allOnes_xor, BitVec.toNat_not, ofInt_toNat64 a (by omega), wrapi64]
  omega

/-! ### a number's bytes -/
/-- The pair's number: even ones are not below 0. -/
def zig (n : Int) : Nat := if n < 0 then (-2 * n - 1).toNat else (2 * n).toNat
def unzig (u : Nat) : Int := if u % 2 = 1 then -1 - ((u / 2 : Nat) : Int) else ((u / 2 : Nat) : Int)
theorem unzig_zig (n : Int) : unzig (zig n) = n := by unfold unzig zig; split <;> split <;> omega
theorem zig_unzig (u : Nat) : zig (unzig u) = u := by unfold unzig zig; split <;> split <;> omega
theorem zig_lt {n : Int} (h : -9223372036854775808 ≤ n ∧ n ≤ 9223372036854775807) : zig n < 18446744073709551616 := by unfold zig; split <;> omega
theorem unzig_range {u : Nat} (h : u < 18446744073709551616) : -9223372036854775808 ≤ unzig u ∧ unzig u ≤ 9223372036854775807 := by unfold unzig; split <;> omega
def enc (u : Nat) : List Int := if h : 128 ≤ u then ((u % 128 + 128 : Nat) : Int) :: enc (u / 128) else [(u : Int)]
termination_by u
theorem enc_big {u : Nat} (h : 128 ≤ u) : enc u = ((u % 128 + 128 : Nat) : Int) :: enc (u / 128) := by rw [enc]; simp [h]
theorem enc_small {u : Nat} (h : u < 128) : enc u = [(u : Int)] := by rw [enc]; simp; omega
theorem enc_byt (u : Nat) : Byt (enc u) := by
  induction u using Nat.strongRecOn with
  | _ u ih =>
    by_cases h : 128 ≤ u
    · rw [enc_big h]; exact Byt.cons (by omega) (ih _ (by omega))
    · rw [enc_small (by omega)]; exact Byt.cons (by omega) Byt.nil
theorem enc_ne (u : Nat) : enc u ≠ [] := by
  by_cases h : 128 ≤ u
  · rw [enc_big h]; simp
  · rw [enc_small (by omega)]; simp
theorem enc_len : ∀ (d u : Nat), u < 128 ^ (d + 1) → (enc u).length ≤ d + 1
  | 0, u, h => by rw [enc_small (by simpa using h)]; simp
  | d + 1, u, h => by
    by_cases hu : 128 ≤ u
    · rw [enc_big hu]
      have := enc_len d (u / 128) (by rw [Nat.pow_succ] at h; exact Nat.div_lt_of_lt_mul (by rw [Nat.mul_comm]; exact h))
      simp; omega
    · rw [enc_small (by omega)]; simp
theorem enc_len10 {u : Nat} (h : u < 18446744073709551616) : 1 ≤ (enc u).length ∧ (enc u).length ≤ 10 := by
  refine ⟨?_, enc_len 9 u (by have : (128 : Nat) ^ (9 + 1) = 1180591620717411303424 := by decide
                              omega)⟩
  have := enc_ne u
  have := List.length_pos_iff.2 this
  omega

/-- Numbers one behind the other. -/
def encs : List Int → List Int
  | [] => []
  | n :: ns => enc (zig n) ++ encs ns
theorem encs_byt : ∀ ns, Byt (encs ns)
  | [] => Byt.nil
  | n :: ns => Byt.append (enc_byt _) (encs_byt ns)
theorem encs_len : ∀ {ns : List Int}, I64 ns → (encs ns).length ≤ 10 * ns.length
  | [], _ => by simp [encs]
  | n :: ns, h => by
    have h1 := enc_len10 (zig_lt (h n (by simp)))
    have h2 := encs_len (ns := ns) (fun x hx => h x (by simp [hx]))
    simp only [encs, List.length_append, List.length_cons]; omega
/-! ### how it is read -/
/-- From place i on, u being read, p what the next byte counts. -/
def scan : (i : Nat) → (p : Nat) → List Int → (u : Nat) → Option (Nat × List Int)
  | _, _, [], _ => none
  | i, p, c :: r, u => if i = 9 ∧ 1 < c then none else if 128 ≤ c then scan (i + 1) (128 * p) r (u + (c.toNat - 128) * p) else if 0 < i ∧ c = 0 then none else some (u + c.toNat * p, r)
def get (b : List Int) : Option (Nat × List Int) := scan 0 1 b 0
def told (b : List Int) : Int × List Int × Bool := match get b with
  | none => (0, [], false)
  | some (u, r) => (unzig u, r, true)

theorem pow_le (i : Nat) (h : i ≤ 8) : 2 ^ (7 * i) ≤ 72057594037927936 := Nat.le_trans (Nat.pow_le_pow_right (by omega) (show 7 * i ≤ 56 by omega)) (by decide)
theorem pow9 : 2 ^ (7 * 9) = 9223372036854775808 := by decide
theorem pow_succ7 (i : Nat) : 2 ^ (7 * (i + 1)) = 128 * 2 ^ (7 * i) := by rw [show 7 * (i + 1) = 7 * i + 7 by omega, Nat.pow_add]; omega
theorem mul_lt128 {c p : Nat} (h : c < 128) (hp : 0 < p) : c * p + p ≤ 128 * p := by
  have := Nat.mul_le_mul_right p (show c + 1 ≤ 128 by omega)
  rw [Nat.add_mul, Nat.one_mul] at this; exact this

/-- What Get answers of what scan finds. -/
def ans : Option (Nat × List Int) → Int × List Int × Bool
  | none => (0, [], false)
  | some (u, r) => (unzig u, r, true)

/-! ### what is read has these bytes, and these bytes are read -/
theorem scan_sound : ∀ (l : List Int) (i p u v : Nat) (r : List Int), Byt l → i ≤ 9 → p = 2 ^ (7 * i) → u < p → scan i p l u = some (v, r) → ∃ w, v = u + w * p ∧ l = enc w ++ r ∧ (i = 0 ∨ 0 < w) ∧ v < 18446744073709551616
  | [], i, p, u, v, r, _, _, _, _, h => by simp [scan] at h
  | c :: l, i, p, u, v, r, hb, hi, hp, hu, h => by
    have hc := hb.head
    obtain ⟨c, rfl⟩ := Int.eq_ofNat_of_zero_le hc.1
    have hp0 : 0 < p := by rw [hp]; exact Nat.two_pow_pos _
    simp only [scan] at h
    by_cases h1 : i = 9 ∧ (1 : Int) < (c : Int)
    · rw [if_pos h1] at h; cases h
    · rw [if_neg h1] at h
      by_cases h2 : (128 : Int) ≤ (c : Int)
      · rw [if_pos h2] at h
        have h8 : i ≤ 8 := by
          rcases Nat.lt_or_ge i 9 with q | q
          · omega
          · exact absurd ⟨by omega, by omega⟩ h1
        have hcp := mul_lt128 (show (c : Int).toNat - 128 < 128 by omega) hp0
        obtain ⟨w, hv, hl, hw, hlt⟩ := scan_sound l (i + 1) (128 * p) _ v r hb.tail (by omega) (by rw [pow_succ7, hp]) (by omega) h
        have hw0 : 0 < w := by omega
        refine ⟨(c - 128) + 128 * w, ?_, ?_, Or.inr (by omega), hlt⟩
        · rw [hv, Int.toNat_natCast, Nat.add_mul, Nat.mul_assoc 128 w p, Nat.mul_left_comm w 128 p]; omega
        · rw [enc_big (by omega), hl, show ((c - 128 + 128 * w) % 128 + 128 : Nat) = c by omega, show (c - 128 + 128 * w) / 128 = w by omega]
          rfl
      · rw [if_neg h2] at h
        by_cases h3 : 0 < i ∧ (c : Int) = 0
        · rw [if_pos h3] at h; cases h
        · rw [if_neg h3] at h
          simp only [Option.some.injEq, Prod.mk.injEq] at h
          obtain ⟨rfl, rfl⟩ := h
          refine ⟨c, by rw [Int.toNat_natCast], by rw [enc_small (by omega)]; rfl, by omega, ?_⟩
          have hcp := mul_lt128 (show c < 128 by omega) hp0
          rw [Int.toNat_natCast]
          by_cases h8 : i ≤ 8
          · have := pow_le i h8; omega
          · obtain rfl : i = 9 := by omega
            have := pow9
            have : c * p ≤ 1 * p := Nat.mul_le_mul_right _ (by omega)
            omega
theorem scan_complete (d : Nat) : ∀ (w i p u : Nat) (r : List Int), w < d → i ≤ 9 → p = 2 ^ (7 * i) → (i = 0 ∨ 0 < w) → u + w * p < 18446744073709551616 → scan i p (enc w ++ r) u = some (u + w * p, r) := by
  induction d with
  | zero => intro w i p u r h; omega
  | succ d ih =>
    intro w i p u r hd hi hp hw hlt
    have h9 : i = 9 → w ≤ 1 := by
      rintro rfl
      rcases Nat.lt_or_ge w 2 with q | q
      · omega
      · have : 2 * p ≤ w * p := Nat.mul_le_mul_right _ q
        rw [hp, pow9] at this hlt; omega
    by_cases hb : 128 ≤ w
    · rw [enc_big hb]
      simp only [List.cons_append, scan]
      rw [if_neg (by rintro ⟨q, _⟩; have := h9 q; omega), if_pos (by omega), Int.toNat_natCast]
      have e : w % 128 + 128 - 128 = w % 128 := by omega
      have e2 : u + w * p = u + w % 128 * p + w / 128 * (128 * p) := by
        have : w * p = (w % 128 + 128 * (w / 128)) * p := by rw [Nat.mod_add_div]
        rw [this, Nat.add_mul, Nat.mul_assoc 128, Nat.mul_left_comm 128]; omega
      rw [e, e2]
      have hi8 : i ≤ 8 := by
        rcases Nat.lt_or_ge i 9 with q | q
        · omega
        · have := h9 (by omega); omega
      exact ih (w / 128) (i + 1) (128 * p) _ r (by omega) (by omega) (by rw [pow_succ7, hp]) (Or.inr (by omega)) (by omega)
    · rw [enc_small (by omega)]
      simp only [List.cons_append, List.nil_append, scan]
      rw [if_neg (by rintro ⟨q, q2⟩; have := h9 q; omega), if_neg (by omega), if_neg (by omega), Int.toNat_natCast]
theorem get_enc (u : Nat) (r : List Int) (h : u < 18446744073709551616) : get (enc u ++ r) = some (u, r) := by
  have := scan_complete (u + 1) u 0 1 0 r (by omega) (by omega) (by simp) (Or.inl rfl) (by omega)
  simpa [get] using this
theorem get_some {b : List Int} {u : Nat} {r : List Int} (hb : Byt b) (h : get b = some (u, r)) : b = enc u ++ r ∧ u < 18446744073709551616 := by
  obtain ⟨w, hv, hl, _, hlt⟩ := scan_sound b 0 1 0 u r hb (by omega) (by simp) (by omega) h
  have : u = w := by omega
  subst this
  exact ⟨hl, hlt⟩
/-- Numbers' bytes, none of which begins another one's. -/
theorem enc_prefix {u v : Nat} {r s : List Int} (hu : u < 18446744073709551616) (hv : v < 18446744073709551616) (h : enc u ++ r = enc v ++ s) : u = v ∧ r = s := by
  have h1 := get_enc u r hu
  rw [h, get_enc v s hv] at h1
  simp only [Option.some.injEq, Prod.mk.injEq] at h1
  exact ⟨h1.1.symm, h1.2.symm⟩
theorem get_nil : get [] = none := rfl
/-! ### so many numbers -/
def takes : Nat → List Int → Option (List Int × List Int)
  | 0, b => some ([], b)
  | n + 1, b => match get b with
    | none => none
    | some (u, r) => (takes n r).map fun p => (unzig u :: p.1, p.2)
def ansT : Option (List Int × List Int) → List Int × List Int × Bool
  | none => ([], [], false)
  | some (ns, r) => (ns, r, true)
theorem takes_sound : ∀ {n : Nat} {b ns r : List Int}, Byt b → takes n b = some (ns, r) → b = encs ns ++ r ∧ ns.length = n ∧ I64 ns
  | 0, b, ns, r, hb, h => by
    simp only [takes, Option.some.injEq, Prod.mk.injEq] at h
    obtain ⟨rfl, rfl⟩ := h
    exact ⟨rfl, rfl, fun x hx => by cases hx⟩
  | n + 1, b, ns, r, hb, h => by
    simp only [takes] at h
    split at h
    · cases h
    · rename_i u r1 hg
      obtain ⟨e1, e2⟩ := get_some hb hg
      cases ht : takes n r1 with
      | none => rw [ht] at h; cases h
      | some p =>
        rw [ht] at h
        simp only [Option.map_some, Option.some.injEq, Prod.mk.injEq] at h
        obtain ⟨rfl, rfl⟩ := h
        obtain ⟨q1, q2, q3⟩ := takes_sound (n := n) (b := r1) (ns := p.1) (r := p.2) (by rw [e1] at hb; exact hb.right) ht
        refine ⟨by rw [e1, encs, zig_unzig, List.append_assoc, ← q1], by simp [q2], fun x hx => ?_⟩
        rcases List.mem_cons.1 hx with rfl | hx
        · exact unzig_range e2
        · exact q3 x hx
theorem takes_encs : ∀ {ns : List Int} (r : List Int), I64 ns → takes ns.length (encs ns ++ r) = some (ns, r)
  | [], r, _ => rfl
  | n :: ns, r, h => by
    simp only [List.length_cons, takes, encs, List.append_assoc]
    rw [get_enc _ _ (zig_lt (h n (by simp)))]
    have ih := takes_encs (ns := ns) r (fun x hx => h x (by simp [hx]))
    simp only [ih, Option.map_some, unzig_zig]
theorem encs_app : ∀ (a b : List Int), encs (a ++ b) = encs a ++ encs b
  | [], b => rfl
  | x :: a, b => by simp only [List.cons_append, encs, encs_app a b, List.append_assoc]
theorem encs_inj : ∀ {a b : List Int} {r s : List Int}, I64 a → I64 b → a.length = b.length → encs a ++ r = encs b ++ s → a = b ∧ r = s
  | [], [], r, s, _, _, _, h => ⟨rfl, by simpa [encs] using h⟩
  | [], _ :: _, _, _, _, _, hl, _ => by simp at hl
  | _ :: _, [], _, _, _, _, hl, _ => by simp at hl
  | x :: a, y :: b, r, s, ha, hb, hl, h => by
    simp only [encs, List.append_assoc] at h
    obtain ⟨h1, h2⟩ := enc_prefix (zig_lt (ha x (by simp))) (zig_lt (hb y (by simp))) h
    obtain ⟨h3, h4⟩ := encs_inj (fun z hz => ha z (by simp [hz])) (fun z hz => hb z (by simp [hz])) (by simpa using hl) h2
    have : x = y := by rw [← unzig_zig x, h1, unzig_zig]
    exact ⟨by rw [this, h3], h4⟩
theorem get_len {b : List Int} {u : Nat} {r : List Int} (hb : Byt b) (h : get b = some (u, r)) : r.length ≤ b.length := by
  obtain ⟨e, _⟩ := get_some hb h
  rw [e]; simp
end Go.Eng.LVar
