/- Lemmas of this session: a number's bytes, and how they are read: what Put lays, and what Get finds, as plain functions on lists. -/
import Derived.Test.YtfbbcdkbgnmmcaaWEv
import Derived.Test.YtfbbcdkbgnmmcaaWBs
import Derived.Test.YtfbbcdkbgnmmcaaPAllx1
import Derived.Test.YtfbbcdkbgnmmcaaPAllx1
import Derived.Test.YtfbbcdkbgnmmcaaPAllx4
namespace Go.Proofs.Ytfbbcdkbgnmmcaa.VarL
set_option linter.unusedVariables false
open Go.RowKit Go.Proofs.Ytfbbcdkbgnmmcaa.PAll Go.Proofs.YtfbbcdkbgnmmcaaW.PrintWords Go.Proofs.YtfbbcdkbgnmmcaaW.PrintMore Go.Proofs.YtfbbcdkbgnmmcaaW.EvL Go.Proofs.YtfbbcdkbgnmmcaaW.Bs

/-! ### bits -/
theorem wrapu64 (x : Int) : IntKind.u64.wrap x = x % 18446744073709551616 := by simp [IntKind.wrap, IntKind.bits, IntKind.signed]
theorem wrapu8 (x : Int) : IntKind.u8.wrap x = x % 256 := by simp [IntKind.wrap, IntKind.bits, IntKind.signed]
theorem wrapi64 (x : Int) : IntKind.i64.wrap x = wrap64 x := by
  unfold wrap64; simp [IntKind.wrap, IntKind.bits, IntKind.signed]; split <;> omega
theorem nat_or_add (a b i : Nat) (ha : a < 2 ^ i) : a ||| (b * 2 ^ i) = a + b * 2 ^ i := by
  rw [Nat.or_comm, Nat.mul_comm b, ← Nat.two_pow_add_eq_or_of_lt ha b, Nat.add_comm]
theorem ofInt_toNat64 (a : Nat) (h : a < 18446744073709551616) : (BitVec.ofInt 64 (a : Int)).toNat = a := by
  rw [BitVec.toNat_ofInt]; omega
theorem or64 (a b i : Nat) (ha : a < 2 ^ i) (h : a + b * 2 ^ i < 18446744073709551616) : Go.bits .or .u64 (a : Int) ((b * 2 ^ i : Nat) : Int) = ((a + b * 2 ^ i : Nat) : Int) := by
  show IntKind.u64.wrap ((BitVec.ofInt 64 (a : Int) ||| BitVec.ofInt 64 ((b * 2 ^ i : Nat) : Int)).toNat : Int) = _
  rw [BitVec.toNat_or, ofInt_toNat64 a (by omega), ofInt_toNat64 _ (by omega), nat_or_add a b i ha, wrapu64]
  omega
theorem ofInt_toNat8 (a : Nat) (h : a < 256) : (BitVec.ofInt 8 (a : Int)).toNat = a := by
  rw [BitVec.toNat_ofInt]; omega
theorem or8 (a : Nat) (h : a < 256) : Go.bits .or .u8 (a : Int) 128 = ((a % 128 + 128 : Nat) : Int) := by
  show IntKind.u8.wrap ((BitVec.ofInt 8 (a : Int) ||| BitVec.ofInt 8 128).toNat : Int) = _
  rw [BitVec.toNat_or, ofInt_toNat8 a h, show (BitVec.ofInt 8 128).toNat = 128 from rfl, wrapu8]
  have key : ∀ q : Fin 256, q.val ||| 128 = q.val % 128 + 128 := by decide +kernel
  have := key ⟨a, h⟩
  simp only at this
  rw [this]; omega
theorem and8 (a : Nat) (h : a < 256) : Go.bits .and .u8 (a : Int) 127 = ((a % 128 : Nat) : Int) := by
  show IntKind.u8.wrap ((BitVec.ofInt 8 (a : Int) &&& BitVec.ofInt 8 127).toNat : Int) = _
  rw [BitVec.toNat_and, ofInt_toNat8 a h, show (BitVec.ofInt 8 127).toNat = 2 ^ 7 - 1 from rfl, Nat.and_two_pow_sub_one_eq_mod, wrapu8]
  omega
theorem and64_1 (a : Nat) (h : a < 18446744073709551616) : Go.bits .and .u64 (a : Int) 1 = ((a % 2 : Nat) : Int) := by
  show IntKind.u64.wrap ((BitVec.ofInt 64 (a : Int) &&& BitVec.ofInt 64 1).toNat : Int) = _
  rw [BitVec.toNat_and, ofInt_toNat64 a h, show (BitVec.ofInt 64 1).toNat = 1 from rfl, Nat.and_one_is_mod, wrapu64]
  omega
theorem not64 (a : Nat) (h : a < 18446744073709551616) : Go.bits .xor .u64 18446744073709551615 (a : Int) = ((18446744073709551615 - a : Nat) : Int) := by
  show IntKind.u64.wrap ((BitVec.ofInt 64 18446744073709551615 ^^^ BitVec.ofInt 64 (a : Int)).toNat : Int) = _
  have e : BitVec.ofInt 64 18446744073709551615 = BitVec.allOnes 64 := by decide
  rw [e, BitVec.allOnes_xor, BitVec.toNat_not, ofInt_toNat64 a h, wrapu64]
  omega
theorem noti64 (a : Nat) (h : a < 9223372036854775808) : Go.bits .xor .i64 (-1) (a : Int) = -1 - (a : Int) := by
  show IntKind.i64.wrap ((BitVec.ofInt 64 (-1) ^^^ BitVec.ofInt 64 (a : Int)).toNat : Int) = _
  have e : BitVec.ofInt 64 (-1) = BitVec.allOnes 64 := by decide
  rw [e, BitVec.allOnes_xor, BitVec.toNat_not, ofInt_toNat64 a (by omega), wrapi64]
  unfold wrap64
  omega

/-! ### a number's bytes -/
/-- The pair's number: even ones are not below 0. -/
def zig (n : Int) : Nat := if n < 0 then (-2 * n - 1).toNat else (2 * n).toNat
def unzig (u : Nat) : Int := if u % 2 = 1 then -1 - ((u / 2 : Nat) : Int) else ((u / 2 : Nat) : Int)
theorem unzig_zig (n : Int) : unzig (zig n) = n := by unfold unzig zig; split <;> split <;> omega
theorem zig_unzig (u : Nat) : zig (unzig u) = u := by unfold unzig zig; split <;> split <;> omega
theorem zig_lt {n : Int} (h : -9223372036854775808 ≤ n ∧ n ≤ 9223372036854775807) : zig n < 18446744073709551616 := by unfold zig; split <;> omega
theorem unzig_range {u : Nat} (h : u < 18446744073709551616) : -9223372036854775808 ≤ unzig u ∧ unzig u ≤ 9223372036854775807 := by unfold unzig; split <;> omega
def enc (u : Nat) : List Int := if h : 128 ≤ u then ((u % 128 + 128 : Nat) : Int) :: enc (u / 128) else [(u : Int)]
termination_by u
theorem enc_big {u : Nat} (h : 128 ≤ u) : enc u = ((u % 128 + 128 : Nat) : Int) :: enc (u / 128) := by rw [enc]; simp [h]
theorem enc_small {u : Nat} (h : u < 128) : enc u = [(u : Int)] := by rw [enc]; simp; omega
theorem enc_byt (u : Nat) : Byt (enc u) := by
  induction u using Nat.strongRecOn with
  | _ u ih =>
    by_cases h : 128 ≤ u
    · rw [enc_big h]; exact Byt.cons (by omega) (ih _ (by omega))
    · rw [enc_small (by omega)]; exact Byt.cons (by omega) Byt.nil
theorem enc_ne (u : Nat) : enc u ≠ [] := by
  by_cases h : 128 ≤ u
  · rw [enc_big h]; simp
  · rw [enc_small (by omega)]; simp
theorem enc_len : ∀ (d u : Nat), u < 128 ^ (d + 1) → (enc u).length ≤ d + 1
  | 0, u, h => by rw [enc_small (by simpa using h)]; simp
  | d + 1, u, h => by
    by_cases hu : 128 ≤ u
    · rw [enc_big hu]
      have := enc_len d (u / 128) (by rw [Nat.pow_succ] at h; exact Nat.div_lt_of_lt_mul (by rw [Nat.mul_comm]; exact h))
      simp; omega
    · rw [enc_small (by omega)]; simp
theorem enc_len10 {u : Nat} (h : u < 18446744073709551616) : 1 ≤ (enc u).length ∧ (enc u).length ≤ 10 := by
  refine ⟨?_, enc_len 9 u (by have : (128 : Nat) ^ (9 + 1) = 1180591620717411303424 := by decide
                              omega)⟩
  have := enc_ne u
  have := List.length_pos_iff.2 this
  omega

theorem put_l0 (d : Nat) : ∀ (u : Nat) (x : List Int), u < d → u < 18446744073709551616 → x.length + (enc u).length ≤ 140737488355328 → Ev (fun k => varint_Put.l0 k x (u : Int)) (x ++ enc u) := by
  induction d with
  | zero => intro u x h; omega
  | succ d ih =>
    intro u x h hu hx
    refine Ev.step (fun k => rfl) ?_
    simp only [varint_Put.l0]
    by_cases hb : 128 ≤ u
    · rw [enc_big hb] at hx ⊢
      simp only [List.length_cons] at hx
      have hl := List.length_pos_iff.2 (enc_ne (u / 128))
      refine evIf (by omega) (evIf (by omega) ?_)
      have e1 : (u : Int) % 256 = ((u % 256 : Nat) : Int) := by omega
      have e2 : (u : Int) / 128 = ((u / 128 : Nat) : Int) := by omega
      rw [e1, e2, or8 _ (by omega)]
      have e3 : u % 256 % 128 = u % 128 := by omega
      rw [e3, show (x ++ ((u % 128 + 128 : Nat) : Int) :: enc (u / 128)) = (x ++ [((u % 128 + 128 : Nat) : Int)]) ++ enc (u / 128) by simp]
      exact ih (u / 128) _ (by omega) (by omega) (by simp; omega)
    · rw [enc_small (by omega)] at hx ⊢
      simp only [List.length_singleton] at hx
      refine evElse (by omega) (evIf (by omega) (evConst ?_))
      rw [show (u : Int) % 256 = (u : Int) by omega]
theorem put_ev (x : List Int) (n : Int) (hn : -9223372036854775808 ≤ n ∧ n ≤ 9223372036854775807) (hx : x.length + 20 ≤ 140737488355328) : Ev (fun k => varint_Put.f k x n) (x ++ enc (zig n)) := by
  have hz := zig_lt hn
  have hl := enc_len10 hz
  have main : Ev (fun k => varint_Put.j0 k x (zig n : Int)) (x ++ enc (zig n)) := by
    refine Ev.step (fun k => rfl) ?_
    simp only [varint_Put.j0]
    exact put_l0 (zig n + 1) (zig n) x (by omega) hz (by omega)
  unfold varint_Put.f
  by_cases h : n < 0
  · refine evIf h ?_
    have e : IntKind.u64.wrap (IntKind.u64.wrap n * 2) = ((18446744073709551615 - zig n : Nat) : Int) := by
      rw [wrapu64, wrapu64]; unfold zig; rw [if_pos h]; omega
    rw [e, not64 _ (by omega), show 18446744073709551615 - (18446744073709551615 - zig n) = zig n by omega]
    exact main
  · refine evElse h ?_
    have e : IntKind.u64.wrap (IntKind.u64.wrap n * 2) = (zig n : Int) := by
      rw [wrapu64, wrapu64]; unfold zig; rw [if_neg h]; omega
    rw [e]
    exact main
/-- Numbers one behind the other. -/
def encs : List Int → List Int
  | [] => []
  | n :: ns => enc (zig n) ++ encs ns
theorem encs_byt : ∀ ns, Byt (encs ns)
  | [] => Byt.nil
  | n :: ns => Byt.append (enc_byt _) (encs_byt ns)
def I64 (ns : List Int) : Prop := ∀ x ∈ ns, -9223372036854775808 ≤ x ∧ x ≤ 9223372036854775807
theorem encs_len : ∀ {ns : List Int}, I64 ns → (encs ns).length ≤ 10 * ns.length
  | [], _ => by simp [encs]
  | n :: ns, h => by
    have h1 := enc_len10 (zig_lt (h n (by simp)))
    have h2 := encs_len (ns := ns) (fun x hx => h x (by simp [hx]))
    simp only [encs, List.length_append, List.length_cons]; omega
theorem all_l0 (ns : List Int) (hn : I64 ns) (hl : 10 * ns.length + 30 ≤ 140737488355328) : ∀ (d i : Nat) (x : List Int), i + d = ns.length → x.length ≤ 10 * i → Ev (fun k => varint_All.l0 k x ns (ns.length : Int) (i : Int)) (x ++ encs (ns.drop i))
  | 0, i, x, h, hx => by
    refine Ev.step (fun k => rfl) ?_
    simp only [varint_All.l0]
    refine evElse (by omega) (evConst ?_)
    rw [List.drop_of_length_le (by omega)]; simp [encs]
  | d + 1, i, x, h, hx => by
    refine Ev.step (fun k => rfl) ?_
    simp only [varint_All.l0]
    refine evIf (by omega) (evIf (by omega) (evIf (by omega) ?_))
    rw [rd_nat ns i (by omega), w64 (by omega) (by omega), List.drop_eq_getElem_cons (show i < ns.length by omega)]
    have hm := hn ns[i] (List.getElem_mem (by omega))
    have he := enc_len10 (zig_lt hm)
    refine Ev.bind (put_ev x _ hm (by omega)) ?_
    have := all_l0 ns hn hl d (i + 1) (x ++ enc (zig ns[i])) (by omega) (by simp; omega)
    simpa [encs] using this
theorem all_ev (ns : List Int) (hn : I64 ns) (hl : 10 * ns.length + 30 ≤ 140737488355328) : Ev (fun k => varint_All.f k ns) (encs ns) := by
  unfold varint_All.f
  simpa using all_l0 ns hn hl ns.length 0 [] (by omega) (by simp)

/-! ### how it is read -/
/-- From place i on, u being read, p what the next byte counts. -/
def scan : (i : Nat) → (p : Nat) → List Int → (u : Nat) → Option (Nat × List Int)
  | _, _, [], _ => none
  | i, p, c :: r, u => if i = 9 ∧ 1 < c then none else if 128 ≤ c then scan (i + 1) (128 * p) r (u + (c.toNat - 128) * p) else if 0 < i ∧ c = 0 then none else some (u + c.toNat * p, r)
def get (b : List Int) : Option (Nat × List Int) := scan 0 1 b 0
def told (b : List Int) : Int × List Int × Bool := match get b with
  | none => (0, [], false)
  | some (u, r) => (unzig u, r, true)

theorem pow_le (i : Nat) (h : i ≤ 8) : 2 ^ (7 * i) ≤ 72057594037927936 := Nat.le_trans (Nat.pow_le_pow_right (by omega) (show 7 * i ≤ 56 by omega)) (by decide)
theorem pow9 : 2 ^ (7 * 9) = 9223372036854775808 := by decide
theorem pow_succ7 (i : Nat) : 2 ^ (7 * (i + 1)) = 128 * 2 ^ (7 * i) := by rw [show 7 * (i + 1) = 7 * i + 7 by omega, Nat.pow_add]; omega
theorem mul_lt128 {c p : Nat} (h : c < 128) (hp : 0 < p) : c * p + p ≤ 128 * p := by
  have := Nat.mul_le_mul_right p (show c + 1 ≤ 128 by omega)
  rw [Nat.add_mul, Nat.one_mul] at this; exact this

/-- What Get answers of what scan finds. -/
def ans : Option (Nat × List Int) → Int × List Int × Bool
  | none => (0, [], false)
  | some (u, r) => (unzig u, r, true)

theorem get_l0 (b : List Int) (hb : Byt b) (hl : b.length ≤ 9223372036854775000) : ∀ (d i u : Nat), i + d = b.length + 1 → i ≤ 9 → i ≤ b.length → u < 2 ^ (7 * i) →
    Ev (fun k => varint_Get.l0 k b (u : Int) (i : Int)) (ans (scan i (2 ^ (7 * i)) (b.drop i) u))
  | 0, i, u, h, h9, hi, hu => by omega
  | d + 1, i, u, h, h9, hi, hu => by
    refine Ev.step (fun k => rfl) ?_
    simp only [varint_Get.l0]
    by_cases hil : i < b.length
    · refine evIf (by omega) ?_
      rw [show decide ((i : Int) < 10) = true from decide_eq_true (by omega)]
      refine Ev.step (fun k => rfl) ?_
      simp only [varint_Get.j1]
      refine evIf (by first | rfl | trivial) (evIf (by omega) (evIf (by omega) ?_))
      rw [rd_nat b i hil, List.drop_eq_getElem_cons hil]
      have hc := hb b[i] (List.getElem_mem hil)
      generalize hcc : b[i] = c at hc ⊢
      obtain ⟨c, rfl⟩ := Int.eq_ofNat_of_zero_le hc.1
      have hp : 0 < 2 ^ (7 * i) := Nat.two_pow_pos _
      have key : ¬ (i = 9 ∧ (1 : Int) < (c : Int)) → Ev (fun k => varint_Get.j2 k b (u : Int) (i : Int) (c : Int) false) (ans (scan i (2 ^ (7 * i)) ((c : Int) :: b.drop (i + 1)) u)) := by
        intro hnb
        simp only [scan]
        rw [if_neg hnb]
        refine Ev.step (fun k => rfl) ?_
        simp only [varint_Get.j2]
        refine evElse (by decide) ?_
        have ew : wrap64 (7 * (i : Int)) = ((7 * i : Nat) : Int) := by rw [w64 (by omega) (by omega)]; omega
        rw [ew, and8 c (by omega), wrapu64]
        have hcp := mul_lt128 (show c % 128 < 128 by omega) hp
        have hsh : shl .u64 (((c % 128 : Nat) : Int) % 18446744073709551616) ((7 * i : Nat) : Int) = ((c % 128 * 2 ^ (7 * i) : Nat) : Int) ∧ u + c % 128 * 2 ^ (7 * i) < 18446744073709551616 := by
          have hb2 : u + c % 128 * 2 ^ (7 * i) < 18446744073709551616 := by
            by_cases h8 : i ≤ 8
            · have := pow_le i h8; omega
            · obtain rfl : i = 9 := by omega
              have := pow9
              have hc1 : c ≤ 1 := by omega
              have : c % 128 * 2 ^ (7 * 9) ≤ 1 * 2 ^ (7 * 9) := Nat.mul_le_mul_right _ (by omega)
              omega
          refine ⟨?_, hb2⟩
          unfold shl
          rw [wrapu64, Int.toNat_natCast, Nat.min_eq_left (by show 7 * i ≤ 64; omega), show ((c % 128 : Nat) : Int) % 18446744073709551616 = ((c % 128 : Nat) : Int) by omega]
          have : ((c % 128 : Nat) : Int) * 2 ^ (7 * i) = ((c % 128 * 2 ^ (7 * i) : Nat) : Int) := by push_cast; rfl
          rw [this]; omega
        rw [hsh.1, or64 u (c % 128) (7 * i) hu hsh.2]
        refine evIf (by omega) ?_
        by_cases hbig : 128 ≤ c
        · rw [if_pos (by omega)]
          refine evIf (by omega) ?_
          have h8 : i ≤ 8 := by
            rcases Nat.lt_or_ge i 9 with h1 | h1
            · omega
            · exact absurd ⟨by omega, by omega⟩ hnb
          rw [w64 (by omega) (by omega), ← pow_succ7, show ((c : Int).toNat - 128) = c % 128 by omega]
          exact get_l0 b hb hl d (i + 1) _ (by omega) (by omega) (by omega) (by rw [pow_succ7]; omega)
        · rw [if_neg (by omega)]
          refine evElse (by omega) ?_
          have em : c % 128 = c := by omega
          rw [em] at hsh ⊢
          have j3 : ∀ z : Bool, z = decide (0 < i ∧ (c : Int) = 0) → Ev (fun k => varint_Get.j3 k b ((u + c * 2 ^ (7 * i) : Nat) : Int) (i : Int) z) (ans (if 0 < i ∧ (c : Int) = 0 then none else some (u + (c : Int).toNat * 2 ^ (7 * i), b.drop (i + 1)))) := by
            intro z hz
            refine Ev.step (fun k => rfl) ?_
            simp only [varint_Get.j3]
            by_cases hzz : 0 < i ∧ (c : Int) = 0
            · rw [hz, decide_eq_true hzz, if_pos hzz]
              exact evIf (by first | rfl | trivial) (Ev.now _)
            · rw [hz, decide_eq_false hzz, if_neg hzz]
              refine evElse (by decide) ?_
              rw [and64_1 _ hsh.2, Int.toNat_natCast]
              generalize u + c * 2 ^ (7 * i) = U at hsh ⊢
              have hU := hsh.2
              have hh : wrap64 ((U : Int) / 2) = ((U / 2 : Nat) : Int) := by rw [w64 (by omega) (by omega)]; omega
              rw [hh, w64 (by omega) (by omega)]
              by_cases hodd : U % 2 = 1
              · refine evIf (by omega) (evIf (by omega) (evIf (by omega) (evConst ?_)))
                rw [noti64 _ (by omega)]
                simp only [ans, unzig, hodd, if_true]
                congr 3
              · refine evElse (by omega) (evIf (by omega) (evIf (by omega) (evConst ?_)))
                simp only [ans, unzig]
                rw [if_neg hodd]
                congr 3
          by_cases hi0 : 0 < i
          · refine evIf (by omega) (j3 _ ?_)
            by_cases hc0 : (c : Int) = 0
            · rw [hc0]; simp [hi0]
            · rw [decide_eq_false (fun h => hc0 h.2), beq_eq_false_iff_ne]; exact hc0
          · refine evElse (by omega) (j3 _ ?_)
            rw [decide_eq_false (fun h => hi0 h.1)]
      by_cases hi9 : i = 9
      · refine evIf (by omega) ?_
        by_cases hc1 : 1 < c
        · rw [show decide ((c : Int) > 1) = true from decide_eq_true (by omega)]
          refine Ev.step (fun k => rfl) ?_
          simp only [varint_Get.j2, scan]
          rw [if_pos ⟨hi9, by omega⟩]
          exact evIf (by first | rfl | trivial) (Ev.now _)
        · rw [show decide ((c : Int) > 1) = false from decide_eq_false (by omega)]
          exact key (fun h => hc1 (by omega))
      · exact evElse (by omega) (key (fun h => hi9 h.1))
    · refine evElse (by omega) ?_
      refine Ev.step (fun k => rfl) ?_
      simp only [varint_Get.j1]
      rw [List.drop_of_length_le (by omega)]
      exact evElse (by decide) (Ev.now _)
theorem get_ev (b : List Int) (hb : Byt b) (hl : b.length ≤ 9223372036854775000) : Ev (fun k => varint_Get.f k b) (ans (get b)) := by
  unfold varint_Get.f
  have := get_l0 b hb hl (b.length + 1) 0 0 (by omega) (by omega) (by omega) (by simp)
  simpa [get] using this

/-! ### what is read has these bytes, and these bytes are read -/
theorem scan_sound : ∀ (l : List Int) (i p u v : Nat) (r : List Int), Byt l → i ≤ 9 → p = 2 ^ (7 * i) → u < p → scan i p l u = some (v, r) → ∃ w, v = u + w * p ∧ l = enc w ++ r ∧ (i = 0 ∨ 0 < w) ∧ v < 18446744073709551616
  | [], i, p, u, v, r, _, _, _, _, h => by simp [scan] at h
  | c :: l, i, p, u, v, r, hb, hi, hp, hu, h => by
    have hc := hb.head
    obtain ⟨c, rfl⟩ := Int.eq_ofNat_of_zero_le hc.1
    have hp0 : 0 < p := by rw [hp]; exact Nat.two_pow_pos _
    simp only [scan] at h
    by_cases h1 : i = 9 ∧ (1 : Int) < (c : Int)
    · rw [if_pos h1] at h; cases h
    · rw [if_neg h1] at h
      by_cases h2 : (128 : Int) ≤ (c : Int)
      · rw [if_pos h2] at h
        have h8 : i ≤ 8 := by
          rcases Nat.lt_or_ge i 9 with q | q
          · omega
          · exact absurd ⟨by omega, by omega⟩ h1
        have hcp := mul_lt128 (show (c : Int).toNat - 128 < 128 by omega) hp0
        obtain ⟨w, hv, hl, hw, hlt⟩ := scan_sound l (i + 1) (128 * p) _ v r hb.tail (by omega) (by rw [pow_succ7, hp]) (by omega) h
        have hw0 : 0 < w := by omega
        refine ⟨(c - 128) + 128 * w, ?_, ?_, Or.inr (by omega), hlt⟩
        · rw [hv, Int.toNat_natCast, Nat.add_mul, Nat.mul_assoc 128 w p, Nat.mul_left_comm w 128 p]; omega
        · rw [enc_big (by omega), hl, show ((c - 128 + 128 * w) % 128 + 128 : Nat) = c by omega, show (c - 128 + 128 * w) / 128 = w by omega]
          rfl
      · rw [if_neg h2] at h
        by_cases h3 : 0 < i ∧ (c : Int) = 0
        · rw [if_pos h3] at h; cases h
        · rw [if_neg h3] at h
          simp only [Option.some.injEq, Prod.mk.injEq] at h
          obtain ⟨rfl, rfl⟩ := h
          refine ⟨c, by rw [Int.toNat_natCast], by rw [enc_small (by omega)]; rfl, by omega, ?_⟩
          have hcp := mul_lt128 (show c < 128 by omega) hp0
          rw [Int.toNat_natCast]
          by_cases h8 : i ≤ 8
          · have := pow_le i h8; omega
          · obtain rfl : i = 9 := by omega
            have := pow9
            have : c * p ≤ 1 * p := Nat.mul_le_mul_right _ (by omega)
            omega
theorem scan_complete (d : Nat) : ∀ (w i p u : Nat) (r : List Int), w < d → i ≤ 9 → p = 2 ^ (7 * i) → (i = 0 ∨ 0 < w) → u + w * p < 18446744073709551616 → scan i p (enc w ++ r) u = some (u + w * p, r) := by
  induction d with
  | zero => intro w i p u r h; omega
  | succ d ih =>
    intro w i p u r hd hi hp hw hlt
    have h9 : i = 9 → w ≤ 1 := by
      rintro rfl
      rcases Nat.lt_or_ge w 2 with q | q
      · omega
      · have : 2 * p ≤ w * p := Nat.mul_le_mul_right _ q
        rw [hp, pow9] at this hlt; omega
    by_cases hb : 128 ≤ w
    · rw [enc_big hb]
      simp only [List.cons_append, scan]
      rw [if_neg (by rintro ⟨q, _⟩; have := h9 q; omega), if_pos (by omega), Int.toNat_natCast]
      have e : w % 128 + 128 - 128 = w % 128 := by omega
      have e2 : u + w * p = u + w % 128 * p + w / 128 * (128 * p) := by
        have : w * p = (w % 128 + 128 * (w / 128)) * p := by rw [Nat.mod_add_div]
        rw [this, Nat.add_mul, Nat.mul_assoc 128, Nat.mul_left_comm 128]; omega
      rw [e, e2]
      have hi8 : i ≤ 8 := by
        rcases Nat.lt_or_ge i 9 with q | q
        · omega
        · have := h9 (by omega); omega
      exact ih (w / 128) (i + 1) (128 * p) _ r (by omega) (by omega) (by rw [pow_succ7, hp]) (Or.inr (by omega)) (by omega)
    · rw [enc_small (by omega)]
      simp only [List.cons_append, List.nil_append, scan]
      rw [if_neg (by rintro ⟨q, q2⟩; have := h9 q; omega), if_neg (by omega), if_neg (by omega), Int.toNat_natCast]
theorem get_enc (u : Nat) (r : List Int) (h : u < 18446744073709551616) : get (enc u ++ r) = some (u, r) := by
  have := scan_complete (u + 1) u 0 1 0 r (by omega) (by omega) (by simp) (Or.inl rfl) (by omega)
  simpa [get] using this
theorem get_some {b : List Int} {u : Nat} {r : List Int} (hb : Byt b) (h : get b = some (u, r)) : b = enc u ++ r ∧ u < 18446744073709551616 := by
  obtain ⟨w, hv, hl, _, hlt⟩ := scan_sound b 0 1 0 u r hb (by omega) (by simp) (by omega) h
  have : u = w := by omega
  subst this
  exact ⟨hl, hlt⟩
/-- Numbers' bytes, none of which begins another one's. -/
theorem enc_prefix {u v : Nat} {r s : List Int} (hu : u < 18446744073709551616) (hv : v < 18446744073709551616) (h : enc u ++ r = enc v ++ s) : u = v ∧ r = s := by
  have h1 := get_enc u r hu
  rw [h, get_enc v s hv] at h1
  simp only [Option.some.injEq, Prod.mk.injEq] at h1
  exact ⟨h1.1.symm, h1.2.symm⟩
theorem get_nil : get [] = none := rfl
end Go.Proofs.Ytfbbcdkbgnmmcaa.VarL
