/- varint's functions: what they come to, by the plain laws of numbers' bytes. Conditions: lengths that a machine has. -/
import Derived.Test.YtfbbcdkbgnmmcaaPVntQ
import Derived.Test.YtfbbcdkbgnmmcaaPLVar
set_option linter.all false
set_option linter.unusedVariables false
set_option linter.unusedSimpArgs false
set_option linter.deprecated false
namespace Go.Eng.Vnt
open Go.RowKit Go.Eng Go.Eng.LVar
abbrev sBy : Sig := ⟨[(true, .slice (.int .u8))], []⟩
theorem put_l0 (d : Nat) : ∀ (u : Nat) (x : List Int), u < d → u < 18446744073709551616 → x.length + (enc u).length ≤ 211106232532992 → Ev2 (fun k m => h_varint_Put k m (u : Int) x) (x ++ enc u) := by
  induction d with
  | zero => intro u x h; omega
  | succ d ih =>
    intro u x h hu hx
    refine Ev2.step (fun k m => h_varint_Put_s k m (u : Int) x) ?_
    by_cases hb : 128 ≤ u
    · rw [enc_big hb] at hx ⊢
      simp only [List.length_cons] at hx
      have hl := List.length_pos_iff.2 (enc_ne (u / 128))
      refine Ev2.posD (by omega) (Ev2.posD (by simp only [List.length_cons, List.length_nil]; omega) ?_)
      have e1 : w8 (u : Int) = ((u % 256 : Nat) : Int) := by rw [w8_mod]; omega
      have e2 : Int.fdiv (u : Int) 128 = ((u / 128 : Nat) : Int) := by rw [Int.fdiv_eq_ediv_of_nonneg _ (by omega)]; omega
      rw [e1, e2, or8 _ (by omega)]
      have e3 : u % 256 % 128 = u % 128 := by omega
      rw [e3, show (x ++ ((u % 128 + 128 : Nat) : Int) :: enc (u / 128)) = (x ++ [((u % 128 + 128 : Nat) : Int)]) ++ enc (u / 128) by simp]
      exact ih (u / 128) _ (by omega) (by omega) (by simp; omega)
    · rw [enc_small (by omega)] at hx ⊢
      simp only [List.length_singleton] at hx
      refine Ev2.negD (by omega) (Ev2.posD (by simp only [List.length_cons, List.length_nil]; omega) (Ev2.const ?_))
      rw [show w8 (u : Int) = (u : Int) by rw [w8_mod]; omega]
theorem put_ev (x : List Int) (n : Int) (hn : -9223372036854775808 ≤ n ∧ n ≤ 9223372036854775807) (hx : x.length + 20 ≤ 211106232532992) : Ev1 (fun k => CF k sBy n_varint_Put [.val false [.mv (.int .u8) x], inj (.int .i64) n]) (x ++ enc (zig n)) := by
  have hz := zig_lt hn
  have hl := enc_len10 hz
  refine Ev1.step (fun k => f_varint_Put k x n) ?_
  by_cases h : n < 0
  · refine Ev1.posD h ?_
    have e : wu64 ((wu64 n) * 2) = ((18446744073709551615 - zig n : Nat) : Int) := by
      rw [wu64_mod, wu64_mod]; unfold zig; rw [if_pos h]; omega
    rw [e, not64 _ (by omega), show 18446744073709551615 - (18446744073709551615 - zig n) = zig n by omega]
    exact (put_l0 (zig n + 1) (zig n) x (by omega) hz (by omega)).diag
  · refine Ev1.negD h ?_
    have e : wu64 ((wu64 n) * 2) = (zig n : Int) := by
      rw [wu64_mod, wu64_mod]; unfold zig; rw [if_neg h]; omega
    rw [e]
    exact (put_l0 (zig n + 1) (zig n) x (by omega) hz (by omega)).diag
theorem all_l0 (ns : List Int) (hn : I64 ns) (hl : 10 * ns.length + 30 ≤ 211106232532992) : ∀ (d i : Nat) (x : List Int), i + d = ns.length → x.length ≤ 10 * i → Ev2 (fun k m => h_varint_All k m ns (ns.length : Int) (i : Int) x) (x ++ encs (ns.drop i))
  | 0, i, x, h, hx => by
    refine Ev2.step (fun k m => h_varint_All_s k m ns (ns.length : Int) (i : Int) x) ?_
    refine Ev2.negD (by omega) (Ev2.const ?_)
    rw [List.drop_of_length_le (by omega)]; simp [encs]
  | d + 1, i, x, h, hx => by
    refine Ev2.step (fun k m => h_varint_All_s k m ns (ns.length : Int) (i : Int) x) ?_
    refine Ev2.posD (by omega) (Ev2.pos (inb_true (by omega) (by omega)) ?_)
    rw [getD_nat ns i _ (by omega), wnat (by omega), List.drop_eq_getElem_cons (show i < ns.length by omega)]
    have hm := hn ns[i] (List.getElem_mem (by omega))
    have he := enc_len10 (zig_lt hm)
    refine Ev2.bind (put_ev x _ hm (by omega)) ?_
    have := all_l0 ns hn hl d (i + 1) (x ++ enc (zig ns[i])) (by omega) (by simp; omega)
    simpa [encs] using this
theorem all_ev (ns : List Int) (hn : I64 ns) (hl : 10 * ns.length + 30 ≤ 211106232532992) : Ev1 (fun k => CF k sBy n_varint_All [inj (.slice (.int .i64)) ns]) (encs ns) := by
  refine Ev1.step (fun k => f_varint_All k ns) ?_
  have := (all_l0 ns hn hl ns.length 0 [] (by omega) (by simp)).diag
  rw [List.drop_zero, List.nil_append] at this
  exact this
abbrev sGet : Sig := ⟨[(false, .int .i64), (false, .slice (.int .u8)), (false, .bool)], []⟩
theorem get_l0 (b : List Int) (hb : Byt b) (hl : b.length ≤ 9223372036854775000) : ∀ (d i u : Nat), i + d = b.length + 1 → i ≤ 9 → i ≤ b.length → u < 2 ^ (7 * i) →
    Ev2 (fun k m => h_varint_Get k m b (u : Int) (i : Int)) (ans (scan i (2 ^ (7 * i)) (b.drop i) u))
  | 0, i, u, h, h9, hi, hu => by omega
  | d + 1, i, u, h, h9, hi, hu => by
    refine Ev2.step (fun k m => h_varint_Get_s k m b (u : Int) (i : Int)) ?_
    by_cases hil : i < b.length
    · refine Ev2.posD (by omega) (Ev2.posD (by omega) (Ev2.pos (inb_true (by omega) (by omega)) ?_))
      rw [getD_nat b i _ hil, List.drop_eq_getElem_cons hil]
      have hc := hb b[i] (List.getElem_mem hil)
      generalize hcc : b[i] = c at hc ⊢
      obtain ⟨c, rfl⟩ := Int.eq_ofNat_of_zero_le hc.1
      have hp : 0 < 2 ^ (7 * i) := Nat.two_pow_pos _
      -- what is read by now, and one byte more
      have ew : w64 (7 * (i : Int)) = ((7 * i : Nat) : Int) := by rw [w64_id (by omega)]; omega
      rw [ew, and8 c (by omega)]
      have ewu : wu64 ((c % 128 : Nat) : Int) = ((c % 128 : Nat) : Int) := wu64_eq (by omega) (by omega)
      rw [ewu, Int.toNat_natCast, Nat.min_eq_left (show 7 * i ≤ 64 by omega)]
      have hcp := mul_lt128 (show c % 128 < 128 by omega) hp
      have key : ¬ (i = 9 ∧ (1 : Int) < (c : Int)) → wu64 (((c % 128 : Nat) : Int) * 2 ^ (7 * i)) = ((c % 128 * 2 ^ (7 * i) : Nat) : Int) ∧ u + c % 128 * 2 ^ (7 * i) < 18446744073709551616 := by
        intro hnb
        have hb2 : u + c % 128 * 2 ^ (7 * i) < 18446744073709551616 := by
          by_cases h8 : i ≤ 8
          · have := pow_le i h8; omega
          · obtain rfl : i = 9 := by omega
            have := pow9
            have hc1 : c ≤ 1 := by omega
            have : c % 128 * 2 ^ (7 * 9) ≤ 1 * 2 ^ (7 * 9) := Nat.mul_le_mul_right _ (by omega)
            omega
        refine ⟨?_, hb2⟩
        have : ((c % 128 : Nat) : Int) * 2 ^ (7 * i) = ((c % 128 * 2 ^ (7 * i) : Nat) : Int) := by push_cast; rfl
        rw [this]; exact wu64_eq (by omega) (by omega)
      -- behind the ninth byte's test
      have main : ∀ (f : Nat → Nat → Option (Int × List Int × Bool)), ¬ (i = 9 ∧ (1 : Int) < (c : Int)) →
          (f = fun k m => (bif decide ((0 : Int) ≤ ((7 * i : Nat) : Int)) then (bif decide ((128 : Int) ≤ (c : Int)) then (h_varint_Get k m b (wrapb .u64 .or (u : Int) (wu64 (((c % 128 : Nat) : Int) * 2 ^ (7 * i)))) (w64 ((i : Int) + 1)))
            else (bif decide ((0 : Int) < (i : Int)) then (bif decide ((c : Int) = 0) then some ((0 : Int), [], false)
              else (bif decide ((wrapb .u64 .and (wrapb .u64 .or (u : Int) (wu64 (((c % 128 : Nat) : Int) * 2 ^ (7 * i)))) 1) = 1) then (bif (decide ((0 : Int) ≤ (w64 ((i : Int) + 1))) && decide ((w64 ((i : Int) + 1)) ≤ (b.length : Int))) then some ((wrapb .i64 .xor (-1) (w64 (Int.fdiv (wrapb .u64 .or (u : Int) (wu64 (((c % 128 : Nat) : Int) * 2 ^ (7 * i)))) 2))), (List.drop (Int.toNat (w64 ((i : Int) + 1))) b), true) else none)
                else (bif (decide ((0 : Int) ≤ (w64 ((i : Int) + 1))) && decide ((w64 ((i : Int) + 1)) ≤ (b.length : Int))) then some ((w64 (Int.fdiv (wrapb .u64 .or (u : Int) (wu64 (((c % 128 : Nat) : Int) * 2 ^ (7 * i)))) 2)), (List.drop (Int.toNat (w64 ((i : Int) + 1))) b), true) else none)))
              else (bif decide ((wrapb .u64 .and (wrapb .u64 .or (u : Int) (wu64 (((c % 128 : Nat) : Int) * 2 ^ (7 * i)))) 1) = 1) then (bif (decide ((0 : Int) ≤ (w64 ((i : Int) + 1))) && decide ((w64 ((i : Int) + 1)) ≤ (b.length : Int))) then some ((wrapb .i64 .xor (-1) (w64 (Int.fdiv (wrapb .u64 .or (u : Int) (wu64 (((c % 128 : Nat) : Int) * 2 ^ (7 * i)))) 2))), (List.drop (Int.toNat (w64 ((i : Int) + 1))) b), true) else none)
                else (bif (decide ((0 : Int) ≤ (w64 ((i : Int) + 1))) && decide ((w64 ((i : Int) + 1)) ≤ (b.length : Int))) then some ((w64 (Int.fdiv (wrapb .u64 .or (u : Int) (wu64 (((c % 128 : Nat) : Int) * 2 ^ (7 * i)))) 2)), (List.drop (Int.toNat (w64 ((i : Int) + 1))) b), true) else none))))
            else none)) → Ev2 f (ans (scan i (2 ^ (7 * i)) ((c : Int) :: b.drop (i + 1)) u)) := by
        intro f hnb hf
        subst hf
        obtain ⟨k1, k2⟩ := key hnb
        rw [k1, or64 u (c % 128) (7 * i) hu k2]
        simp only [scan]
        rw [if_neg hnb]
        refine Ev2.posD (by omega) ?_
        by_cases hbig : 128 ≤ c
        · rw [if_pos (by omega)]
          refine Ev2.posD (by omega) ?_
          have h8 : i ≤ 8 := by
            rcases Nat.lt_or_ge i 9 with h1 | h1
            · omega
            · exact absurd ⟨by omega, by omega⟩ hnb
          rw [wnat (by omega), ← pow_succ7, show ((c : Int).toNat - 128) = c % 128 by omega]
          exact get_l0 b hb hl d (i + 1) _ (by omega) (by omega) (by omega) (by rw [pow_succ7]; omega)
        · rw [if_neg (by omega)]
          refine Ev2.negD (by omega) ?_
          have em : c % 128 = c := by omega
          rw [em] at k2 ⊢
          have fin : Ev2 (fun (k m : Nat) => bif decide ((wrapb .u64 .and ((u + c * 2 ^ (7 * i) : Nat) : Int) 1) = 1) then (bif (decide ((0 : Int) ≤ (w64 ((i : Int) + 1))) && decide ((w64 ((i : Int) + 1)) ≤ (b.length : Int))) then some ((wrapb .i64 .xor (-1) (w64 (Int.fdiv ((u + c * 2 ^ (7 * i) : Nat) : Int) 2))), (List.drop (Int.toNat (w64 ((i : Int) + 1))) b), true) else none)
                else (bif (decide ((0 : Int) ≤ (w64 ((i : Int) + 1))) && decide ((w64 ((i : Int) + 1)) ≤ (b.length : Int))) then some ((w64 (Int.fdiv ((u + c * 2 ^ (7 * i) : Nat) : Int) 2)), (List.drop (Int.toNat (w64 ((i : Int) + 1))) b), true) else none))
              (ans (some (u + c * 2 ^ (7 * i), b.drop (i + 1)))) := by
            generalize u + c * 2 ^ (7 * i) = U at k2 ⊢
            rw [and64_1 _ k2, wnat (by omega), Int.toNat_natCast]
            have hh : w64 (Int.fdiv (U : Int) 2) = ((U / 2 : Nat) : Int) := by
              rw [Int.fdiv_eq_ediv_of_nonneg _ (by omega), w64_id (by omega)]; omega
            rw [hh]
            by_cases hodd : U % 2 = 1
            · refine Ev2.posD (by omega) (Ev2.pos (and2 (by omega) (by omega)) (Ev2.const ?_))
              rw [noti64 _ (by omega)]
              simp only [ans, unzig, hodd, if_true]
            · refine Ev2.negD (by omega) (Ev2.pos (and2 (by omega) (by omega)) (Ev2.const ?_))
              simp only [ans, unzig]
              rw [if_neg hodd]
          by_cases hi0 : 0 < i
          · refine Ev2.posD (by omega) ?_
            by_cases hc0 : c = 0
            · refine Ev2.posD (by omega) (Ev2.const ?_)
              rw [if_pos ⟨hi0, by omega⟩]; rfl
            · refine Ev2.negD (by omega) ?_
              rw [if_neg (fun h => hc0 (by omega)), Int.toNat_natCast]
              exact fin
          · refine Ev2.negD (by omega) ?_
            rw [if_neg (fun h => hi0 h.1), Int.toNat_natCast]
            exact fin
      by_cases hi9 : i = 9
      · refine Ev2.posD (by omega) ?_
        by_cases hc1 : 1 < c
        · refine Ev2.posD (by omega) (Ev2.const ?_)
          simp only [scan]
          rw [if_pos ⟨hi9, by omega⟩]; rfl
        · exact Ev2.negD (by omega) (main _ (fun h => hc1 (by omega)) rfl)
      · exact Ev2.negD (by omega) (main _ (fun h => hi9 h.1) rfl)
    · refine Ev2.negD (by omega) (Ev2.const ?_)
      rw [List.drop_of_length_le (by omega)]; rfl
theorem get_ev (b : List Int) (hb : Byt b) (hl : b.length ≤ 9223372036854775000) : Ev1 (fun k => CF k sGet n_varint_Get [inj (.slice (.int .u8)) b]) (ans (get b)) := by
  refine Ev1.step (fun k => f_varint_Get k b) ?_
  have := (get_l0 b hb hl (b.length + 1) 0 0 (by omega) (by omega) (by omega) (by simp)).diag
  rw [List.drop_zero] at this
  exact this
abbrev sTake : Sig := ⟨[(false, .slice (.int .i64)), (false, .slice (.int .u8)), (false, .bool)], []⟩
theorem take_l0 (n : Nat) (hn : n ≤ 1000) : ∀ (d : Nat) (out b : List Int), out.length + d = n → Byt b → b.length ≤ 9223372036854775000 →
    Ev2 (fun k m => h_varint_Take k m b (n : Int) out) (ansT ((takes d b).map fun p => (out ++ p.1, p.2)))
  | 0, out, b, h, hb, hl => by
    refine Ev2.step (fun k m => h_varint_Take_s k m b (n : Int) out) (Ev2.negD (by omega) (Ev2.const ?_))
    simp [takes, ansT]
  | d + 1, out, b, h, hb, hl => by
    refine Ev2.step (fun k m => h_varint_Take_s k m b (n : Int) out) (Ev2.posD (by omega) (Ev2.bind (get_ev b hb hl) ?_))
    cases hg : get b with
    | none =>
      refine Ev2.pos rfl (Ev2.const ?_)
      simp [takes, hg, ansT]
    | some p =>
      obtain ⟨u, r⟩ := p
      refine Ev2.neg rfl (Ev2.posD (by simp only [List.length_cons, List.length_nil]; omega) ?_)
      obtain ⟨e1, e2⟩ := get_some hb hg
      have hl2 := get_len hb hg
      have ih := take_l0 n hn d (out ++ [unzig u]) r (by simp; omega) (by rw [e1] at hb; exact hb.right) (by omega)
      have e : (takes (d + 1) b).map (fun p => (out ++ p.1, p.2)) = (takes d r).map (fun p => ((out ++ [unzig u]) ++ p.1, p.2)) := by
        simp only [takes, hg]
        cases takes d r <;> simp
      rw [e]
      exact ih
theorem take_ev (b : List Int) (n : Nat) (hn : n ≤ 1000) (hb : Byt b) (hl : b.length ≤ 9223372036854775000) : Ev1 (fun k => CF k sTake n_varint_Take [inj (.slice (.int .u8)) b, inj (.int .i64) (n : Int)]) (ansT (takes n b)) := by
  refine Ev1.step (fun k => f_varint_Take k b (n : Int)) ?_
  have := (take_l0 n hn n [] b (by simp) hb hl).diag
  have e : (takes n b).map (fun p => (([] : List Int) ++ p.1, p.2)) = takes n b := by cases takes n b <;> simp
  rw [e] at this
  exact this
end Go.Eng.Vnt
