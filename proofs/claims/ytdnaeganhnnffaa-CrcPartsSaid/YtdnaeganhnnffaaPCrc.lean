/- The laws of layer 3 that are left: CrcParts, CrcZero. Conditions: the statements' own. -/
import Derived.Test.YtdnaeganhnnffaaPCrcCrc
set_option linter.all false
set_option linter.unusedVariables false
set_option linter.unusedSimpArgs false
set_option linter.deprecated false
namespace Go.Eng.Crc
open Go.RowKit Go.Eng Go.Eng.LCrc
set_option maxRecDepth 100000
abbrev sBo : Sig := ⟨[(false, .bool)], []⟩
theorem awake_ev : Ev1 (fun k => CF k sBo n_law03_awake []) true := Ev1.of_rfl 60 (fun k => by kernel_rfl)
/-- The law's own sum. -/
theorem law_in (k0 : Nat) (l : List Int) (i : Int) (R : Int) : ∀ (d : Nat) (j : Int) (x : BitVec 32), 0 ≤ j → j + d = 8 → Ev2 (fun k m => h_law03_sum k m ((Rn d x).toNat : Int) l (l.length : Int) (w64 (i + 1))) R → Ev3 (fun k m1 m => h_law03_sum_1 k m1 m (x.toNat : Int) j l (l.length : Int) i) R
  | 0, j, x, h0, h, hR => Ev3.step (fun k m1 m => h_law03_sum_1_s k m1 m (x.toNat : Int) j l (l.length : Int) i _ rfl _ rfl) (Ev3.negD (by omega) hR.drop)
  | d + 1, j, x, h0, h, hR => by
    have hx0 := x.isLt
    have hf : w32 (Int.tdiv (x.toNat : Int) 2) = (x.toNat : Int) / 2 := by rw [Int.tdiv_eq_ediv_of_nonneg (by omega), w32_eq (by omega) (by omega)]
    refine Ev3.step (fun k m1 m => h_law03_sum_1_s k m1 m (x.toNat : Int) j l (l.length : Int) i _ hf.symm _ (w64_id (by omega)).symm) (Ev3.posD (by omega) ?_)
    rw [Int.tmod_eq_emod_of_nonneg (by omega)]
    by_cases hx : (x.toNat : Int) % 2 = 1
    · refine Ev3.posD hx ?_
      rw [R_odd hx]; exact law_in k0 l i R d (j + 1) (Go.Eng.LCrc.R x) (by omega) (by omega) hR
    · refine Ev3.negD hx ?_
      rw [R_even hx]; exact law_in k0 l i R d (j + 1) (Go.Eng.LCrc.R x) (by omega) (by omega) hR
theorem law_l0 (l : List Int) (hl : l.length ≤ 9223372036854775000) : ∀ (d i : Nat) (r : BitVec 32), i + d = l.length → Ev2 (fun k m => h_law03_sum k m (r.toNat : Int) l (l.length : Int) (i : Int)) ((~~~ fold r (l.drop i)).toNat : Int)
  | 0, i, r, h => by
    refine Ev2.step (fun k m => h_law03_sum_s k m (r.toNat : Int) l (l.length : Int) (i : Int)) (Ev2.negD (by omega) (Ev2.const ?_))
    rw [List.drop_of_length_le (by omega)]
    show some (w32 (4294967295 - (r.toNat : Int))) = some ((~~~ r).toNat : Int)
    have := r.isLt
    rw [BitVec.toNat_not, w32_eq (by omega) (by omega)]
    congr 1
    omega
  | d + 1, i, r, h => by
    refine Ev2.step (fun k m => h_law03_sum_s k m (r.toNat : Int) l (l.length : Int) (i : Int)) (Ev2.posD (by omega) (Ev2.pos (inb_true (by omega) (by omega)) ?_))
    rw [getD_nat l i _ (by omega), w32_mod, xor32i, drop_cons (show i < l.length by omega)]
    refine (law_in 0 l (i : Int) _ 8 0 (r ^^^ BitVec.ofInt 32 l[i]) (by omega) (by omega) ?_).diag
    rw [wnat (by omega)]
    exact law_l0 l hl d (i + 1) (stp r l[i]) (by omega)
theorem lawsum_ev (l : List Int) (hl : l.length ≤ 9223372036854775000) : Ev1 (fun k => CF k sU n_law03_sum [inj (.slice (.int .u8)) l]) (sumOf l) := by
  refine Ev1.step (fun k => f_law03_sum k l) ?_
  have := (law_l0 l hl l.length 0 (BitVec.allOnes 32) (by omega)).diag
  rw [List.drop_zero] at this
  exact this
/-! A running sum. -/
abbrev sW : Sig := ⟨[], [KRunning]⟩
abbrev sUR : Sig := ⟨[(false, .int .u32)], [KRunning]⟩
theorem write_l0 (l : List Int) (hl : l.length ≤ 9223372036854775000) : ∀ (d i : Nat) (r : BitVec 32), i + d = l.length → Ev2 (fun k m => h_crc_Running_Write k m l (l.length : Int) (i : Int) (r.toNat : Int) true) (((fold r (l.drop i)).toNat : Int), true)
  | 0, i, r, h => by
    refine Ev2.step (fun k m => h_crc_Running_Write_s k m l (l.length : Int) (i : Int) (r.toNat : Int) true) (Ev2.negD (by omega) (Ev2.const ?_))
    rw [List.drop_of_length_le (by omega)]; rfl
  | d + 1, i, r, h => by
    refine Ev2.step (fun k m => h_crc_Running_Write_s k m l (l.length : Int) (i : Int) (r.toNat : Int) true) (Ev2.posD (by omega) (Ev2.pos (inb_true (by omega) (by omega)) ?_))
    rw [getD_nat l i _ (by omega), wnat (by omega), drop_cons (show i < l.length by omega)]
    exact Ev2.bind (step_ev r _) (write_l0 l hl d (i + 1) (stp r l[i]) (by omega))
/-- What a running sum has of bytes; 'any' tells whether it was written to. -/
def run (any : Bool) (l : List Int) : TRunning := if any = true then (((fold (BitVec.allOnes 32) l).toNat : Int), true) else (0, false)
theorem write_ev (any : Bool) (l b : List Int) (hl : b.length ≤ 9223372036854775000) (h : any = false → l = []) : Ev1 (fun k => CF k sW n_crc_Running_Write [.val false [.io KRunning (run any l)], inj (.slice (.int .u8)) b]) (run true (l ++ b)) := by
  refine Ev1.step (fun k => f_crc_Running_Write k (run any l) b _ rfl) ?_
  have e : run true (l ++ b) = (((fold (fold (BitVec.allOnes 32) l) b).toNat : Int), true) := by unfold run; rw [if_pos rfl, fold_append]
  rw [e]
  cases any with
  | false =>
    rw [h rfl]
    have := (write_l0 b hl b.length 0 (BitVec.allOnes 32) (by omega)).diag
    rw [List.drop_zero] at this
    exact Ev1.pos rfl this
  | true =>
    have := (write_l0 b hl b.length 0 (fold (BitVec.allOnes 32) l) (by omega)).diag
    rw [List.drop_zero] at this
    exact Ev1.neg rfl this
theorem rsum_ev (any : Bool) (l : List Int) (h : any = false → l = []) : Ev1 (fun k => CF k sUR n_crc_Running_Sum [.val false [.io KRunning (run any l)]]) (sumOf l, run any l) := by
  refine Ev1.step (fun k => f_crc_Running_Sum k (run any l)) ?_
  cases any with
  | false =>
    rw [h rfl]
    exact Ev1.pos rfl (Ev1.const rfl)
  | true =>
    refine Ev1.neg rfl (Ev1.const ?_)
    show some (wrapb .u32 .xor 4294967295 ((fold (BitVec.allOnes 32) l).toNat : Int), _) = _
    rw [not32]; rfl
theorem CrcZero (b : List Int) (hl : b.length ≤ 140737488351232) : Ev1 (fun k => CF k sBo n_law03_CrcZero [inj (.slice (.int .u8)) b]) true := by
  refine Ev1.step (fun k => f_law03_CrcZero k b) (Ev1.bind awake_ev (Ev1.neg rfl ?_))
  refine Ev1.bind (write_ev false [] [] (by simp) (fun _ => rfl)) (Ev1.bind (rsum_ev false [] (fun _ => rfl)) (Ev1.neg rfl (Ev1.bind (rsum_ev true [] (fun _ => rfl)) (Ev1.neg rfl ?_))))
  refine Ev1.bind (write_ev true [] b (by omega) (fun _ => rfl)) (Ev1.bind (rsum_ev true ([] ++ b) (fun h => by cases h)) (Ev1.bind (lawsum_ev b (by omega)) (Ev1.const ?_)))
  exact congrArg some (decide_eq_true rfl)
theorem parts_l0 (b cuts : List Int) (hb : b.length ≤ 140737488351232) (hc : ∀ x ∈ cuts, 0 ≤ x ∧ x ≤ 255) (hcl : cuts.length ≤ 140737488351232) : ∀ (d i : Nat) (any : Bool) (l rest : List Int), i + d = cuts.length → l ++ rest = b → (any = false → l = []) → Ev2 (fun k m => h_law03_CrcParts k m b rest cuts (cuts.length : Int) (i : Int) (run any l).1 (run any l).2) true
  | 0, i, any, l, rest, h, hlr, ha => by
    have hlen := congrArg List.length hlr
    rw [List.length_append] at hlen
    refine Ev2.step (fun k m => h_law03_CrcParts_s k m b rest cuts (cuts.length : Int) (i : Int) (run any l).1 (run any l).2 _ rfl _ rfl _ rfl _ rfl _ rfl _ rfl) (Ev2.negD (by omega) ?_)
    refine Ev2.bind (write_ev any l rest (by omega) ha) (Ev2.bind (rsum_ev true (l ++ rest) (fun h => by cases h)) ?_)
    rw [hlr]
    exact Ev2.bind (lawsum_ev b (by omega)) (Ev2.const (congrArg some (decide_eq_true rfl)))
  | d + 1, i, any, l, rest, h, hlr, ha => by
    have hlen := congrArg List.length hlr
    rw [List.length_append] at hlen
    have hx := hc cuts[i] (List.getElem_mem (by omega))
    obtain ⟨q, hq, hq1⟩ : ∃ q : Nat, Int.tmod (w64 (cuts.getD (Int.toNat (i : Int)) 0)) ((rest.length : Int) + 1) = (q : Int) ∧ q ≤ rest.length := by
      rw [getD_nat cuts i _ (by omega), w64_id (by omega)]
      have := tmod_facts (a := cuts[i]) (b := (rest.length : Int) + 1) hx.1 (by omega)
      exact ⟨(Int.tmod cuts[i] ((rest.length : Int) + 1)).toNat, by omega, by omega⟩
    have e6 : w64 ((b.length : Int) - ((rest.drop q).length : Int)) = ((l.length + q : Nat) : Int) := by
      rw [List.length_drop, w64_id (by omega)]; omega
    refine Ev2.step (fun k m => h_law03_CrcParts_s k m b rest cuts (cuts.length : Int) (i : Int) (run any l).1 (run any l).2 _ rfl _ rfl ((rest.length : Int) + 1) (w64_id (by omega)).symm (q : Int) hq.symm (rest.drop q) (by rw [Int.toNat_natCast]) ((l.length + q : Nat) : Int) e6.symm) ?_
    refine Ev2.posD (by omega) (Ev2.pos (inb_true (by omega) (by omega)) (Ev2.pos (by rw [decide_eq_false (by omega)]; rfl) (Ev2.pos (and2 (by omega) (by omega)) ?_)))
    rw [Int.toNat_natCast, Int.toNat_natCast]
    refine Ev2.bind (write_ev any l (rest.take q) (by rw [List.length_take]; omega) ha) (Ev2.pos (and2 (by omega) (by omega)) (Ev2.bind (rsum_ev true (l ++ rest.take q) (fun h => by cases h)) (Ev2.pos (and2 (by omega) (by omega)) ?_)))
    have eb : b.take (l.length + q) = l ++ rest.take q := by
      rw [← hlr, List.take_append, List.take_of_length_le (by omega), Nat.add_sub_cancel_left]
    rw [eb]
    refine Ev2.bind (lawsum_ev _ (by rw [← eb, List.length_take]; omega)) (Ev2.neg (by rw [decide_eq_true rfl]; rfl) ?_)
    rw [wnat (by omega)]
    exact parts_l0 b cuts hb hc hcl d (i + 1) true (l ++ rest.take q) (rest.drop q) (by omega) (by rw [List.append_assoc, List.take_append_drop, hlr]) (fun h => by cases h)
theorem CrcParts (b cuts : List Int) (hb : b.length ≤ 140737488351232) (hc : ∀ x ∈ cuts, 0 ≤ x ∧ x ≤ 255) (hcl : cuts.length ≤ 140737488351232) : Ev1 (fun k => CF k sBo n_law03_CrcParts [inj (.slice (.int .u8)) b, inj (.slice (.int .u8)) cuts]) true :=
  Ev1.step (fun k => f_law03_CrcParts k b cuts) (Ev1.bind awake_ev (Ev1.neg rfl (parts_l0 b cuts hb hc hcl cuts.length 0 false [] b (by omega) rfl (fun _ => rfl)).diag))
end Go.Eng.Crc
