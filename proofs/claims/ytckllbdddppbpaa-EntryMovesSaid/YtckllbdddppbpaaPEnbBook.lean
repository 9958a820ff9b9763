/- chart's accounts and those of a book: what the functions come to, by plain rules. Conditions: lengths that a machine has. -/
import Derived.Test.YtckllbdddppbpaaPEnbQ
import Derived.Test.YtckllbdddppbpaaPLChart
set_option linter.all false
set_option linter.unusedVariables false
set_option linter.unusedSimpArgs false
set_option linter.deprecated false
namespace Go.Eng.Enb
open Go.RowKit Go.Eng Go.Eng.LChart
abbrev sAs : Sig := ⟨[(true, .slice KAccount)], []⟩
theorem w3 (i : Nat) (h : i < 9223372036854775807) : w64 (Int.tdiv (i : Int) 3) = ((i / 3 : Nat) : Int) := by
  rw [Int.tdiv_eq_ediv_of_nonneg (by omega), w64_id (by omega)]; omega
theorem getA (l : List Acc) (i : Nat) (h : i < l.length) : l.getD (Int.toNat (i : Int)) (0, 0, 0) = l[i] := by
  rw [Int.toNat_natCast]; exact getD_at l i _ h
theorem book_l0 (b0 b1 b2 : List Int) (r : List Acc) (hr : Ev1 (fun k => h_law07_Book_Accounts_1 k k b0 (b0.length : Int) 0 b0 b1 b2 (house 9)) r) : ∀ (d i : Nat), i + d = 9 → Ev2 (fun k m => h_law07_Book_Accounts k m 9 (i : Int) b0 b1 b2 (house i)) r
  | 0, i, h => by
    obtain rfl : i = 9 := by omega
    exact Ev2.step (fun k m => h_law07_Book_Accounts_s k m 9 (9 : Nat) b0 b1 b2 (house 9)) (Ev2.negD (by omega) hr.drop)
  | d + 1, i, h => by
    refine Ev2.step (fun k m => h_law07_Book_Accounts_s k m 9 (i : Int) b0 b1 b2 (house i)) (Ev2.posD (by omega) (Ev2.pos (inb_true (by omega) (by rw [house_len]; omega)) ?_))
    rw [w3 i (by omega), Int.toNat_natCast, house_set i (by omega), wnat (by omega)]
    exact book_l0 b0 b1 b2 r hr d (i + 1) (by omega)
theorem mod3 {x : Int} (h : 0 ≤ x ∧ x ≤ 255) : ∃ c : Nat, w64 (Int.tmod x 3) = (c : Int) ∧ c < 3 := by
  refine ⟨(x % 3).toNat, ?_, by omega⟩
  rw [Int.tmod_eq_emod_of_nonneg h.1, w64_id (by omega)]; omega
theorem book_l1 (b0 b1 b2 : List Int) (hb0 : b0.length ≤ 140737488351232) (h0 : ∀ x ∈ b0, 0 ≤ x ∧ x ≤ 255) (h1 : ∀ x ∈ b1, 0 ≤ x ∧ x ≤ 4294967295) (h2 : ∀ x ∈ b2, 0 ≤ x ∧ x ≤ 255) :
    ∀ (d i : Nat) (ac : List Acc), i + d = 8 → Book i ac → i ≤ b0.length → ∃ r n, Ev2 (fun k m => h_law07_Book_Accounts_1 k m b0 (b0.length : Int) (i : Int) b0 b1 b2 ac) r ∧ Book n r ∧ n ≤ 8 ∧ n = min b0.length 8
  | 0, i, ac, h, hB, hle => by
    obtain rfl : i = 8 := by omega
    refine ⟨ac, 8, ?_, hB, by omega, by omega⟩
    refine Ev2.step (fun k m => h_law07_Book_Accounts_1_s k m b0 (b0.length : Int) (8 : Nat) b0 b1 b2 ac _ rfl _ rfl _ rfl _ rfl _ rfl _ rfl _ rfl _ rfl _ rfl _ rfl _ rfl _ rfl _ rfl) ?_
    refine Ev2.iff (fun hlt => ?_) fun _ => Ev2.now _
    exact Ev2.pos (inb_true (by omega) (by omega)) (Ev2.posD (by omega) (Ev2.now _))
  | d + 1, i, ac, h, hB, hle => by
    by_cases hlt : i < b0.length
    · have hlen := hB.len
      obtain ⟨c, hc, hc3⟩ := mod3 (h0 b0[i] (List.getElem_mem hlt))
      have hk : 3 * c < ac.length := by omega
      -- the client's balance, and how much of it is held
      obtain ⟨p, hp, hp1⟩ : ∃ p : Int, (i < b2.length → w64 (Int.tmod (b2.getD (Int.toNat (i : Int)) 0) 101) = p) ∧ 0 ≤ p ∧ p ≤ 100 := by
        by_cases hi2 : i < b2.length
        · have hp0 := h2 b2[i] (List.getElem_mem hi2)
          refine ⟨b2[i] % 101, fun _ => ?_, by omega⟩
          rw [getD_nat b2 i _ hi2, Int.tmod_eq_emod_of_nonneg hp0.1, w64_id (by omega)]
        · exact ⟨0, fun q => absurd q hi2, by omega⟩
      obtain ⟨b, hb, hb1⟩ : ∃ b : Int, (i < b1.length → w64 (Int.tmod (b1.getD (Int.toNat (i : Int)) 0) 100000) = b) ∧ (0 ≤ b ∧ b ≤ 99999) := by
        by_cases hi1 : i < b1.length
        · have hp0 := h1 b1[i] (List.getElem_mem hi1)
          refine ⟨b1[i] % 100000, fun _ => ?_, by omega⟩
          rw [getD_nat b1 i _ hi1, Int.tmod_eq_emod_of_nonneg hp0.1, w64_id (by omega)]
        · exact ⟨0, fun q => absurd q hi1, by omega⟩
      have hbp : 0 ≤ b * p ∧ b * p ≤ b * 100 := ⟨Int.mul_nonneg hb1.1 hp1.1, Int.mul_le_mul_of_nonneg_left hp1.2 hb1.1⟩
      have hd : w64 (Int.tdiv (w64 (b * p)) 100) = b * p / 100 := by
        rw [w64_id (x := b * p) (by omega), Int.tdiv_eq_ediv_of_nonneg hbp.1, w64_id (by omega)]
      have hd0 : w64 (Int.tdiv (w64 (0 * p)) 100) = 0 := by rw [Int.zero_mul]; rfl
      have e3 : w64 (3 * (c : Int)) = ((3 * c : Nat) : Int) := by rw [w64_id (by omega)]; omega
      have esub : ∀ x : Int, 0 ≤ x ∧ x ≤ 99999 → w64 (ac[3 * c].2.1 - x) = ac[3 * c].2.1 - x := by intro x hx; have := hB.low (3 * c) hk; exact w64_id (by omega)
      have lens : ∀ x : Acc, (ac.set (3 * c) x).length = ac.length := fun x => by simp
      have next := fun (x y : Int) (hx : 0 ≤ x ∧ x ≤ 99999) (hy : 0 ≤ y ∧ y ≤ x) => book_l1 b0 b1 b2 hb0 h0 h1 h2 d (i + 1) _ (by omega) (book_more hB c hc3 x y hx hy hk (by omega)) (by omega)
      have inc : inb ((3 * c : Nat) : Int) ac.length = true := inb_true (by omega) (by omega)
      by_cases hi1 : i < b1.length
      · by_cases hi2 : i < b2.length
        · obtain ⟨r, n, hr, hBn, hn⟩ := next b (b * p / 100) hb1 ⟨by omega, by omega⟩
          refine ⟨r, n, ?_, hBn, hn⟩
          refine Ev2.step (fun k m => h_law07_Book_Accounts_1_s k m b0 (b0.length : Int) (i : Int) b0 b1 b2 ac _ rfl _ (wnat (by omega)).symm (c : Int) (by rw [getD_nat b0 i _ hlt]; exact hc.symm) b (hb hi1).symm p (hp hi2).symm ((3 * c : Nat) : Int) e3.symm _ rfl ac[3 * c] (getA ac _ hk).symm _ rfl _ rfl _ rfl _ rfl _ rfl) ?_
          rw [hd, Int.toNat_natCast, esub b hb1]
          refine Ev2.posD (by omega) (Ev2.pos (inb_true (by omega) (by omega)) (Ev2.negD (by omega) (Ev2.posD (by omega) (Ev2.pos (inb_true (by omega) (by omega)) (Ev2.posD (by omega) (Ev2.pos (inb_true (by omega) (by omega)) (Ev2.pos inc (Ev2.pos inc (Ev2.posD ?_ hr)))))))))
          rw [lens]; simp only [List.length_cons, List.length_nil]; omega
        · obtain ⟨r, n, hr, hBn, hn⟩ := next b 0 hb1 ⟨by omega, by omega⟩
          refine ⟨r, n, ?_, hBn, hn⟩
          refine Ev2.step (fun k m => h_law07_Book_Accounts_1_s k m b0 (b0.length : Int) (i : Int) b0 b1 b2 ac _ rfl _ (wnat (by omega)).symm (c : Int) (by rw [getD_nat b0 i _ hlt]; exact hc.symm) b (hb hi1).symm _ rfl ((3 * c : Nat) : Int) e3.symm _ rfl ac[3 * c] (getA ac _ hk).symm _ rfl _ rfl _ rfl _ rfl _ rfl) ?_
          rw [Int.toNat_natCast, esub b hb1]
          refine Ev2.posD (by omega) (Ev2.pos (inb_true (by omega) (by omega)) (Ev2.negD (by omega) (Ev2.posD (by omega) (Ev2.pos (inb_true (by omega) (by omega)) (Ev2.negD (by omega) (Ev2.pos inc (Ev2.pos inc (Ev2.posD ?_ hr))))))))
          rw [lens]; simp only [List.length_cons, List.length_nil]; omega
      · by_cases hi2 : i < b2.length
        · obtain ⟨r, n, hr, hBn, hn⟩ := next 0 0 (by omega) ⟨by omega, by omega⟩
          refine ⟨r, n, ?_, hBn, hn⟩
          refine Ev2.step (fun k m => h_law07_Book_Accounts_1_s k m b0 (b0.length : Int) (i : Int) b0 b1 b2 ac _ rfl _ (wnat (by omega)).symm (c : Int) (by rw [getD_nat b0 i _ hlt]; exact hc.symm) _ rfl p (hp hi2).symm ((3 * c : Nat) : Int) e3.symm _ rfl ac[3 * c] (getA ac _ hk).symm _ rfl _ rfl _ rfl _ rfl _ rfl) ?_
          rw [hd0, Int.toNat_natCast, esub 0 (by omega)]
          refine Ev2.posD (by omega) (Ev2.pos (inb_true (by omega) (by omega)) (Ev2.negD (by omega) (Ev2.negD (by omega) (Ev2.posD (by omega) (Ev2.pos (inb_true (by omega) (by omega)) (Ev2.pos inc (Ev2.pos inc (Ev2.posD ?_ hr))))))))
          rw [lens]; simp only [List.length_cons, List.length_nil]; omega
        · obtain ⟨r, n, hr, hBn, hn⟩ := next 0 0 (by omega) ⟨by omega, by omega⟩
          refine ⟨r, n, ?_, hBn, hn⟩
          refine Ev2.step (fun k m => h_law07_Book_Accounts_1_s k m b0 (b0.length : Int) (i : Int) b0 b1 b2 ac _ rfl _ (wnat (by omega)).symm (c : Int) (by rw [getD_nat b0 i _ hlt]; exact hc.symm) _ rfl _ rfl ((3 * c : Nat) : Int) e3.symm _ rfl ac[3 * c] (getA ac _ hk).symm _ rfl _ rfl _ rfl _ rfl _ rfl) ?_
          rw [Int.toNat_natCast, esub 0 (by omega)]
          refine Ev2.posD (by omega) (Ev2.pos (inb_true (by omega) (by omega)) (Ev2.negD (by omega) (Ev2.negD (by omega) (Ev2.negD (by omega) (Ev2.pos inc (Ev2.pos inc (Ev2.posD ?_ hr)))))))
          rw [lens]; simp only [List.length_cons, List.length_nil]; omega
    · refine ⟨ac, i, ?_, hB, by omega, by omega⟩
      exact Ev2.step (fun k m => h_law07_Book_Accounts_1_s k m b0 (b0.length : Int) (i : Int) b0 b1 b2 ac _ rfl _ rfl _ rfl _ rfl _ rfl _ rfl _ rfl _ rfl _ rfl _ rfl _ rfl _ rfl _ rfl) (Ev2.negD (by omega) (Ev2.now _))
/-- Bounds of a book's numbers. -/
abbrev okBook (y : TBook) : Prop := (y.1.length ≤ 140737488351232 ∧ ∀ x ∈ y.1, 0 ≤ x ∧ x ≤ 255) ∧ (∀ x ∈ y.2.1, 0 ≤ x ∧ x ≤ 4294967295) ∧ (∀ x ∈ y.2.2, 0 ≤ x ∧ x ≤ 255)
theorem okBook_of (y : TBook) (h : (y.1.length * 1 ≤ 140737488351232 ∧ ∀ x ∈ y.1, (Lit.int .u8 x).wf = true) ∧ (y.2.1.length * 4 ≤ 140737488351232 ∧ ∀ x ∈ y.2.1, (Lit.int .u32 x).wf = true) ∧ (y.2.2.length * 1 ≤ 140737488351232 ∧ ∀ x ∈ y.2.2, (Lit.int .u8 x).wf = true)) : okBook y :=
  ⟨⟨by omega, fun x hx => wf_u8 (h.1.2 x hx)⟩, fun x hx => wf_u32 (h.2.1.2 x hx), fun x hx => wf_u8 (h.2.2.2 x hx)⟩
/-- A book's accounts. -/
theorem book_ev (y : TBook) (hy : okBook y) : ∃ ac n, Ev1 (fun k => CF k sAs n_law07_Book_Accounts [inj KBook y]) ac ∧ Book n ac ∧ n ≤ 8 := by
  obtain ⟨h0, h1, h2⟩ := hy
  obtain ⟨r, n, hr, hB, hn, _⟩ := book_l1 y.1 y.2.1 y.2.2 h0.1 h0.2 h1 h2 8 0 (house 9) (by omega) house_book (by omega)
  refine ⟨r, n, ?_, hB, hn⟩
  exact Ev1.step (fun k => f_law07_Book_Accounts k y) (book_l0 y.1 y.2.1 y.2.2 r hr.diag 9 0 (by omega)).diag
end Go.Eng.Enb
