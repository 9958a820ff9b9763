/- Lemmas of this session: accounts that are right, by a plain rule; those of a book, what they are. -/
import Derived.Test.YtajeobncbcpllaaWEv
import Derived.Test.YtajeobncbcpllaaPAllx2
import Derived.Test.YtajeobncbcpllaaPAllx5
namespace Go.Proofs.Ytajeobncbcpllaa.ChartL
set_option linter.unusedVariables false
set_option linter.unusedSimpArgs false
open Go.RowKit Go.Proofs.Ytajeobncbcpllaa.PAll Go.Proofs.YtajeobncbcpllaaW.PrintWords Go.Proofs.YtajeobncbcpllaaW.PrintMore Go.Proofs.YtajeobncbcpllaaW.EvL

abbrev Acc := S27
theorem rdT (l : List Acc) (i : Nat) (h : i < l.length) : rd_T27 l (i : Int) = l[i] := by
  unfold rd_T27; rw [Int.toNat_natCast, List.getD_eq_getElem?_getD, List.getElem?_eq_getElem h]; rfl

/-- An account that may stand at place k. -/
def OkAt (k : Nat) (a : Acc) : Prop := 0 ≤ a.f0 ∧ a.f0 ≤ 2 ∧ -1125899906842624 ≤ a.f1 ∧ a.f1 ≤ 1125899906842624 ∧ (k < 9 → a.f2 = 0 ∧ a.f0 = ((k / 3 : Nat) : Int)) ∧ (9 ≤ k → 0 ≤ a.f2 ∧ a.f2 ≤ a.f1)
instance (k : Nat) (a : Acc) : Decidable (OkAt k a) := by unfold OkAt; infer_instance
def okFrom : Nat → List Acc → Bool
  | _, [] => true
  | i, a :: r => decide (OkAt i a) && okFrom (i + 1) r
def rightB (ac : List Acc) : Bool := decide (9 ≤ ac.length) && (decide (ac.length ≤ 64) && okFrom 0 ac)
theorem okFrom_iff : ∀ (l : List Acc) (i : Nat), okFrom i l = true ↔ ∀ (k : Nat) (h : k < l.length), OkAt (i + k) l[k]
  | [], i => by simp [okFrom]
  | a :: r, i => by
    simp only [okFrom, Bool.and_eq_true, decide_eq_true_eq, okFrom_iff r (i + 1)]
    constructor
    · rintro ⟨h0, h⟩ k hk
      rcases k with _ | k
      · exact h0
      · have := h k (by simpa using hk)
        rw [show i + (k + 1) = i + 1 + k by omega]; exact this
    · intro h
      refine ⟨h 0 (by simp), fun k hk => ?_⟩
      have := h (k + 1) (by simpa using hk)
      rw [show i + 1 + k = i + (k + 1) by omega]; exact this
theorem rightB_iff (ac : List Acc) : rightB ac = true ↔ 9 ≤ ac.length ∧ ac.length ≤ 64 ∧ ∀ (k : Nat) (h : k < ac.length), OkAt k ac[k] := by
  unfold rightB
  simp only [Bool.and_eq_true, decide_eq_true_eq, okFrom_iff, Nat.zero_add]

theorem div3 (i : Nat) (h : (i : Int) ≤ 9223372036854775807) : wrap64 (Int.tdiv (i : Int) 3) = ((i / 3 : Nat) : Int) := by
  rw [Int.tdiv_eq_ediv_of_nonneg (by omega), w64 (by omega) (by omega)]; omega
theorem r_j3 (ac : List Acc) (L : Int) (i : Nat) (hi : (i : Int) + 1 ≤ 9223372036854775807) (z r : Bool) (h : Ev (fun k => chart_Right.l0 k ac L ((i + 1 : Nat) : Int)) r) : Ev (fun k => chart_Right.j3 k ac L (i : Int) z) (!z && r) := by
  refine Ev.step (fun k => rfl) ?_
  simp only [chart_Right.j3]
  cases z with
  | true => exact evIf rfl (Ev.now _)
  | false =>
    refine evElse (by decide) ?_
    rw [w64 (by omega) (by omega)]; exact h
theorem r_j2 (ac : List Acc) (L : Int) (i : Nat) (hi : (i : Int) + 1 ≤ 9223372036854775807) (z r : Bool) (c b d : Int) (h : Ev (fun k => chart_Right.l0 k ac L ((i + 1 : Nat) : Int)) r) :
    Ev (fun k => chart_Right.j2 k (i : Int) ac L (i : Int) z c b d) (!z && (decide ((i < 9 → d = 0 ∧ c = ((i / 3 : Nat) : Int)) ∧ (9 ≤ i → 0 ≤ d ∧ d ≤ b)) && r)) := by
  refine Ev.step (fun k => rfl) ?_
  simp only [chart_Right.j2]
  cases z with
  | true => exact evIf rfl (Ev.now _)
  | false =>
    refine evElse (by decide) ?_
    simp only [Bool.not_false, Bool.true_and]
    rw [div3 i (by omega)]
    by_cases h9 : (i : Int) < 9
    · refine evIf h9 ?_
      by_cases hc : c = ((i / 3 : Nat) : Int)
      · refine evIf hc ?_
        by_cases hd : d = 0
        · refine evIf hd (evElse (by omega) ?_)
          rw [decide_eq_true (by exact ⟨fun _ => ⟨hd, hc⟩, fun q => by omega⟩)]
          exact r_j3 ac L i hi false r h
        · refine evElse hd ?_
          rw [decide_eq_false (by rintro ⟨q, _⟩; exact hd (q (by omega)).1)]
          exact r_j3 ac L i hi true r h
      · refine evElse hc ?_
        rw [decide_eq_false (by rintro ⟨q, _⟩; exact hc (q (by omega)).2)]
        exact r_j3 ac L i hi true r h
    · refine evElse h9 (evIf (by omega) ?_)
      by_cases hd : d < 0
      · refine evIf hd ?_
        rw [decide_eq_false (by rintro ⟨_, q⟩; have := q (by omega); omega)]
        exact r_j3 ac L i hi true r h
      · refine evElse hd ?_
        have e : decide ((i < 9 → d = 0 ∧ c = ((i / 3 : Nat) : Int)) ∧ (9 ≤ i → 0 ≤ d ∧ d ≤ b)) = !decide (b < d) := by
          by_cases hb : b < d
          · rw [decide_eq_true hb, decide_eq_false (by rintro ⟨_, q⟩; have := q (by omega); omega)]; rfl
          · rw [decide_eq_false hb, decide_eq_true (by exact ⟨fun q => by omega, fun _ => ⟨by omega, by omega⟩⟩)]; rfl
        rw [e]
        exact r_j3 ac L i hi _ r h
theorem right_l0 (ac : List Acc) (hl : ac.length ≤ 9223372036854775000) : ∀ (d i : Nat), i + d = ac.length → Ev (fun k => chart_Right.l0 k ac (ac.length : Int) (i : Int)) (okFrom i (ac.drop i))
  | 0, i, h => by
    refine Ev.step (fun k => rfl) ?_
    simp only [chart_Right.l0]
    rw [List.drop_of_length_le (by omega)]
    exact evElse (by omega) (Ev.now _)
  | d + 1, i, h => by
    refine Ev.step (fun k => rfl) ?_
    simp only [chart_Right.l0]
    have hil : i < ac.length := by omega
    rw [List.drop_eq_getElem_cons hil, rdT ac i hil]
    have next := right_l0 ac hl d (i + 1) (by omega)
    generalize ac[i] = a
    simp only [okFrom]
    refine evIf (by omega) (evIf (by omega) (evIf (by omega) ?_))
    by_cases h1 : a.f0 < 0
    · refine evIf h1 ?_
      rw [decide_eq_false (fun q => by have := q.1; omega)]
      simpa using r_j2 ac _ i (by omega) true _ a.f0 a.f1 a.f2 next
    · refine evElse h1 ?_
      by_cases h2 : a.f0 ≥ 3
      · refine evIf h2 ?_
        rw [decide_eq_false (fun q => by have := q.2.1; omega)]
        simpa using r_j2 ac _ i (by omega) true _ a.f0 a.f1 a.f2 next
      · refine evElse h2 ?_
        by_cases h3 : a.f1 > 1125899906842624
        · refine evIf h3 ?_
          rw [decide_eq_false (fun q => by have := q.2.2.2.1; omega)]
          simpa using r_j2 ac _ i (by omega) true _ a.f0 a.f1 a.f2 next
        · refine evElse h3 ?_
          have e : decide (OkAt i a) = (!decide (a.f1 < -1125899906842624) && decide ((i < 9 → a.f2 = 0 ∧ a.f0 = ((i / 3 : Nat) : Int)) ∧ (9 ≤ i → 0 ≤ a.f2 ∧ a.f2 ≤ a.f1))) := by
            by_cases h4 : a.f1 < -1125899906842624
            · rw [decide_eq_true h4, decide_eq_false (fun q => by have := q.2.2.1; omega)]; rfl
            · rw [decide_eq_false h4]
              simp only [Bool.not_false, Bool.true_and]
              apply decide_eq_decide.2
              constructor
              · intro q; exact ⟨q.2.2.2.2.1, q.2.2.2.2.2⟩
              · intro q; exact ⟨by omega, by omega, by omega, by omega, q.1, q.2⟩
          rw [e, Bool.and_assoc]
          exact r_j2 ac _ i (by omega) _ _ a.f0 a.f1 a.f2 next
theorem right_ev (ac : List Acc) (hl : ac.length ≤ 9223372036854775000) : Ev (fun k => chart_Right.f k ac) (rightB ac) := by
  have main := right_l0 ac hl ac.length 0 (by omega)
  rw [List.drop_zero] at main
  unfold chart_Right.f rightB
  by_cases h : (ac.length : Int) < 9
  · refine evIf h ?_
    rw [decide_eq_false (show ¬ 9 ≤ ac.length by omega)]
    refine Ev.step (fun k => rfl) ?_
    simp only [chart_Right.j0]
    exact evIf (by first | rfl | trivial) (Ev.now _)
  · refine evElse h ?_
    rw [decide_eq_true (show 9 ≤ ac.length by omega)]
    refine Ev.step (fun k => rfl) ?_
    simp only [chart_Right.j0]
    by_cases h64 : (ac.length : Int) > 64
    · rw [decide_eq_true h64, decide_eq_false (show ¬ ac.length ≤ 64 by omega)]
      exact evIf rfl (Ev.now _)
    · rw [decide_eq_false h64, decide_eq_true (show ac.length ≤ 64 by omega)]
      exact evElse (by decide) (by simpa using main)

/-! ### a book's -/
def cur (c : Int) (a : Acc) : Int := if a.f0 = c then a.f1 else 0
def sums (c : Int) (ac : List Acc) : Int := (ac.map (cur c)).sum
theorem sums_append (c : Int) (a b : List Acc) : sums c (a ++ b) = sums c a + sums c b := by unfold sums; simp
theorem sums_set (c : Int) : ∀ (l : List Acc) (k : Nat) (x : Acc) (h : k < l.length), sums c (l.set k x) = sums c l - cur c l[k] + cur c x
  | [], k, x, h => by simp at h
  | a :: l, 0, x, h => by simp [sums]; omega
  | a :: l, k + 1, x, h => by
    have := sums_set c l k x (by simpa using h)
    simp only [sums, List.set_cons_succ, List.map_cons, List.sum_cons, List.getElem_cons_succ] at this ⊢
    omega
/-- What is told of a book's accounts, i of them clients'. -/
structure Book (i : Nat) (ac : List Acc) : Prop where
  len : ac.length = 9 + i
  ok : ∀ (k : Nat) (h : k < ac.length), OkAt k ac[k]
  low : ∀ (k : Nat) (h : k < ac.length), -(100000 * (i : Int)) ≤ ac[k].f1 ∧ ac[k].f1 ≤ 100000
  sum : ∀ c, sums c ac = 0
theorem Book.right {i : Nat} {ac : List Acc} (h : Book i ac) (hi : i ≤ 8) : rightB ac = true := (rightB_iff ac).2 ⟨by have := h.len; omega, by have := h.len; omega, h.ok⟩

def house (i : Nat) : List Acc := (List.range 9).map fun j => (⟨if j < i then ((j / 3 : Nat) : Int) else 0, 0, 0⟩ : Acc)
theorem house_set (i : Nat) (h : i < 9) : (house i).set i (⟨wrap64 (Int.tdiv (i : Int) 3), (rd_T27 (house i) (i : Int)).f1, (rd_T27 (house i) (i : Int)).f2⟩ : Acc) = house (i + 1) := by
  rw [div3 i (by omega)]
  have : i = 0 ∨ i = 1 ∨ i = 2 ∨ i = 3 ∨ i = 4 ∨ i = 5 ∨ i = 6 ∨ i = 7 ∨ i = 8 := by omega
  rcases this with rfl | rfl | rfl | rfl | rfl | rfl | rfl | rfl | rfl <;> rfl
theorem house_len (i : Nat) : (house i).length = 9 := by simp [house]
theorem book_l0 (b0 b1 b2 : List Int) (r : List Acc) (hr : Ev (fun k => hawalalaw07_Book_Accounts.l1 k (house 9) b0 (b0.length : Int) 0 b0 b1 b2) r) : ∀ (d i : Nat), i + d = 9 → Ev (fun k => hawalalaw07_Book_Accounts.l0 k (house i) 9 (i : Int) b0 b1 b2) r
  | 0, i, h => by
    obtain rfl : i = 9 := by omega
    refine Ev.step (fun k => rfl) ?_
    simp only [hawalalaw07_Book_Accounts.l0]
    exact evElse (by omega) hr
  | d + 1, i, h => by
    refine Ev.step (fun k => rfl) ?_
    simp only [hawalalaw07_Book_Accounts.l0]
    refine evIf (by omega) (evIf (by omega) (evIf (by rw [house_len]; omega) ?_))
    rw [Int.toNat_natCast, house_set i (by omega), w64 (by omega) (by omega)]
    exact book_l0 b0 b1 b2 r hr d (i + 1) (by omega)
theorem house_book : Book 0 (house 9) := by
  refine ⟨house_len 9, ?_, ?_, ?_⟩
  · intro k hk
    rw [house_len] at hk
    have : k = 0 ∨ k = 1 ∨ k = 2 ∨ k = 3 ∨ k = 4 ∨ k = 5 ∨ k = 6 ∨ k = 7 ∨ k = 8 := by omega
    rcases this with rfl | rfl | rfl | rfl | rfl | rfl | rfl | rfl | rfl <;> exact of_decide_eq_true rfl
  · intro k hk
    rw [house_len] at hk
    have : k = 0 ∨ k = 1 ∨ k = 2 ∨ k = 3 ∨ k = 4 ∨ k = 5 ∨ k = 6 ∨ k = 7 ∨ k = 8 := by omega
    rcases this with rfl | rfl | rfl | rfl | rfl | rfl | rfl | rfl | rfl <;> exact ⟨of_decide_eq_true rfl, of_decide_eq_true rfl⟩
  · intro c
    simp [sums, house, cur, List.range, List.range.loop]
/-- A client more, with what the house's World gives. -/
theorem book_more {i : Nat} {ac : List Acc} (h : Book i ac) (c : Nat) (hc : c < 3) (b d : Int) (hb : 0 ≤ b ∧ b ≤ 99999) (hd : 0 ≤ d ∧ d ≤ b) (hk : 3 * c < ac.length) (hi : i < 8) :
    Book (i + 1) (ac.set (3 * c) (⟨ac[3 * c].f0, ac[3 * c].f1 - b, ac[3 * c].f2⟩ : Acc) ++ [(⟨(c : Int), b, d⟩ : Acc)]) := by
  have hl := h.len
  have h0 := (h.ok (3 * c) hk).2.2.2.2.1 (by omega)
  have h0c : ac[3 * c].f0 = (c : Int) := by rw [h0.2]; omega
  have hlow := h.low (3 * c) hk
  refine ⟨by simp; omega, ?_, ?_, ?_⟩
  · intro k hkl
    simp only [List.length_append, List.length_set, List.length_singleton] at hkl
    by_cases hlt : k < ac.length
    · rw [List.getElem_append_left (by simpa using hlt)]
      by_cases he : 3 * c = k
      · subst he
        rw [List.getElem_set_self]
        exact ⟨by show 0 ≤ ac[3 * c].f0; omega, by show ac[3 * c].f0 ≤ 2; omega, by show -1125899906842624 ≤ ac[3 * c].f1 - b; omega, by show ac[3 * c].f1 - b ≤ 1125899906842624; omega, fun _ => h0, fun q => by omega⟩
      · rw [List.getElem_set_ne he]; exact h.ok k hlt
    · rw [List.getElem_append_right (by simpa using hlt)]
      have e : k - (ac.set (3 * c) (⟨ac[3 * c].f0, ac[3 * c].f1 - b, ac[3 * c].f2⟩ : Acc)).length = 0 := by simp; omega
      simp only [e, List.getElem_cons_zero]
      exact ⟨by show (0 : Int) ≤ c; omega, by show (c : Int) ≤ 2; omega, by show -1125899906842624 ≤ b; omega, by show b ≤ 1125899906842624; omega, fun q => by omega, fun _ => hd⟩
  · intro k hkl
    simp only [List.length_append, List.length_set, List.length_singleton] at hkl
    by_cases hlt : k < ac.length
    · rw [List.getElem_append_left (by simpa using hlt)]
      by_cases he : 3 * c = k
      · subst he
        rw [List.getElem_set_self]
        show -(100000 * ((i + 1 : Nat) : Int)) ≤ ac[3 * c].f1 - b ∧ ac[3 * c].f1 - b ≤ 100000
        omega
      · rw [List.getElem_set_ne he]; have := h.low k hlt; omega
    · rw [List.getElem_append_right (by simpa using hlt)]
      have e : k - (ac.set (3 * c) (⟨ac[3 * c].f0, ac[3 * c].f1 - b, ac[3 * c].f2⟩ : Acc)).length = 0 := by simp; omega
      simp only [e, List.getElem_cons_zero]
      show -(100000 * ((i + 1 : Nat) : Int)) ≤ b ∧ b ≤ 100000
      omega
  · intro c'
    rw [sums_append, sums_set c' ac (3 * c) _ hk, h.sum c']
    simp only [sums, List.map_cons, List.map_nil, List.sum_cons, List.sum_nil, cur, h0c]
    split <;> omega
theorem book_l1 (b0 b1 b2 : List Int) (hb0 : b0.length ≤ 140737488351232) (h0 : ∀ x ∈ b0, 0 ≤ x ∧ x ≤ 255) (h1 : ∀ x ∈ b1, 0 ≤ x ∧ x ≤ 4294967295) (h2 : ∀ x ∈ b2, 0 ≤ x ∧ x ≤ 255) :
    ∀ (d i : Nat) (ac : List Acc), i + d = 8 → Book i ac → i ≤ b0.length → ∃ r n, Ev (fun k => hawalalaw07_Book_Accounts.l1 k ac b0 (b0.length : Int) (i : Int) b0 b1 b2) r ∧ Book n r ∧ n ≤ 8 ∧ n = min b0.length 8
  | 0, i, ac, h, hB, hle => by
    obtain rfl : i = 8 := by omega
    refine ⟨ac, 8, ?_, hB, by omega, by omega⟩
    refine Ev.step (fun k => rfl) ?_
    simp only [hawalalaw07_Book_Accounts.l1]
    by_cases hlt : ((8 : Nat) : Int) < (b0.length : Int)
    · exact evIf hlt (evIf (by omega) (evIf hlt (evIf (by omega) (Ev.now _))))
    · exact evElse hlt (Ev.now _)
  | d + 1, i, ac, h, hB, hle => by
    by_cases hlt : i < b0.length
    · have hlen := hB.len
      have hc0 := h0 b0[i] (List.getElem_mem hlt)
      obtain ⟨c, hc, hc3⟩ : ∃ c : Nat, wrap64 (Int.tmod b0[i] 3) = (c : Int) ∧ c < 3 := by
        refine ⟨(b0[i] % 3).toNat, ?_, by omega⟩
        rw [Int.tmod_eq_emod_of_nonneg hc0.1, w64 (by omega) (by omega)]; omega
      have hk : 3 * c < ac.length := by omega
      -- from the second half of a round on
      have half : ∀ b : Int, 0 ≤ b ∧ b ≤ 99999 → ∃ r n, Ev (fun k => hawalalaw07_Book_Accounts.j2 k ac (i : Int) b0 (b0.length : Int) (i : Int) b0 b1 b2 (c : Int) b 0) r ∧ Book n r ∧ n ≤ 8 ∧ n = min b0.length 8 := by
        intro b hb
        have e3 : wrap64 (3 * (c : Int)) = ((3 * c : Nat) : Int) := by rw [w64 (by omega) (by omega)]; omega
        have esub : wrap64 (ac[3 * c].f1 - b) = ac[3 * c].f1 - b := by have := hB.low (3 * c) hk; exact w64 (by omega) (by omega)
        have lens : ∀ x : Acc, (ac.set (3 * c) x).length = ac.length := fun x => by simp
        by_cases hi2 : (i : Int) < (b2.length : Int)
        · have hi2' : i < b2.length := by omega
          have hp0 := h2 b2[i] (List.getElem_mem hi2')
          obtain ⟨p, hp, hp1⟩ : ∃ p : Int, wrap64 (Int.tmod b2[i] 101) = p ∧ 0 ≤ p ∧ p ≤ 100 := by
            refine ⟨b2[i] % 101, ?_, by omega⟩
            rw [Int.tmod_eq_emod_of_nonneg hp0.1, w64 (by omega) (by omega)]
          have hbp : 0 ≤ b * p ∧ b * p ≤ b * 100 := ⟨Int.mul_nonneg hb.1 hp1.1, Int.mul_le_mul_of_nonneg_left hp1.2 hb.1⟩
          have hd : wrap64 (Int.tdiv (wrap64 (b * p)) 100) = b * p / 100 := by
            have e1 : wrap64 (b * p) = b * p := w64 (by omega) (by omega)
            rw [e1, Int.tdiv_eq_ediv_of_nonneg hbp.1, w64 (by omega) (by omega)]
          obtain ⟨r, n, hr, hBn, hn⟩ := book_l1 b0 b1 b2 hb0 h0 h1 h2 d (i + 1) _ (by omega) (book_more hB c hc3 b (b * p / 100) hb ⟨by omega, by omega⟩ hk (by omega)) (by omega)
          refine ⟨r, n, ?_, hBn, hn⟩
          refine Ev.step (fun k => rfl) ?_
          simp only [hawalalaw07_Book_Accounts.j2]
          rw [e3, rdT ac (3 * c) hk, rd_nat b2 i hi2', Int.toNat_natCast, esub, hp, hd, w64 (show -9223372036854775808 ≤ (i : Int) + 1 by omega) (by omega)]
          exact evIf hi2 (evIf (by omega) (evIf (by omega) (evIf (by omega) (evBind1 rfl (evIf (by rw [lens]; omega) hr)))))
        · obtain ⟨r, n, hr, hBn, hn⟩ := book_l1 b0 b1 b2 hb0 h0 h1 h2 d (i + 1) _ (by omega) (book_more hB c hc3 b 0 hb ⟨by omega, by omega⟩ hk (by omega)) (by omega)
          refine ⟨r, n, ?_, hBn, hn⟩
          refine Ev.step (fun k => rfl) ?_
          simp only [hawalalaw07_Book_Accounts.j2]
          rw [e3, rdT ac (3 * c) hk, Int.toNat_natCast, esub, w64 (show -9223372036854775808 ≤ (i : Int) + 1 by omega) (by omega)]
          exact evElse hi2 (evIf (by omega) (evIf (by omega) (evBind1 rfl (evIf (by rw [lens]; omega) hr))))
      by_cases hi1 : (i : Int) < (b1.length : Int)
      · have hi1' : i < b1.length := by omega
        have hb0' := h1 b1[i] (List.getElem_mem hi1')
        have eb : wrap64 (Int.tmod b1[i] 100000) = b1[i] % 100000 := by rw [Int.tmod_eq_emod_of_nonneg hb0'.1, w64 (by omega) (by omega)]
        obtain ⟨r, n, hr, hBn, hn⟩ := half (b1[i] % 100000) (by omega)
        refine ⟨r, n, ?_, hBn, hn⟩
        refine Ev.step (fun k => rfl) ?_
        simp only [hawalalaw07_Book_Accounts.l1]
        rw [rd_nat b0 i hlt, hc, rd_nat b1 i hi1', eb]
        exact evIf (by omega) (evIf (by omega) (evIf (by omega) (evElse (by omega) (evIf hi1 hr))))
      · obtain ⟨r, n, hr, hBn, hn⟩ := half 0 (by omega)
        refine ⟨r, n, ?_, hBn, hn⟩
        refine Ev.step (fun k => rfl) ?_
        simp only [hawalalaw07_Book_Accounts.l1]
        rw [rd_nat b0 i hlt, hc]
        exact evIf (by omega) (evIf (by omega) (evIf (by omega) (evElse (by omega) (evElse hi1 hr))))
    · refine ⟨ac, i, ?_, hB, by omega, by omega⟩
      refine Ev.step (fun k => rfl) ?_
      simp only [hawalalaw07_Book_Accounts.l1]
      exact evElse (by omega) (Ev.now _)
/-- A book's accounts. -/
theorem book_ev (y : S25) (hy : okS25 y) : ∃ ac n, Ev (fun k => hawalalaw07_Book_Accounts.f k y.f0 y.f1 y.f2) ac ∧ Book n ac ∧ n ≤ 8 := by
  obtain ⟨h0, h1, h2⟩ := hy
  obtain ⟨r, n, hr, hB, hn, _⟩ := book_l1 y.f0 y.f1 y.f2 (by have := h0.2.1; omega) (fun x hx => wf_u8 (h0.2.2 x hx)) (fun x hx => wf_u32 (h1.2.2 x hx)) (fun x hx => wf_u8 (h2.2.2 x hx)) 8 0 (house 9) (by omega) house_book (by omega)
  refine ⟨r, n, ?_, hB, hn⟩
  unfold hawalalaw07_Book_Accounts.f
  refine evIf (by omega) (evBind1 rfl ?_)
  exact book_l0 y.f0 y.f1 y.f2 r hr 9 0 (by omega)
end Go.Proofs.Ytajeobncbcpllaa.ChartL
