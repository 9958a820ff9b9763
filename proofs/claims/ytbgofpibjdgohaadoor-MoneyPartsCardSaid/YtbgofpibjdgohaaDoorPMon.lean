/- The laws of layer 1 that speak of rates. Conditions: the statements' own. -/
import Derived.Test.YtbgofpibjdgohaaDoorPMonMon
set_option linter.all false
set_option linter.unusedVariables false
set_option linter.unusedSimpArgs false
set_option linter.deprecated false
namespace Go.Eng.Mon
open Go.RowKit Go.Eng
set_option maxRecDepth 100000
theorem awake_ev : Ev1 (fun k => CF k sBo n_law01_awake []) true := Ev1.of_rfl 10 (fun k => by kernel_rfl)
theorem num_ev (e : Option Int) : Ev1 (fun k => CF k sIn n_api_Number [inj .err e]) (e.getD 0) := Ev1.step (fun k => f_api_Number k e) (Ev1.now _)
abbrev TRow : Type := TRate × TRate × TRate
abbrev TTab : Type := TRow × TRow × TRow
def tab : TTab := (((1, 1), (9, 10), (150, 1)), ((11, 10), (1, 1), (160, 1)), ((1, 151), (1, 161), (1, 1)))
abbrev KRow : K := .strct (.prod KRate (.prod KRate KRate))
abbrev sTab : Sig := ⟨[(false, .strct (.prod KRow (.prod KRow KRow)))], []⟩
theorem rates_ev : Ev1 (fun k => CF k sTab n_money_Rates []) tab := Ev1.step (fun k => f_money_Rates k) (Ev1.now _)
theorem three {i : Int} (h : 0 ≤ i ∧ i ≤ 255) : Int.tmod i 3 = 0 ∨ Int.tmod i 3 = 1 ∨ Int.tmod i 3 = 2 := by
  have := tmod_facts (a := i) (b := 3) h.1 (by omega)
  omega
theorem MoneyRates (i j : Int) (hi : 0 ≤ i ∧ i ≤ 255) (hj : 0 ≤ j ∧ j ≤ 255) : Ev1 (fun k => CF k sBo n_law01_MoneyRates [inj (.int .u8) i, inj (.int .u8) j]) true := by
  refine Ev1.step (fun k => f_law01_MoneyRates k i j) (Ev1.bind awake_ev (Ev1.neg rfl (Ev1.bind rates_ev ?_)))
  rcases three hi with h | h | h <;> rcases three hj with h2 | h2 | h2 <;> rw [h, h2] <;> exact Ev1.now _
/-- There and back again: by a rate, and its counterpart. -/
theorem round (n p q p' q' : Int) (same : Bool) (h1 : okR p q) (h2 : okR p' q') (hb : ∀ n a : Int, 1 ≤ n → a = n * p / q → a * p' / q' ≤ n) (hs : same = true → ∀ n : Int, n * p / q = n) :
    Ev1 (fun k => (CF k sCv n_money_Convert [inj I n, inj KRate (p, q)]).bind fun (r_2 : Int × Int × (Option Int)) =>
 (bif r_2.2.2.isSome then (bif decide (r_2.1 = (0 : Int)) then some true
 else some (!r_2.2.2.isSome))
 else (bif decide (r_2.1 < (1 : Int)) then (bif decide (r_2.1 = (0 : Int)) then some true
 else some (!r_2.2.2.isSome))
 else ((CF k sCv n_money_Convert [inj I r_2.1, inj KRate (p', q')]).bind fun (r_3 : Int × Int × (Option Int)) =>
 (bif (!r_3.2.2.isSome) then (bif decide (r_3.1 ≤ n) then (bif (!same) then some true
 else (bif decide (r_2.1 = n) then some true
 else ((CF k sIn n_api_Number [inj .err r_3.2.2]).bind fun (r_4 : Int) =>
 some (decide (r_4 = (4 : Int))))))
 else ((CF k sIn n_api_Number [inj .err r_3.2.2]).bind fun (r_4 : Int) =>
 some (decide (r_4 = (4 : Int)))))
 else ((CF k sIn n_api_Number [inj .err r_3.2.2]).bind fun (r_4 : Int) =>
 some (decide (r_4 = (4 : Int))))))))) true := by
  refine Ev1.bind (convert_ev n p q) ?_
  unfold convV
  by_cases hn : 1 ≤ n ∧ n ≤ 1099511627776
  · rw [if_pos ⟨hn, h1⟩]
    by_cases ho : 1099511627776 < n * p / q
    · rw [if_pos ho]; exact Ev1.now _
    · rw [if_neg ho]
      have hge : 0 ≤ n * p / q := Int.ediv_nonneg (Int.mul_nonneg (by omega) (by unfold okR at h1; omega)) (by unfold okR at h1; omega)
      have hb' := hb n _ hn.1 rfl
      have hs' := fun h => hs h n
      generalize n * p / q = a at ho hge hb' hs' ⊢
      by_cases ha : a < 1
      · exact Ev1.neg rfl (Ev1.posD ha (Ev1.posD (show a = 0 by omega) (Ev1.now _)))
      · refine Ev1.neg rfl (Ev1.negD ha (Ev1.bind (convert_ev a p' q') ?_))
        unfold convV
        rw [if_pos ⟨by omega, h2⟩]
        by_cases ho2 : 1099511627776 < a * p' / q'
        · rw [if_pos ho2]
          exact Ev1.neg rfl (Ev1.bind (num_ev (some 4)) (Ev1.now _))
        · rw [if_neg ho2]
          refine Ev1.pos rfl (Ev1.posD hb' ?_)
          cases same with
          | false => exact Ev1.now _
          | true => exact Ev1.neg rfl (Ev1.posD (hs' rfl) (Ev1.now _))
  · rw [if_neg (fun h => hn h.1)]; exact Ev1.now _
theorem MoneyRound (n i j : Int) (hi : 0 ≤ i ∧ i ≤ 255) (hj : 0 ≤ j ∧ j ≤ 255) : Ev1 (fun k => CF k sBo n_law01_MoneyRound [inj I n, inj (.int .u8) i, inj (.int .u8) j]) true := by
  refine Ev1.step (fun k => f_law01_MoneyRound k n i j) (Ev1.bind awake_ev (Ev1.neg rfl (Ev1.bind rates_ev ?_)))
  rcases three hi with h | h | h <;> rcases three hj with h2 | h2 | h2 <;> rw [h, h2]
  · exact round n 1 1 1 1 true (by decide) (by decide) (by intro n a h1 h2; omega) (by intro _ n; omega)
  · exact round n 9 10 11 10 false (by decide) (by decide) (by intro n a h1 h2; omega) (by intro h; cases h)
  · exact round n 150 1 1 151 false (by decide) (by decide) (by intro n a h1 h2; omega) (by intro h; cases h)
  · exact round n 11 10 9 10 false (by decide) (by decide) (by intro n a h1 h2; omega) (by intro h; cases h)
  · exact round n 1 1 1 1 true (by decide) (by decide) (by intro n a h1 h2; omega) (by intro _ n; omega)
  · exact round n 160 1 1 161 false (by decide) (by decide) (by intro n a h1 h2; omega) (by intro h; cases h)
  · exact round n 1 151 150 1 false (by decide) (by decide) (by intro n a h1 h2; omega) (by intro h; cases h)
  · exact round n 1 161 160 1 false (by decide) (by decide) (by intro n a h1 h2; omega) (by intro h; cases h)
  · exact round n 1 1 1 1 true (by decide) (by decide) (by intro n a h1 h2; omega) (by intro _ n; omega)
/-- In two parts. -/
theorem parts (a b p q : Int) (h1 : okR p q) (hd : ∀ A B : Int, 0 ≤ A → 0 ≤ B → A / q + B / q ≤ (A + B) / q ∧ (A + B) / q ≤ A / q + B / q + 1) :
    Ev1 (fun k => (CF k sCv n_money_Convert [inj I a, inj KRate (p, q)]).bind fun (r_2 : Int × Int × (Option Int)) =>
 ((CF k sCv n_money_Convert [inj I b, inj KRate (p, q)]).bind fun (r_3 : Int × Int × (Option Int)) =>
 (bif r_2.2.2.isSome then some true
 else (bif r_3.2.2.isSome then some true
 else (bif decide ((1099511627776 : Int) < (w64 (a + b))) then some true
 else ((CF k sCv n_money_Convert [inj I (w64 (a + b)), inj KRate (p, q)]).bind fun (r_4 : Int × Int × (Option Int)) =>
 (bif r_4.2.2.isSome then ((CF k sIn n_api_Number [inj .err r_4.2.2]).bind fun (r_5 : Int) =>
 (bif decide (r_5 = (4 : Int)) then some (decide ((1099511627776 : Int) ≤ (w64 (r_2.1 + r_3.1))))
 else some false))
 else (bif decide ((w64 (r_2.1 + r_3.1)) ≤ r_4.1) then some (decide (r_4.1 ≤ (w64 ((w64 (r_2.1 + r_3.1)) + (1 : Int)))))
 else some false)))))))) true := by
  refine Ev1.bind (convert_ev a p q) (Ev1.bind (convert_ev b p q) ?_)
  rcases convV_cases a p q h1 with ⟨e, _⟩ | ⟨e, _⟩ | ⟨e, ha, hao, g1⟩
  · rw [e]; exact Ev1.now _
  · rw [e]; exact Ev1.now _
  · rw [e]
    rcases convV_cases b p q h1 with ⟨e, _⟩ | ⟨e, _⟩ | ⟨e, hb, hbo, g2⟩
    · rw [e]; exact Ev1.now _
    · rw [e]; exact Ev1.now _
    · rw [e]
      have hp : 0 ≤ p := by unfold okR at h1; omega
      have g3 := hd (a * p) (b * p) (Int.mul_nonneg (by omega) hp) (Int.mul_nonneg (by omega) hp)
      rw [← Int.add_mul] at g3
      refine Ev1.neg rfl (Ev1.neg rfl ?_)
      rw [w64_id (x := a + b) (by omega)]
      refine Ev1.iff (fun _ => Ev1.now _) fun hs => Ev1.bind (convert_ev (a + b) p q) ?_
      rcases convV_cases (a + b) p q h1 with ⟨e, h⟩ | ⟨e, _, hz⟩ | ⟨e, _, hz, _⟩
      · omega
      · rw [e]
        refine Ev1.pos rfl (Ev1.bind (num_ev (some 4)) (Ev1.posD rfl (Ev1.const (congrArg some (decide_eq_true ?_)))))
        dsimp only
        rw [w64_id (by omega)]; omega
      · rw [e]
        dsimp only
        rw [w64_id (x := a * p / q + b * p / q) (by omega), w64_id (x := a * p / q + b * p / q + 1) (by omega)]
        exact Ev1.neg rfl (Ev1.posD g3.1 (Ev1.const (congrArg some (decide_eq_true g3.2))))
theorem MoneyParts (a b i j : Int) (hi : 0 ≤ i ∧ i ≤ 255) (hj : 0 ≤ j ∧ j ≤ 255) : Ev1 (fun k => CF k sBo n_law01_MoneyParts [inj I a, inj I b, inj (.int .u8) i, inj (.int .u8) j]) true := by
  refine Ev1.step (fun k => f_law01_MoneyParts k a b i j) (Ev1.bind awake_ev (Ev1.neg rfl (Ev1.bind rates_ev ?_)))
  rcases three hi with h | h | h <;> rcases three hj with h2 | h2 | h2 <;> rw [h, h2]
  · exact parts a b 1 1 (by decide) (by intro A B h1 h2; omega)
  · exact parts a b 9 10 (by decide) (by intro A B h1 h2; omega)
  · exact parts a b 150 1 (by decide) (by intro A B h1 h2; omega)
  · exact parts a b 11 10 (by decide) (by intro A B h1 h2; omega)
  · exact parts a b 1 1 (by decide) (by intro A B h1 h2; omega)
  · exact parts a b 160 1 (by decide) (by intro A B h1 h2; omega)
  · exact parts a b 1 151 (by decide) (by intro A B h1 h2; omega)
  · exact parts a b 1 161 (by decide) (by intro A B h1 h2; omega)
  · exact parts a b 1 1 (by decide) (by intro A B h1 h2; omega)
end Go.Eng.Mon
