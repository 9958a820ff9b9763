/- Where each leg refuses fewer than four times one behind the other, a saga gets ready; for up to four legs, any numbers of refusals. Conditions: none beyond the statement's own. -/
import Derived.Test.YtinjmjgfhpojfaaSaga
import Derived.Test.YtinjmjgfhpojfaaPAllx9
namespace Go.Proofs.Ytinjmjgfhpojfaa.Pure
set_option linter.unusedVariables false
set_option linter.unusedSimpArgs false
open Go.RowKit Go.Proofs.Ytinjmjgfhpojfaa.PAll Go.Proofs.YtinjmjgfhpojfaaW.PrintWords Go.Proofs.YtinjmjgfhpojfaaW.PrintMore Go.Proofs.YtinjmjgfhpojfaaW.EvL Go.Proofs.Ytinjmjgfhpojfaa.SagaL

theorem leg_no (L c t : Int) (hL : L ≤ 4) (hc : 0 ≤ c ∧ c < L) (ht : 0 ≤ t ∧ t ≤ 2) : legB 0 0 0 0 0 L 0 0 c t 0 false = (0, 0, 0, 0, 0, L, 0, 0, c, t + 1, 0) := by
  unfold legB
  rw [if_pos ⟨rfl, by omega⟩, if_neg (by decide), w64 (by omega) (by omega), if_neg (by omega)]
theorem leg_yes (L c t : Int) (hL : L ≤ 4) (hc : 0 ≤ c ∧ c < L) : legB 0 0 0 0 0 L 0 0 c t 0 true = (0, 0, 0, 0, 0, L, 0, 0, c + 1, 0, 0) := by
  unfold legB
  rw [if_pos ⟨rfl, by omega⟩, if_pos rfl, w64 (by omega) (by omega)]
theorem yes_l1 (n : Int) (l : List Int) (L : Int) (hL : L ≤ 4) (c : Nat) (hc : (c : Int) < L) (no : Int) (hno : no ≤ 3) (hnext : Ev (fun k => hawalalaw14_SagaYes.l0 k n l ((c + 1 : Nat) : Int) 0 0 0 0 0 L 0 0 ((c + 1 : Nat) : Int) 0 0) true) :
    ∀ (d : Nat) (t : Int), t + d = 3 → 0 ≤ t → (t ≤ no ∨ t = 0) → Ev (fun k => hawalalaw14_SagaYes.l1 k n l (c : Int) no t 0 0 0 0 0 L 0 0 (c : Int) t 0) true := by
  have last : ∀ t : Int, 0 ≤ t → ¬ t < no → Ev (fun k => hawalalaw14_SagaYes.l1 k n l (c : Int) no t 0 0 0 0 0 L 0 0 (c : Int) t 0) true := by
    intro t h0 h
    refine Ev.step (fun k => rfl) ?_
    simp only [hawalalaw14_SagaYes.l1]
    refine evElse h (Ev.bind (leg_ev 0 0 0 0 0 L 0 0 (c : Int) t 0 true) ?_)
    rw [leg_yes L c t hL (by omega), w64 (by omega) (by omega)]
    exact hnext
  intro d
  induction d with
  | zero => intro t h h0 ht; exact last t h0 (by omega)
  | succ d ih =>
    intro t h h0 ht
    by_cases hlt : t < no
    · refine Ev.step (fun k => rfl) ?_
      simp only [hawalalaw14_SagaYes.l1]
      refine evIf hlt (evBind1 (a := false) (by unfold saga_Ready.f; rw [if_pos rfl, decide_eq_false (by omega)]) (evElse (by decide) (Ev.bind (leg_ev 0 0 0 0 0 L 0 0 (c : Int) t 0 false) ?_)))
      rw [leg_no L c t hL (by omega) (by omega), w64 (by omega) (by omega)]
      exact ih (t + 1) (by omega) (by omega) (by omega)
    · exact last t h0 hlt
theorem yes_l0 (n : Int) (hn : 0 ≤ n ∧ n ≤ 255) (l : List Int) (hb : ∀ x ∈ l, 0 ≤ x ∧ x ≤ 255) : ∀ (d c : Nat), (c : Int) + d = n % 5 → Ev (fun k => hawalalaw14_SagaYes.l0 k n l (c : Int) 0 0 0 0 0 (n % 5) 0 0 (c : Int) 0 0) true
  | 0, c, h => by
    have e5 : wrap64 (Int.tmod n 5) = n % 5 := by rw [Int.tmod_eq_emod_of_nonneg hn.1, w64 (by omega) (by omega)]
    refine Ev.step (fun k => rfl) ?_
    simp only [hawalalaw14_SagaYes.l0]
    rw [e5]
    refine evElse (by omega) (evBind1 (a := true) (by unfold saga_Ready.f; rw [if_pos rfl, decide_eq_true (by omega)]) (evIf (by first | rfl | trivial) (evIf (by omega) (evIf (by first | rfl | trivial) (evBind1 (most_ev (L := n % 5) (by omega) 0 0 0 0 0 (n % 5) 0 0 (c : Int) 0 0 ⟨rfl, .inl ⟨rfl, by show (0 : Int) ≤ c; omega, by show (c : Int) ≤ n % 5; omega, by show (0 : Int) ≤ 0; omega, by show (0 : Int) ≤ 3; omega⟩⟩) (evConst ?_))))))
    simp only [mostB, if_true]
    rw [show (n % 5 - (c : Int)) * 4 - 0 + 2 = 2 by omega]; rfl
  | d + 1, c, h => by
    have e5 : wrap64 (Int.tmod n 5) = n % 5 := by rw [Int.tmod_eq_emod_of_nonneg hn.1, w64 (by omega) (by omega)]
    have next := yes_l0 n hn l hb d (c + 1) (by omega)
    have j : ∀ no : Int, 0 ≤ no ∧ no ≤ 3 → Ev (fun k => hawalalaw14_SagaYes.j1 k n l (c : Int) no 0 0 0 0 0 (n % 5) 0 0 (c : Int) 0 0) true := by
      intro no hno
      refine Ev.step (fun k => rfl) ?_
      simp only [hawalalaw14_SagaYes.j1]
      exact yes_l1 n l (n % 5) (by omega) c (by omega) no hno.2 next 3 0 (by omega) (by omega) (Or.inr rfl)
    refine Ev.step (fun k => rfl) ?_
    simp only [hawalalaw14_SagaYes.l0]
    rw [e5]
    refine evIf (by omega) ?_
    by_cases hlt : (c : Int) < (l.length : Int)
    · have hx := hb l[c] (List.getElem_mem (by omega))
      have em : wrap64 (Int.tmod l[c] 4) = l[c] % 4 := by rw [Int.tmod_eq_emod_of_nonneg hx.1, w64 (by omega) (by omega)]
      refine evIf hlt (evIf (by omega) ?_)
      rw [rd_nat l c (by omega), em]
      exact j _ (by omega)
    · exact evElse hlt (j 0 (by omega))
theorem SagaYes : hawalalaw14_SagaYes.Pure := by
  intro n l hn hl
  have hn := wf_u8 hn
  have e5 : wrap64 (Int.tmod n 5) = n % 5 := by rw [Int.tmod_eq_emod_of_nonneg hn.1, w64 (by omega) (by omega)]
  apply evOf
  unfold hawalalaw14_SagaYes.f
  rw [e5]
  refine Ev.bind awake_ev (evIf rfl (evBind1 rfl ?_))
  exact yes_l0 n hn l (fun x hx => wf_u8 (hl.2.2 x hx)) (n % 5).toNat 0 (by omega)
end Go.Proofs.Ytinjmjgfhpojfaa.Pure
