/- Lemmas of this session: the law's own rule of which accounts are right is the same; the example. -/
import Derived.Test.YtajeobncbcpllaaChart2
import Derived.Test.YtajeobncbcpllaaPAllx6
import Derived.Test.YtajeobncbcpllaaPAllx4
namespace Go.Proofs.Ytajeobncbcpllaa.ChartL
set_option linter.unusedVariables false
set_option linter.unusedSimpArgs false
open Go.RowKit Go.Proofs.Ytajeobncbcpllaa.PAll Go.Proofs.YtajeobncbcpllaaW.PrintWords Go.Proofs.YtajeobncbcpllaaW.PrintMore Go.Proofs.YtajeobncbcpllaaW.EvL

theorem awake7_ev : Ev (fun k => hawalalaw07_awake.f k) true := Ev.of hawalalaw07_awake.mono (k := 100) (by kernel_rfl)
theorem s_j4 (ac : List Acc) (L : Int) (i : Nat) (hi : (i : Int) + 1 ≤ 9223372036854775807) (z r : Bool) (h : Ev (fun k => hawalalaw07_right.l0 k ac L ((i + 1 : Nat) : Int)) r) : Ev (fun k => hawalalaw07_right.j4 k ac L (i : Int) z) (!z && r) := by
  refine Ev.step (fun k => rfl) ?_
  simp only [hawalalaw07_right.j4]
  cases z with
  | true => exact evIf (by first | rfl | trivial) (Ev.now _)
  | false =>
    refine evElse (by decide) ?_
    rw [w64 (by omega) (by omega)]; exact h
theorem s_j3 (ac : List Acc) (L : Int) (i : Nat) (hi : (i : Int) + 1 ≤ 9223372036854775807) (z r : Bool) (c b d : Int) (h : Ev (fun k => hawalalaw07_right.l0 k ac L ((i + 1 : Nat) : Int)) r) :
    Ev (fun k => hawalalaw07_right.j3 k (i : Int) ac L (i : Int) z c b d) (!z && (decide (9 ≤ i → 0 ≤ d ∧ d ≤ b) && r)) := by
  refine Ev.step (fun k => rfl) ?_
  simp only [hawalalaw07_right.j3]
  cases z with
  | true => exact evIf (by first | rfl | trivial) (Ev.now _)
  | false =>
    refine evElse (by decide) ?_
    simp only [Bool.not_false, Bool.true_and]
    by_cases h8 : (i : Int) > 8
    · refine evIf h8 ?_
      by_cases hd : d < 0
      · refine evIf hd ?_
        rw [decide_eq_false (by intro q; have := q (by omega); omega)]
        exact s_j4 ac L i hi true r h
      · refine evElse hd ?_
        have e : decide (9 ≤ i → 0 ≤ d ∧ d ≤ b) = !decide (d > b) := by
          by_cases hb : d > b
          · rw [decide_eq_true hb, decide_eq_false (by intro q; have := q (by omega); omega)]; rfl
          · rw [decide_eq_false hb, decide_eq_true (by intro _; omega)]; rfl
        rw [e]
        exact s_j4 ac L i hi _ r h
    · refine evElse h8 ?_
      rw [decide_eq_true (by intro q; omega)]
      exact s_j4 ac L i hi false r h
theorem s_j2 (ac : List Acc) (L : Int) (i : Nat) (hi : (i : Int) + 1 ≤ 9223372036854775807) (z r : Bool) (c b d : Int) (h : Ev (fun k => hawalalaw07_right.l0 k ac L ((i + 1 : Nat) : Int)) r) :
    Ev (fun k => hawalalaw07_right.j2 k (i : Int) ac L (i : Int) z c b d) (!z && (decide ((i < 9 → d = 0 ∧ c = ((i / 3 : Nat) : Int)) ∧ (9 ≤ i → 0 ≤ d ∧ d ≤ b)) && r)) := by
  refine Ev.step (fun k => rfl) ?_
  simp only [hawalalaw07_right.j2]
  cases z with
  | true => exact evIf (by first | rfl | trivial) (Ev.now _)
  | false =>
    refine evElse (by decide) ?_
    simp only [Bool.not_false, Bool.true_and]
    rw [div3 i (by omega)]
    by_cases h9 : (i : Int) < 9
    · refine evIf h9 ?_
      by_cases hd : d = 0
      · refine evIf hd ?_
        have e : (decide ((i < 9 → d = 0 ∧ c = ((i / 3 : Nat) : Int)) ∧ (9 ≤ i → 0 ≤ d ∧ d ≤ b)) && r) = (!(c != ((i / 3 : Nat) : Int)) && (decide (9 ≤ i → 0 ≤ d ∧ d ≤ b) && r)) := by
          by_cases hc : c = ((i / 3 : Nat) : Int)
          · rw [decide_eq_true (by exact ⟨fun _ => ⟨hd, hc⟩, fun q => by omega⟩), decide_eq_true (show 9 ≤ i → 0 ≤ d ∧ d ≤ b from fun q => by omega), hc]; simp
          · rw [decide_eq_false (by rintro ⟨q, _⟩; exact hc (q (by omega)).2), bne_iff_ne.2 hc]; simp
        rw [e]
        exact s_j3 ac L i hi _ r c b d h
      · refine evElse hd ?_
        rw [decide_eq_false (by rintro ⟨q, _⟩; exact hd (q (by omega)).1)]
        exact s_j3 ac L i hi true r c b d h
    · refine evElse h9 ?_
      have e : decide ((i < 9 → d = 0 ∧ c = ((i / 3 : Nat) : Int)) ∧ (9 ≤ i → 0 ≤ d ∧ d ≤ b)) = decide (9 ≤ i → 0 ≤ d ∧ d ≤ b) := by
        apply decide_eq_decide.2
        exact ⟨fun q => q.2, fun q => ⟨fun q2 => by omega, q⟩⟩
      rw [e]
      exact s_j3 ac L i hi false r c b d h
theorem s_l0 (ac : List Acc) (hl : ac.length ≤ 9223372036854775000) : ∀ (d i : Nat), i + d = ac.length → Ev (fun k => hawalalaw07_right.l0 k ac (ac.length : Int) (i : Int)) (okFrom i (ac.drop i))
  | 0, i, h => by
    refine Ev.step (fun k => rfl) ?_
    simp only [hawalalaw07_right.l0]
    rw [List.drop_of_length_le (by omega)]
    exact evElse (by omega) (Ev.now _)
  | d + 1, i, h => by
    refine Ev.step (fun k => rfl) ?_
    simp only [hawalalaw07_right.l0]
    have hil : i < ac.length := by omega
    rw [List.drop_eq_getElem_cons hil, rdT ac i hil]
    have next := s_l0 ac hl d (i + 1) (by omega)
    generalize ac[i] = a
    simp only [okFrom]
    refine evIf (by omega) (evIf (by omega) (evIf (by omega) ?_))
    by_cases h1 : a.f0 < 0
    · refine evIf h1 ?_
      rw [decide_eq_false (fun q => by have := q.1; omega)]
      simpa using s_j2 ac _ i (by omega) true _ a.f0 a.f1 a.f2 next
    · refine evElse h1 ?_
      by_cases h2 : a.f0 > 2
      · refine evIf h2 ?_
        rw [decide_eq_false (fun q => by have := q.2.1; omega)]
        simpa using s_j2 ac _ i (by omega) true _ a.f0 a.f1 a.f2 next
      · refine evElse h2 ?_
        by_cases h3 : a.f1 < -1125899906842624
        · refine evIf h3 ?_
          rw [decide_eq_false (fun q => by have := q.2.2.1; omega)]
          simpa using s_j2 ac _ i (by omega) true _ a.f0 a.f1 a.f2 next
        · refine evElse h3 ?_
          have e : decide (OkAt i a) = (!decide (a.f1 > 1125899906842624) && decide ((i < 9 → a.f2 = 0 ∧ a.f0 = ((i / 3 : Nat) : Int)) ∧ (9 ≤ i → 0 ≤ a.f2 ∧ a.f2 ≤ a.f1))) := by
            by_cases h4 : a.f1 > 1125899906842624
            · rw [decide_eq_true h4, decide_eq_false (fun q => by have := q.2.2.2.1; omega)]; rfl
            · rw [decide_eq_false h4]
              simp only [Bool.not_false, Bool.true_and]
              apply decide_eq_decide.2
              constructor
              · intro q; exact ⟨q.2.2.2.2.1, q.2.2.2.2.2⟩
              · intro q; exact ⟨by omega, by omega, by omega, by omega, q.1, q.2⟩
          rw [e, Bool.and_assoc]
          exact s_j2 ac _ i (by omega) _ _ a.f0 a.f1 a.f2 next
theorem lawright_ev (ac : List Acc) (hl : ac.length ≤ 9223372036854775000) : Ev (fun k => hawalalaw07_right.f k ac) (rightB ac) := by
  have main := s_l0 ac hl ac.length 0 (by omega)
  rw [List.drop_zero] at main
  unfold hawalalaw07_right.f rightB
  by_cases h : (ac.length : Int) < 9
  · refine evIf h ?_
    rw [decide_eq_false (show ¬ 9 ≤ ac.length by omega)]
    refine Ev.step (fun k => rfl) ?_
    simp only [hawalalaw07_right.j0]
    exact evIf (by first | rfl | trivial) (Ev.now _)
  · refine evElse h ?_
    rw [decide_eq_true (show 9 ≤ ac.length by omega)]
    refine Ev.step (fun k => rfl) ?_
    simp only [hawalalaw07_right.j0]
    by_cases h64 : (ac.length : Int) > 64
    · rw [decide_eq_true h64, decide_eq_false (show ¬ ac.length ≤ 64 by omega)]
      exact evIf rfl (Ev.now _)
    · rw [decide_eq_false h64, decide_eq_true (show ac.length ≤ 64 by omega)]
      exact evElse (by decide) (by simpa using main)
end Go.Proofs.Ytajeobncbcpllaa.ChartL
