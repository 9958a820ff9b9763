/- Balances are added one by one, up to the first that does not go; of any balances. Conditions: none beyond the statement's own. -/
import Derived.Test.YtbgofpibjdgohaaDoorMoney
import Derived.Test.YtbgofpibjdgohaaDoorPAllx5
import Derived.Test.YtbgofpibjdgohaaDoorPAllx6
namespace Go.Proofs.YtbgofpibjdgohaaDoor.Pure
set_option linter.unusedVariables false
set_option linter.unusedSimpArgs false
open Go.RowKit Go.Proofs.YtbgofpibjdgohaaDoor.PAll Go.Proofs.YtbgofpibjdgohaaDoorW.PrintWords Go.Proofs.YtbgofpibjdgohaaDoorW.PrintMore Go.Proofs.YtbgofpibjdgohaaDoorW.EvL Go.Proofs.YtbgofpibjdgohaaDoor.MoneyL

theorem may3_f (a : Int) : hawalalaw01_may.f a = some (decide (mayP a)) := by
  unfold hawalalaw01_may.f
  by_cases h : a ≥ -1125899906842624
  · rw [if_pos h]; exact congrArg some (decide_eq_decide.2 ⟨fun h2 => ⟨h, h2⟩, fun h2 => h2.2⟩)
  · rw [if_neg h]; exact congrArg some (decide_eq_false (fun q => h q.1)).symm
/-- The sum, if it goes. -/
def goB : List Int → Int → Option Int
  | [], s => some s
  | x :: xs, s => if mayP x ∧ mayP (s + x) then goB xs (s + x) else none
def outB : Option Int → Int × Option Int
  | some s => (s, none)
  | none => (0, some 4)
theorem drop_cons {l : List Int} {i : Nat} (h : i < l.length) : l.drop i = l[i] :: l.drop (i + 1) := List.drop_eq_getElem_cons h
theorem sum_l0 (l : List Int) (hl : l.length ≤ 9223372036854775000) : ∀ (d i : Nat) (s : Int), i + d = l.length → mayP s → Ev (fun k => money_Sum.l0 k s l (l.length : Int) (i : Int)) (outB (goB (l.drop i) s))
  | 0, i, s, h, hs => by
    refine Ev.step (fun k => rfl) ?_
    simp only [money_Sum.l0]
    rw [List.drop_eq_nil_of_le (by omega)]
    exact evElse (by omega) (Ev.now _)
  | d + 1, i, s, h, hs => by
    refine Ev.step (fun k => rfl) ?_
    simp only [money_Sum.l0]
    refine evIf (by omega) (evIf (by omega) (evIf (by omega) (Ev.bind (add_ev _ _) ?_)))
    rw [rd_nat l i (by omega), drop_cons (by omega : i < l.length)]
    by_cases hg : mayP l[i] ∧ mayP (s + l[i])
    · have e : addB s l[i] = (s + l[i], none) := by unfold addB; rw [if_pos ⟨hs, hg⟩]
      have e2 : goB (l[i] :: l.drop (i + 1)) s = goB (l.drop (i + 1)) (s + l[i]) := by show (if _ then _ else _) = _; rw [if_pos hg]
      rw [e, e2]
      refine evIf rfl ?_
      rw [w64 (by omega) (by omega)]
      exact sum_l0 l hl d (i + 1) _ (by omega) hg.2
    · have e : addB s l[i] = (0, some 4) := by unfold addB; rw [if_neg (fun q => hg q.2)]
      have e2 : goB (l[i] :: l.drop (i + 1)) s = none := by show (if _ then _ else _) = _; rw [if_neg hg]
      rw [e, e2]
      exact evElse (by decide) (Ev.now _)
theorem sum_ev (l : List Int) (hl : l.length ≤ 9223372036854775000) : Ev (fun k => money_Sum.f k l) (outB (goB l 0)) := sum_l0 l hl l.length 0 0 (by omega) (by unfold mayP; omega)
theorem law_end (l : List Int) (hl : l.length ≤ 9223372036854775000) (s : Int) (bad : Bool) (hs : bad = false → goB l 0 = some s) (hb : bad = true → goB l 0 = none) (i : Nat) (hi : i = l.length) :
    Ev (fun k => hawalalaw01_MoneySum.l0 k l s bad l (l.length : Int) (i : Int)) true := by
  refine Ev.step (fun k => rfl) ?_
  simp only [hawalalaw01_MoneySum.l0]
  refine evElse (by omega) (Ev.bind (sum_ev l hl) ?_)
  cases bad with
  | true => rw [hb rfl]; exact evIf (by first | rfl | trivial) (evIf (by first | rfl | trivial) (evConst rfl))
  | false => rw [hs rfl]; exact evElse (by decide) (evIf (by first | rfl | trivial) (evIf (by first | rfl | trivial) (Ev.now _)))
theorem law_l0 (l : List Int) (hl : l.length ≤ 9223372036854775000) : ∀ (d i : Nat) (s : Int) (bad : Bool), i + d = l.length → (bad = false → mayP s ∧ goB l 0 = goB (l.drop i) s) → (bad = true → goB l 0 = none) →
    Ev (fun k => hawalalaw01_MoneySum.l0 k l s bad l (l.length : Int) (i : Int)) true
  | 0, i, s, bad, h, hs, hb => by
    refine law_end l hl s bad (fun q => ?_) hb i (by omega)
    rw [(hs q).2, List.drop_eq_nil_of_le (by omega)]; rfl
  | d + 1, i, s, bad, h, hs, hb => by
    have next : ∀ (s' : Int) (bad' : Bool), (bad' = false → mayP s' ∧ goB l 0 = goB (l.drop (i + 1)) s') → (bad' = true → goB l 0 = none) → Ev (fun k => hawalalaw01_MoneySum.l0 k l s' bad' l (l.length : Int) (wrap64 ((i : Int) + 1))) true := by
      intro s' bad' h1 h2
      rw [w64 (by omega) (by omega)]
      exact law_l0 l hl d (i + 1) s' bad' (by omega) h1 h2
    have bads : goB l 0 = none → Ev (fun k => hawalalaw01_MoneySum.j1 k l s true (rd l (i : Int)) l (l.length : Int) (i : Int)) true := by
      intro h0
      refine Ev.step (fun k => rfl) ?_
      simp only [hawalalaw01_MoneySum.j1]
      exact evIf (by first | rfl | trivial) (next s true (fun q => by cases q) (fun _ => h0))
    refine Ev.step (fun k => rfl) ?_
    simp only [hawalalaw01_MoneySum.l0]
    refine evIf (by omega) (evIf (by omega) (evIf (by omega) ?_))
    cases bad with
    | true => exact evIf (by first | rfl | trivial) (bads (hb rfl))
    | false =>
      obtain ⟨hm, hg⟩ := hs rfl
      rw [drop_cons (by omega : i < l.length)] at hg
      have er := rd_nat l i (by omega)
      refine evElse (by decide) (evBind1 (may3_f _) ?_)
      by_cases h1 : mayP l[i]
      · have ew : wrap64 (s + rd l (i : Int)) = s + l[i] := by rw [er]; unfold mayP at hm h1; exact w64 (by omega) (by omega)
        refine evIf (by rw [er]; exact decide_eq_true h1) (evBind1 (may3_f _) ?_)
        rw [ew]
        by_cases h2 : mayP (s + l[i])
        · rw [decide_eq_true h2]
          refine Ev.step (fun k => rfl) ?_
          simp only [hawalalaw01_MoneySum.j1]
          rw [ew]
          refine evElse (by decide) (next _ _ (fun _ => ⟨h2, ?_⟩) (fun q => by cases q))
          rw [hg]; show (if _ then _ else _) = _; rw [if_pos ⟨h1, h2⟩]
        · rw [decide_eq_false h2]
          exact bads (by rw [hg]; show (if _ then _ else _) = _; rw [if_neg (fun q => h2 q.2)])
      · refine evElse (by rw [er]; simpa using h1) ?_
        exact bads (by rw [hg]; show (if _ then _ else _) = _; rw [if_neg (fun q => h1 q.1)])
theorem MoneySum : hawalalaw01_MoneySum.Pure := by
  intro l h
  apply evOf
  unfold hawalalaw01_MoneySum.f
  refine Ev.bind awake_ev (evIf rfl ?_)
  exact law_l0 l (by have := h.2.1; omega) l.length 0 0 false (by omega) (fun _ => ⟨by unfold mayP; omega, rfl⟩) (fun q => by cases q)
end Go.Proofs.YtbgofpibjdgohaaDoor.Pure
