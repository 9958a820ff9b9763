/- The keys that are open are those that were not told, in order; of whatever is known. Conditions: none beyond the statement's own. -/
import Derived.Test.YtahhnopoiaokkaaKeys
import Derived.Test.YtahhnopoiaokkaaPAllx7
namespace Go.Proofs.Ytahhnopoiaokkaa.Pure
set_option linter.unusedVariables false
set_option linter.unusedSimpArgs false
open Go.RowKit Go.Proofs.Ytahhnopoiaokkaa.PAll Go.Proofs.YtahhnopoiaokkaaW.PrintWords Go.Proofs.YtahhnopoiaokkaaW.PrintMore Go.Proofs.YtahhnopoiaokkaaW.EvL Go.Proofs.Ytahhnopoiaokkaa.KeysL

theorem same_l1 (x : List Int) (hx : x.length ≤ 9223372036854775000) : ∀ (d i : Nat), i + d = x.length → Ev (fun k => hawalalaw11_KeysOpen.l1 k x x (x.length : Int) (i : Int)) true
  | 0, i, h => by
    refine Ev.step (fun k => rfl) ?_
    simp only [hawalalaw11_KeysOpen.l1]
    exact evElse (by omega) (Ev.now _)
  | d + 1, i, h => by
    refine Ev.step (fun k => rfl) ?_
    simp only [hawalalaw11_KeysOpen.l1]
    refine evIf (by omega) (evIf (by omega) (evIf (by omega) (evIf (by omega) (evIf (by first | rfl | trivial) ?_))))
    rw [w64 (by omega) (by omega)]
    exact same_l1 x hx d (i + 1) (by omega)
theorem law_l0 (l : List Kn) (hl : l.length ≤ 17592186044415) : ∀ (d i : Nat) (acc : List Int), i + d = l.length → acc.length ≤ i → acc ++ openB (l.drop i) = openB l → Ev (fun k => hawalalaw11_KeysOpen.l0 k l acc l (l.length : Int) (i : Int)) true
  | 0, i, acc, h, ha, he => by
    have he' : acc = openB l := by rw [← he, List.drop_eq_nil_of_le (by omega)]; simp [openB]
    refine Ev.step (fun k => rfl) ?_
    simp only [hawalalaw11_KeysOpen.l0]
    refine evElse (by omega) (Ev.bind (open_ev l hl) ?_)
    rw [he']
    have := open_len l
    exact evIf rfl (same_l1 (openB l) (by omega) (openB l).length 0 (by omega))
  | d + 1, i, acc, h, ha, he => by
    refine Ev.step (fun k => rfl) ?_
    simp only [hawalalaw11_KeysOpen.l0]
    refine evIf (by omega) (evIf (by omega) (evIf (by omega) ?_))
    rw [dropC (by omega : i < l.length)] at he
    rw [rdT l i (by omega), w64 (by omega) (by omega)]
    by_cases hk : l[i].f2 = true
    · have e : openB (l[i] :: l.drop (i + 1)) = openB (l.drop (i + 1)) := by show (if _ then _ else _) = _; rw [if_pos hk]
      rw [e] at he
      exact evIf hk (law_l0 l hl d (i + 1) acc (by omega) (by omega) he)
    · have e : openB (l[i] :: l.drop (i + 1)) = l[i].f0.f0 :: openB (l.drop (i + 1)) := by show (if _ then _ else _) = _; rw [if_neg hk]
      rw [e] at he
      exact evElse hk (evIf (by omega) (law_l0 l hl d (i + 1) _ (by omega) (by simp; omega) (by rw [← he]; simp)))
theorem KeysOpen : hawalalaw11_KeysOpen.Pure := by
  intro l h
  apply evOf
  unfold hawalalaw11_KeysOpen.f
  exact Ev.bind awake11_ev (evIf rfl (law_l0 l (by have := h.2.1; omega) l.length 0 [] (by omega) (by simp) (by simp)))
end Go.Proofs.Ytahhnopoiaokkaa.Pure
