/- There are as many keys as may be, and no more; for any number of keys asked for. Conditions: none beyond the statement's own. -/
import Derived.Test.YtahhnopoiaokkaaDoorKeys
import Derived.Test.YtahhnopoiaokkaaDoorPAllx11
namespace Go.Proofs.YtahhnopoiaokkaaDoor.Pure
set_option linter.unusedVariables false
set_option linter.unusedSimpArgs false
open Go.RowKit Go.Proofs.YtahhnopoiaokkaaDoor.PAll Go.Proofs.YtahhnopoiaokkaaDoorW.PrintWords Go.Proofs.YtahhnopoiaokkaaDoorW.PrintMore Go.Proofs.YtahhnopoiaokkaaDoorW.EvL Go.Proofs.YtahhnopoiaokkaaDoor.KeysL

/-- The keys 0, 1, .., asked for nothing, not told. -/
def keysN : Nat → List Kn
  | 0 => []
  | n + 1 => keysN n ++ [⟨⟨(n : Int), 0, 0, 0, 0, 0, 0⟩, ⟨0, 0⟩, false⟩]
theorem keysN_len : ∀ n, (keysN n).length = n
  | 0 => rfl
  | n + 1 => by show (keysN n ++ [_]).length = _; rw [List.length_append, keysN_len n]; rfl
theorem keysN_find (key : Int) : ∀ n : Nat, findB key (keysN n) 0 = if 0 ≤ key ∧ key < n then key else -1
  | 0 => by rw [if_neg (by omega)]; rfl
  | n + 1 => by
    show findB key (keysN n ++ [_]) 0 = _
    rw [find_snoc _ _ _ _ (by omega), keysN_find key n, keysN_len]
    by_cases h : 0 ≤ key ∧ key < n
    · rw [if_pos h, if_neg (by omega), if_pos (by omega)]
    · rw [if_neg h, if_pos rfl]
      by_cases h2 : (n : Int) = key
      · rw [if_pos h2, if_pos (by omega)]; omega
      · rw [if_neg h2, if_neg (by omega)]
theorem keysN_open : ∀ n, (openB (keysN n)).length = n
  | 0 => rfl
  | n + 1 => by
    show (openB (keysN n ++ [_])).length = _
    rw [open_snoc, List.length_append, keysN_open n]; rfl
theorem many_l0 (n : Nat) (hn : n < 260) (a b c d e f g : Int) : ∀ (r i : Nat), i + r = n → i ≤ 256 → Ev (fun k => hawalalaw11_KeysMany.l0 k (n : Int) (keysN i) (i : Int) a b c d e f g) true
  | 0, i, h, hi => by
    obtain rfl : i = n := by omega
    refine Ev.step (fun k => rfl) ?_
    simp only [hawalalaw11_KeysMany.l0]
    refine evElse (by omega) (Ev.bind (open_ev _ (by rw [keysN_len]; omega)) (evIf (by rw [keysN_open]) (Ev.bind (find_ev _ (by rw [keysN_len]; omega) _) ?_)))
    rw [keysN_find, if_neg (by omega)]
    refine evIf rfl ?_
    by_cases h1 : a < 0
    · exact evIf h1 (Ev.now _)
    refine evElse h1 ?_
    by_cases h2 : a ≥ (i : Int)
    · exact evIf h2 (Ev.now _)
    refine evElse h2 (Ev.bind (find_ev _ (by rw [keysN_len]; omega) _) (evConst ?_))
    rw [keysN_find, if_pos (by omega)]; simp
  | r + 1, i, h, hi => by
    refine Ev.step (fun k => rfl) ?_
    simp only [hawalalaw11_KeysMany.l0]
    refine evIf (by omega) (Ev.bind (put_ev _ (by rw [keysN_len]; omega) _ _ _ _ _ _ _) ?_)
    unfold putB
    rw [keysN_find, if_neg (show ¬ (0 ≤ (i : Int) ∧ (i : Int) < i) by omega), if_neg (show ¬ (-1 : Int) ≥ 0 by decide), keysN_len]
    by_cases h1 : (i : Int) ≥ 256
    · rw [if_pos h1]
      exact evIf h1 (evBind1 rfl (evIf rfl (evConst rfl)))
    · rw [if_neg h1]
      refine evElse h1 (evIf rfl (evIf ?_ ?_))
      · rw [w64 (by omega) (by omega)]; simp [keysN_len]
      · rw [w64 (by omega) (by omega)]
        exact many_l0 n hn a b c d e f g r (i + 1) (by omega) (by omega)
theorem KeysMany : hawalalaw11_KeysMany.Pure := by
  intro a y ha hy
  have ha := wf_u16 ha
  obtain ⟨n, hn, hn2⟩ : ∃ n : Nat, Int.tmod (wrap64 a) 260 = (n : Int) ∧ n < 260 := by
    refine ⟨(a % 260).toNat, ?_, by omega⟩
    rw [w64 (by omega) (by omega), Int.tmod_eq_emod_of_nonneg (by omega)]; omega
  apply evOf
  unfold hawalalaw11_KeysMany.f
  rw [hn]
  exact Ev.bind awake11_ev (evIf rfl (many_l0 n hn2 _ _ _ _ _ _ _ n 0 (by omega) (by omega)))
end Go.Proofs.YtahhnopoiaokkaaDoor.Pure
