/- The law EntryMove of layer 8. Conditions: the statement's own. -/
import Derived.Test.YtckllbdddppbpaaDoorPEnmEnt
set_option linter.all false
set_option linter.unusedVariables false
set_option linter.unusedSimpArgs false
set_option linter.deprecated false
namespace Go.Eng.Enm
open Go.RowKit Go.Eng Go.Eng.LChart Go.Eng.LEnt
set_option maxRecDepth 100000
abbrev sEi : Sig := ⟨[(false, .slice KEntry), (false, .int .i64)], []⟩
theorem awake_ev : Ev1 (fun k => CF k sBo n_law08_awake []) true := Ev1.of_rfl 40 (fun k => by kernel_rfl)
theorem num_ev (e : Option Int) : Ev1 (fun k => CF k sIn n_api_Number [inj .err e]) (e.getD 0) := Ev1.step (fun k => f_api_Number k e) (Ev1.now _)
theorem same_l (a : List En) (hl : a.length ≤ 140737488351232) : ∀ (d i : Nat), i + d = a.length → Ev2 (fun k m => h_law08_Same k m a a (a.length : Int) (i : Int)) true
  | 0, i, h => Ev2.step (fun k m => h_law08_Same_s k m a a (a.length : Int) (i : Int) _ rfl _ rfl) (Ev2.negD (by omega) (Ev2.now _))
  | d + 1, i, h => by
    refine Ev2.step (fun k m => h_law08_Same_s k m a a (a.length : Int) (i : Int) _ rfl _ rfl) (Ev2.posD (by omega) (Ev2.pos (inb_true (by omega) (by omega)) (Ev2.pos (inb_true (by omega) (by omega)) (Ev2.neg (by simp) ?_))))
    rw [wnat (by omega)]
    exact same_l a hl d (i + 1) (by omega)
theorem same_ev (a : List En) (hl : a.length ≤ 140737488351232) : Ev1 (fun k => CF k sBo n_law08_Same [inj KEs a, inj KEs a]) true :=
  Ev1.step (fun k => f_law08_Same k a a _ rfl) (Ev1.neg (by simp) (same_l a hl a.length 0 (by omega)).diag)
theorem lmove_ev (ac : List Acc) (hc : Curs ac) (f t n : Int) : Ev1 (fun k => CF k sEi n_law08_move [inj KA ac, inj I f, inj I t, inj I n]) ((moveF ac f t n).1, (moveF ac f t n).2.getD 0) := by
  refine Ev1.step (fun k => f_law08_move k ac f t n _ rfl) ?_
  unfold moveF
  by_cases h1 : inA ac f ∧ inA ac t
  · rw [if_pos h1]
    obtain ⟨hi, hk⟩ := h1
    refine Ev1.negD (by omega) (Ev1.negD (by omega) (Ev1.negD (by omega) (Ev1.negD (by omega) ?_)))
    refine Ev2.diag (f := fun k m => h_law08_move k m ac f t n) (Ev2.step (fun k m => h_law08_move_s k m ac f t n) ?_)
    by_cases c1 : f = t ∨ ¬ (1 ≤ n ∧ n ≤ 1099511627776)
    · rw [if_pos c1]
      exact Ev2.iff (fun _ => Ev2.now _) fun h0 => Ev2.iff (fun _ => Ev2.now _) fun h1 => Ev2.posD (by omega) (Ev2.now _)
    · rw [if_neg c1]
      refine Ev2.negD (by omega) (Ev2.negD (by omega) (Ev2.negD (by omega) (Ev1.drop (Ev2.diag (f := fun k m => h_law08_move_1 k m ac f t n) ?_))))
      refine Ev2.step (fun k m => h_law08_move_1_s k m ac f t n (acAt ac t).1 rfl (acAt ac f).1 rfl) (Ev2.pos (inb_true hi.1 hi.2) (Ev2.pos (inb_true hk.1 hk.2) ?_))
      have ha := hc.at hi
      have hb := hc.at hk
      generalize (acAt ac f).1 = a at ha ⊢
      generalize (acAt ac t).1 = b at hb ⊢
      by_cases c2 : a = b
      · rw [if_pos c2]
        refine Ev2.posD c2 (Ev2.const ?_)
        rw [w64_id (by omega), show 0 - n = -n by omega]; rfl
      · rw [if_neg c2]
        refine Ev2.negD c2 (Ev2.negD (by omega) (Ev2.negD (by omega) (Ev2.negD (by omega) (Ev2.negD (by omega) (Ev1.drop (Ev2.diag (f := fun k m => h_law08_move_2 k m f t n a b) ?_))))))
        refine Ev2.step (fun k m => h_law08_move_2_s k m f t n a b) (Ev2.bind (Ev1.step (fun k => f_money_Rates k) (Ev1.now _)) (Ev2.pos (inb_true (by omega) (by omega)) (Ev2.pos (inb_true (by omega) (by omega)) (Ev2.bind (convert_ev n (rN a b) (rD a b)) ?_))))
        have hok := rate_ok ha hb
        generalize rN a b = p at hok ⊢
        generalize rD a b = q at hok ⊢
        rcases convV_cases n p q hok with ⟨e, g⟩ | ⟨e, g, g2⟩ | ⟨e, g, g2, g3⟩
        · omega
        · rw [e, if_pos g2]; exact Ev2.pos rfl (Ev2.bind (num_ev (some 4)) (Ev2.now _))
        · rw [e, if_neg (by omega)]
          refine Ev2.neg rfl ?_
          by_cases g0 : n * p / q = 0
          · rw [if_pos g0]; exact Ev2.posD (by dsimp only; omega) (Ev2.now _)
          · rw [if_neg g0]
            refine Ev2.negD (by dsimp only; omega) (Ev2.const ?_)
            dsimp only
            rw [w64_id (x := 0 - n) (by omega), w64_id (x := 0 - n * p / q) (by omega), w64_id (x := 3 * a) (by omega), w64_id (x := 3 * b) (by omega), w64_id (x := 3 * a + 1) (by omega), w64_id (x := 3 * b + 1) (by omega), show 0 - n = -n by omega, show 0 - n * p / q = -(n * p / q) by omega]
            rfl
  · rw [if_neg h1]
    exact Ev1.iff (fun _ => Ev1.now _) fun h0 => Ev1.iff (fun _ => Ev1.now _) fun h2 => Ev1.iff (fun _ => Ev1.now _) fun h3 => Ev1.posD (by unfold inA at h1; omega) (Ev1.now _)
theorem move_len (ac : List Acc) (f t n : Int) : (moveF ac f t n).1.length ≤ 4 := by
  unfold moveF
  split
  · split
    · simp
    · split
      · simp
      · split
        · simp
        · split <;> simp
  · simp
theorem EntryMove (b : TBook) (f t n : Int) (hb : okBook b) (hf : -128 ≤ f ∧ f ≤ 127) (ht : -128 ≤ t ∧ t ≤ 127) :
    Ev1 (fun k => CF k sBo n_law08_EntryMove [inj KBook b, inj (.int .i8) f, inj (.int .i8) t, inj I n]) true := by
  obtain ⟨ac, q, hac, hB, hq⟩ := book_ev b hb
  have hR := Rt.of_book hB hq
  refine Ev1.step (fun k => f_law08_EntryMove k b f t n) (Ev1.bind awake_ev (Ev1.neg rfl (Ev1.bind hac ?_)))
  rw [w64_id (x := f) (by omega), w64_id (x := t) (by omega)]
  have := move_len ac f t n
  exact Ev1.bind (move_ev ac hR.curs f t n) (Ev1.bind (lmove_ev ac hR.curs f t n) (Ev1.bind (same_ev (moveF ac f t n).1 (by omega)) (Ev1.pos rfl (Ev1.bind (num_ev (moveF ac f t n).2) (Ev1.const (congrArg some (decide_eq_true rfl)))))))
end Go.Eng.Enm
