/- chart's and entry's functions: what they come to, by plain rules. Conditions: lengths that a machine has. -/
import Derived.Test.YtckllbdddppbpaaDoorPEnmMon
import Derived.Test.YtckllbdddppbpaaDoorPEnmBook
import Derived.Test.YtckllbdddppbpaaDoorPLEnt
set_option linter.all false
set_option linter.unusedVariables false
set_option linter.unusedSimpArgs false
set_option linter.deprecated false
namespace Go.Eng.Enm
open Go.RowKit Go.Eng Go.Eng.LChart Go.Eng.LEnt
set_option maxRecDepth 100000
abbrev KA : K := .slice KAccount
abbrev KEs : K := .slice KEntry
abbrev sOf : Sig := ⟨[(false, .int .i64), (false, .bool)], []⟩
abbrev sEs : Sig := ⟨[(false, .slice KEntry), (false, .err)], []⟩
abbrev sE1 : Sig := ⟨[(false, .slice KEntry)], []⟩
abbrev sEo : Sig := ⟨[(true, .slice KEntry)], []⟩
def ofV (ac : List Acc) (i : Int) : Int × Bool := if inA ac i then (if i < 9 then (Int.tmod i 3, true) else (3, true)) else (0, false)
theorem of_ev (ac : List Acc) (i : Int) : Ev1 (fun k => CF k sOf n_chart_Of [inj KA ac, inj I i]) (ofV ac i) := by
  refine Ev1.step (fun k => f_chart_Of k ac i) ?_
  unfold ofV
  by_cases h : inA ac i
  · rw [if_pos h]
    refine Ev1.negD (by omega) (Ev1.negD (by omega) ?_)
    by_cases h9 : i < 9
    · rw [if_pos h9]; exact Ev1.posD h9 (Ev1.now _)
    · rw [if_neg h9]; exact Ev1.negD h9 (Ev1.now _)
  · rw [if_neg h]
    exact Ev1.iff (fun _ => Ev1.now _) fun h0 => Ev1.posD (by unfold inA at h; omega) (Ev1.now _)
theorem ofV_2 (ac : List Acc) (i : Int) : (ofV ac i).2 = decide (inA ac i) := by
  unfold ofV
  split
  · rename_i h; rw [decide_eq_true h]; split <;> rfl
  · rename_i h; rw [decide_eq_false h]
def numV (q c : Int) : Int := if q < 0 ∨ 2 < q ∨ c < 0 ∨ 3 ≤ c then -1 else 3 * c + q
theorem number_ev (q c : Int) : Ev1 (fun k => CF k sIn n_chart_Number [inj I q, inj I c]) (numV q c) := by
  refine Ev1.step (fun k => f_chart_Number k q c) ?_
  unfold numV
  by_cases h : q < 0 ∨ 2 < q ∨ c < 0 ∨ 3 ≤ c
  · rw [if_pos h]
    exact Ev1.iff (fun _ => Ev1.now _) fun h0 => Ev1.iff (fun _ => Ev1.now _) fun h1 => Ev1.iff (fun _ => Ev1.now _) fun h2 => Ev1.posD (by omega) (Ev1.now _)
  · rw [if_neg h]
    refine Ev1.negD (by omega) (Ev1.negD (by omega) (Ev1.negD (by omega) (Ev1.negD (by omega) (Ev1.const ?_))))
    rw [w64_id (x := 3 * c) (by omega), w64_id (by omega)]
theorem getE (l : List En) (i : Nat) (h : i < l.length) : l.getD (Int.toNat (i : Int)) (0, 0) = l[i] := by
  rw [Int.toNat_natCast]; exact getD_at l i _ h
theorem addV_def (a b : Int) : addV a b = if okM a ∧ okM b ∧ okM (a + b) then (a + b, none) else (0, some 4) := rfl
theorem bal_l (ac : List Acc) (hc : Curs ac) (es : List En) (hl : es.length ≤ 140737488351232) : ∀ (d i : Nat) (x y z : Int), i + d = es.length →
    Ev2 (fun k m => h_entry_Balanced k m ac es (es.length : Int) (i : Int) x y z) (balF ac (es.drop i) (x, y, z))
  | 0, i, x, y, z, h => by
    refine Ev2.step (fun k m => h_entry_Balanced_s k m ac es (es.length : Int) (i : Int) x y z _ rfl) (Ev2.negD (by omega) ?_)
    rw [List.drop_of_length_le (by omega)]
    exact Ev2.now _
  | d + 1, i, x, y, z, h => by
    have hlt : i < es.length := by omega
    refine Ev2.step (fun k m => h_entry_Balanced_s k m ac es (es.length : Int) (i : Int) x y z es[i] (getE es i hlt).symm) (Ev2.posD (by omega) (Ev2.pos (inb_true (by omega) (by omega)) (Ev2.bind (of_ev ac es[i].1) ?_)))
    rw [ofV_2, List.drop_eq_getElem_cons hlt]
    generalize es[i] = e
    unfold balF
    by_cases h1 : inA ac e.1
    · rw [decide_eq_true h1]
      refine Ev2.neg rfl (Ev2.bind (Ev1.of_rfl 1 (fun k => maym_eq k e.2)) ?_)
      by_cases h2 : LEnt.okM e.2
      · rw [decide_eq_true h2, if_pos ⟨h1, h2⟩]
        refine Ev2.neg rfl (Ev3.diag (f := fun k m1 m => h_entry_Balanced_1 k m1 m ac es (es.length : Int) (i : Int) x y z e.1 e.2) ?_)
        refine Ev3.step (fun k m1 m => h_entry_Balanced_1_s k m1 m ac es (es.length : Int) (i : Int) x y z e.1 e.2 _ rfl) (Ev3.pos (inb_true h1.1 h1.2) ?_)
        have h012 := hc.at h1
        have ec : (ac.getD (Int.toNat e.1) (0, 0, 0)).1 = (acAt ac e.1).1 := rfl
        rw [ec]
        generalize (acAt ac e.1).1 = c at h012 ⊢
        refine Ev3.negD (by omega) (Ev3.negD (by omega) (Ev2.drop (f := fun k m => h_entry_Balanced_2 k m k ac c es (es.length : Int) (i : Int) x y z e.1 e.2) (Ev3.diag (f := fun k m1 m => h_entry_Balanced_2 k m1 m ac c es (es.length : Int) (i : Int) x y z e.1 e.2) ?_)))
        have hin : inb c 3 = true := inb_true (by omega) (by omega)
        refine Ev3.step (fun k m1 m => h_entry_Balanced_2_s k m1 m ac c es (es.length : Int) (i : Int) x y z e.1 e.2) (Ev3.pos hin (Ev3.bind (add_ev (selInt c [x, y, z]) e.2) ?_))
        have eg : selInt c [x, y, z] = getS c (x, y, z) := rfl
        rw [eg, addV_def]
        by_cases h3 : LEnt.okM (getS c (x, y, z)) ∧ LEnt.okM e.2 ∧ LEnt.okM (getS c (x, y, z) + e.2)
        · rw [if_pos h3, if_pos h3]
          refine Ev3.neg rfl (Ev3.pos hin ?_)
          rw [wnat (by omega)]
          exact Ev2.drop (bal_l ac hc es hl d (i + 1) _ _ _ (by omega))
        · rw [if_neg h3, if_neg h3]
          exact Ev3.pos rfl (Ev3.now _)
      · rw [decide_eq_false h2, if_neg (fun h => h2 h.2)]
        exact Ev2.pos rfl (Ev2.now _)
    · rw [decide_eq_false h1, if_neg (fun h => h1 h.1)]
      exact Ev2.pos rfl (Ev2.now _)
theorem balanced_ev (ac : List Acc) (hc : Curs ac) (es : List En) (hl : es.length ≤ 140737488351232) : Ev1 (fun k => CF k sBo n_entry_Balanced [inj KA ac, inj KEs es]) (balF ac es (0, 0, 0)) :=
  Ev1.step (fun k => f_entry_Balanced k ac es) (bal_l ac hc es hl es.length 0 0 0 0 (by omega)).diag
/-! Move -/
def rN (a b : Int) : Int := selInt b [selInt a [1, 11, 1], selInt a [9, 1, 1], selInt a [150, 160, 1]]
def rD (a b : Int) : Int := selInt b [selInt a [1, 10, 151], selInt a [10, 1, 161], selInt a [1, 1, 1]]
theorem rate_ok {a b : Int} (ha : a = 0 ∨ a = 1 ∨ a = 2) (hb : b = 0 ∨ b = 1 ∨ b = 2) : okR (rN a b) (rD a b) := by
  rcases ha with rfl | rfl | rfl <;> rcases hb with rfl | rfl | rfl <;> (unfold okR; decide)
/-- The entries by which an amount moves, or an error. -/
def moveF (ac : List Acc) (f t n : Int) : List En × Option Int :=
  if inA ac f ∧ inA ac t then
    (if f = t ∨ ¬ (1 ≤ n ∧ n ≤ 1099511627776) then ([], some 1)
     else if (acAt ac f).1 = (acAt ac t).1 then ([(f, -n), (t, n)], none)
     else (if 1099511627776 < n * rN (acAt ac f).1 (acAt ac t).1 / rD (acAt ac f).1 (acAt ac t).1 then ([], some 4)
       else if n * rN (acAt ac f).1 (acAt ac t).1 / rD (acAt ac f).1 (acAt ac t).1 = 0 then ([], some 1)
       else ([(f, -n), (3 * (acAt ac f).1 + 1, n), (3 * (acAt ac t).1 + 1, -(n * rN (acAt ac f).1 (acAt ac t).1 / rD (acAt ac f).1 (acAt ac t).1)), (t, n * rN (acAt ac f).1 (acAt ac t).1 / rD (acAt ac f).1 (acAt ac t).1)], none)))
  else ([], some 2)
theorem move_ev (ac : List Acc) (hc : Curs ac) (f t n : Int) : Ev1 (fun k => CF k sEs n_entry_Move [inj KA ac, inj I f, inj I t, inj I n]) (moveF ac f t n) := by
  refine Ev1.step (fun k => f_entry_Move k ac f t n) (Ev1.bind (of_ev ac f) ?_)
  rw [ofV_2]
  unfold moveF
  by_cases h1 : inA ac f
  · rw [decide_eq_true h1]
    refine Ev1.neg rfl (Ev1.bind (of_ev ac t) ?_)
    rw [ofV_2]
    by_cases h2 : inA ac t
    · rw [decide_eq_true h2, if_pos ⟨h1, h2⟩]
      refine Ev1.neg rfl ?_
      by_cases h3 : f = t
      · rw [if_pos (.inl h3)]; exact Ev1.posD h3 (Ev1.now _)
      · refine Ev1.negD h3 (Ev1.bind (Ev1.of_rfl 1 (fun k => amount_eq k n)) ?_)
        by_cases h4 : 1 ≤ n ∧ n ≤ 1099511627776
        · rw [decide_eq_true h4, if_neg (by omega)]
          refine Ev1.neg rfl (Ev2.diag (f := fun k m => h_entry_Move k m ac f t n) ?_)
          refine Ev2.step (fun k m => h_entry_Move_s k m ac f t n _ rfl _ rfl) (Ev2.pos (inb_true h1.1 h1.2) (Ev2.pos (inb_true h2.1 h2.2) ?_))
          have ha := hc.at h1
          have hb := hc.at h2
          have ea : (ac.getD (Int.toNat f) (0, 0, 0)).1 = (acAt ac f).1 := rfl
          have eb : (ac.getD (Int.toNat t) (0, 0, 0)).1 = (acAt ac t).1 := rfl
          rw [ea, eb]
          generalize (acAt ac f).1 = a at ha ⊢
          generalize (acAt ac t).1 = b at hb ⊢
          by_cases h5 : a = b
          · rw [if_pos h5]
            refine Ev2.posD h5 (Ev2.const ?_)
            rw [w64_id (by omega), show 0 - n = -n by omega]
          · rw [if_neg h5]
            refine Ev2.negD h5 (Ev2.bind (number_ev 1 a) (Ev2.bind (number_ev 1 b) ?_))
            have n1 : numV 1 a = 3 * a + 1 := by unfold numV; rw [if_neg (by omega)]
            have n2 : numV 1 b = 3 * b + 1 := by unfold numV; rw [if_neg (by omega)]
            rw [n1, n2]
            refine Ev2.negD (by omega) (Ev2.negD (by omega) (Ev1.drop (Ev2.diag (f := fun k m => h_entry_Move_1 k m f t n a b (3 * a + 1) (3 * b + 1)) ?_)))
            refine Ev2.step (fun k m => h_entry_Move_1_s k m f t n a b (3 * a + 1) (3 * b + 1)) (Ev2.bind (Ev1.step (fun k => f_money_Rates k) (Ev1.now _)) (Ev2.pos (inb_true (by omega) (by omega)) (Ev2.pos (inb_true (by omega) (by omega)) (Ev2.bind (convert_ev n (rN a b) (rD a b)) ?_))))
            have hok := rate_ok ha hb
            generalize rN a b = p at hok ⊢
            generalize rD a b = q at hok ⊢
            rcases convV_cases n p q hok with ⟨e, g⟩ | ⟨e, g, g2⟩ | ⟨e, g, g2, g3⟩
            · omega
            · rw [e, if_pos g2]; exact Ev2.pos rfl (Ev2.now _)
            · rw [e, if_neg (by omega)]
              refine Ev2.neg rfl ?_
              by_cases g0 : n * p / q = 0
              · rw [if_pos g0]; exact Ev2.posD g0 (Ev2.now _)
              · rw [if_neg g0]
                refine Ev2.negD g0 (Ev2.const ?_)
                dsimp only
                rw [w64_id (x := 0 - n) (by omega), w64_id (x := 0 - n * p / q) (by omega), show 0 - n = -n by omega, show 0 - n * p / q = -(n * p / q) by omega]
        · rw [decide_eq_false h4, if_pos (.inr h4)]
          exact Ev1.pos rfl (Ev1.now _)
    · rw [decide_eq_false h2, if_neg (fun h => h2 h.2)]
      exact Ev1.pos rfl (Ev1.now _)
  · rw [decide_eq_false h1, if_neg (fun h => h1 h.1)]
    exact Ev1.pos rfl (Ev1.now _)
end Go.Eng.Enm
