/- chart's and entry's functions: what they come to, by plain rules. Conditions: lengths that a machine has. -/
import Derived.Test.YtckllbdddppbpaaPEnbMon
import Derived.Test.YtckllbdddppbpaaPEnbBook
import Derived.Test.YtckllbdddppbpaaPLEnt
set_option linter.all false
set_option linter.unusedVariables false
set_option linter.unusedSimpArgs false
set_option linter.deprecated false
namespace Go.Eng.Enb
open Go.RowKit Go.Eng Go.Eng.LChart Go.Eng.LEnt
set_option maxRecDepth 100000
abbrev KA : K := .slice KAccount
abbrev KEs : K := .slice KEntry
abbrev sOf : Sig := ⟨[(false, .int .i64), (false, .bool)], []⟩
abbrev sEs : Sig := ⟨[(false, .slice KEntry), (false, .err)], []⟩
abbrev sE1 : Sig := ⟨[(false, .slice KEntry)], []⟩
abbrev sEo : Sig := ⟨[(true, .slice KEntry)], []⟩
def ofV (ac : List Acc) (i : Int) : Int × Bool := if inA ac i then (if i < 9 then (Int.tmod i 3, true) else (3, true)) else (0, false)
theorem of_ev (ac : List Acc) (i : Int) : Ev1 (fun k => CF k sOf n_chart_Of [inj KA ac, inj I i]) (ofV ac i) := by
  refine Ev1.step (fun k => f_chart_Of k ac i) ?_
  unfold ofV
  by_cases h : inA ac i
  · rw [if_pos h]
    refine Ev1.negD (by omega) (Ev1.negD (by omega) ?_)
    by_cases h9 : i < 9
    · rw [if_pos h9]; exact Ev1.posD h9 (Ev1.now _)
    · rw [if_neg h9]; exact Ev1.negD h9 (Ev1.now _)
  · rw [if_neg h]
    exact Ev1.iff (fun _ => Ev1.now _) fun h0 => Ev1.posD (by unfold inA at h; omega) (Ev1.now _)
theorem ofV_2 (ac : List Acc) (i : Int) : (ofV ac i).2 = decide (inA ac i) := by
  unfold ofV
  split
  · rename_i h; rw [decide_eq_true h]; split <;> rfl
  · rename_i h; rw [decide_eq_false h]
def numV (q c : Int) : Int := if q < 0 ∨ 2 < q ∨ c < 0 ∨ 3 ≤ c then -1 else 3 * c + q
theorem number_ev (q c : Int) : Ev1 (fun k => CF k sIn n_chart_Number [inj I q, inj I c]) (numV q c) := by
  refine Ev1.step (fun k => f_chart_Number k q c) ?_
  unfold numV
  by_cases h : q < 0 ∨ 2 < q ∨ c < 0 ∨ 3 ≤ c
  · rw [if_pos h]
    exact Ev1.iff (fun _ => Ev1.now _) fun h0 => Ev1.iff (fun _ => Ev1.now _) fun h1 => Ev1.iff (fun _ => Ev1.now _) fun h2 => Ev1.posD (by omega) (Ev1.now _)
  · rw [if_neg h]
    refine Ev1.negD (by omega) (Ev1.negD (by omega) (Ev1.negD (by omega) (Ev1.negD (by omega) (Ev1.const ?_))))
    rw [w64_id (x := 3 * c) (by omega), w64_id (by omega)]
theorem getE (l : List En) (i : Nat) (h : i < l.length) : l.getD (Int.toNat (i : Int)) (0, 0) = l[i] := by
  rw [Int.toNat_natCast]; exact getD_at l i _ h
theorem addV_def (a b : Int) : addV a b = if okM a ∧ okM b ∧ okM (a + b) then (a + b, none) else (0, some 4) := rfl
theorem bal_l (ac : List Acc) (hc : Curs ac) (es : List En) (hl : es.length ≤ 140737488351232) : ∀ (d i : Nat) (x y z : Int), i + d = es.length →
    Ev2 (fun k m => h_entry_Balanced k m ac es (es.length : Int) (i : Int) x y z) (balF ac (es.drop i) (x, y, z))
  | 0, i, x, y, z, h => by
    refine Ev2.step (fun k m => h_entry_Balanced_s k m ac es (es.length : Int) (i : Int) x y z _ rfl) (Ev2.negD (by omega) ?_)
    rw [List.drop_of_length_le (by omega)]
    exact Ev2.now _
  | d + 1, i, x, y, z, h => by
    have hlt : i < es.length := by omega
    refine Ev2.step (fun k m => h_entry_Balanced_s k m ac es (es.length : Int) (i : Int) x y z es[i] (getE es i hlt).symm) (Ev2.posD (by omega) (Ev2.pos (inb_true (by omega) (by omega)) (Ev2.bind (of_ev ac es[i].1) ?_)))
    rw [ofV_2, List.drop_eq_getElem_cons hlt]
    generalize es[i] = e
    unfold balF
    by_cases h1 : inA ac e.1
    · rw [decide_eq_true h1]
      refine Ev2.neg rfl (Ev2.bind (Ev1.of_rfl 1 (fun k => maym_eq k e.2)) ?_)
      by_cases h2 : LEnt.okM e.2
      · rw [decide_eq_true h2, if_pos ⟨h1, h2⟩]
        refine Ev2.neg rfl (Ev3.diag (f := fun k m1 m => h_entry_Balanced_1 k m1 m ac es (es.length : Int) (i : Int) x y z e.1 e.2) ?_)
        refine Ev3.step (fun k m1 m => h_entry_Balanced_1_s k m1 m ac es (es.length : Int) (i : Int) x y z e.1 e.2 _ rfl) (Ev3.pos (inb_true h1.1 h1.2) ?_)
        have h012 := hc.at h1
        have ec : (ac.getD (Int.toNat e.1) (0, 0, 0)).1 = (acAt ac e.1).1 := rfl
        rw [ec]
        generalize (acAt ac e.1).1 = c at h012 ⊢
        refine Ev3.negD (by omega) (Ev3.negD (by omega) (Ev2.drop (f := fun k m => h_entry_Balanced_2 k m k ac c es (es.length : Int) (i : Int) x y z e.1 e.2) (Ev3.diag (f := fun k m1 m => h_entry_Balanced_2 k m1 m ac c es (es.length : Int) (i : Int) x y z e.1 e.2) ?_)))
        have hin : inb c 3 = true := inb_true (by omega) (by omega)
        refine Ev3.step (fun k m1 m => h_entry_Balanced_2_s k m1 m ac c es (es.length : Int) (i : Int) x y z e.1 e.2) (Ev3.pos hin (Ev3.bind (add_ev (selInt c [x, y, z]) e.2) ?_))
        have eg : selInt c [x, y, z] = getS c (x, y, z) := rfl
        rw [eg, addV_def]
        by_cases h3 : LEnt.okM (getS c (x, y, z)) ∧ LEnt.okM e.2 ∧ LEnt.okM (getS c (x, y, z) + e.2)
        · rw [if_pos h3, if_pos h3]
          refine Ev3.neg rfl (Ev3.pos hin ?_)
          rw [wnat (by omega)]
          exact Ev2.drop (bal_l ac hc es hl d (i + 1) _ _ _ (by omega))
        · rw [if_neg h3, if_neg h3]
          exact Ev3.pos rfl (Ev3.now _)
      · rw [decide_eq_false h2, if_neg (fun h => h2 h.2)]
        exact Ev2.pos rfl (Ev2.now _)
    · rw [decide_eq_false h1, if_neg (fun h => h1 h.1)]
      exact Ev2.pos rfl (Ev2.now _)
theorem balanced_ev (ac : List Acc) (hc : Curs ac) (es : List En) (hl : es.length ≤ 140737488351232) : Ev1 (fun k => CF k sBo n_entry_Balanced [inj KA ac, inj KEs es]) (balF ac es (0, 0, 0)) :=
  Ev1.step (fun k => f_entry_Balanced k ac es) (bal_l ac hc es hl es.length 0 0 0 0 (by omega)).diag
/-! Move -/
def rN (a b : Int) : Int := selInt b [selInt a [1, 11, 1], selInt a [9, 1, 1], selInt a [150, 160, 1]]
def rD (a b : Int) : Int := selInt b [selInt a [1, 10, 151], selInt a [10, 1, 161], selInt a [1, 1, 1]]
theorem rate_ok {a b : Int} (ha : a = 0 ∨ a = 1 ∨ a = 2) (hb : b = 0 ∨ b = 1 ∨ b = 2) : okR (rN a b) (rD a b) := by
  rcases ha with rfl | rfl | rfl <;> rcases hb with rfl | rfl | rfl <;> (unfold okR; decide)
/-- The entries by which an amount moves, or an error. -/
def moveF (ac : List Acc) (f t n : Int) : List En × Option Int :=
  if inA ac f ∧ inA ac t then
    (if f = t ∨ ¬ (1 ≤ n ∧ n ≤ 1099511627776) then ([], some 1)
     else if (acAt ac f).1 = (acAt ac t).1 then ([(f, -n), (t, n)], none)
     else (if 1099511627776 < n * rN (acAt ac f).1 (acAt ac t).1 / rD (acAt ac f).1 (acAt ac t).1 then ([], some 4)
       else if n * rN (acAt ac f).1 (acAt ac t).1 / rD (acAt ac f).1 (acAt ac t).1 = 0 then ([], some 1)
       else ([(f, -n), (3 * (acAt ac f).1 + 1, n), (3 * (acAt ac t).1 + 1, -(n * rN (acAt ac f).1 (acAt ac t).1 / rD (acAt ac f).1 (acAt ac t).1)), (t, n * rN (acAt ac f).1 (acAt ac t).1 / rD (acAt ac f).1 (acAt ac t).1)], none)))
  else ([], some 2)
theorem move_ev (ac : List Acc) (hc : Curs ac) (f t n : Int) : Ev1 (fun k => CF k sEs n_entry_Move [inj KA ac, inj I f, inj I t, inj I n]) (moveF ac f t n) := by
  refine Ev1.step (fun k => f_entry_Move k ac f t n) (Ev1.bind (of_ev ac f) ?_)
  rw [ofV_2]
  unfold moveF
  by_cases h1 : inA ac f
  · rw [decide_eq_true h1]
    refine Ev1.neg rfl (Ev1.bind (of_ev ac t) ?_)
    rw [ofV_2]
    by_cases h2 : inA ac t
    · rw [decide_eq_true h2, if_pos ⟨h1, h2⟩]
      refine Ev1.neg rfl ?_
      by_cases h3 : f = t
      · rw [if_pos (.inl h3)]; exact Ev1.posD h3 (Ev1.now _)
      · refine Ev1.negD h3 (Ev1.bind (Ev1.of_rfl 1 (fun k => amount_eq k n)) ?_)
        by_cases h4 : 1 ≤ n ∧ n ≤ 1099511627776
        · rw [decide_eq_true h4, if_neg (by omega)]
          refine Ev1.neg rfl (Ev2.diag (f := fun k m => h_entry_Move k m ac f t n) ?_)
          refine Ev2.step (fun k m => h_entry_Move_s k m ac f t n _ rfl _ rfl) (Ev2.pos (inb_true h1.1 h1.2) (Ev2.pos (inb_true h2.1 h2.2) ?_))
          have ha := hc.at h1
          have hb := hc.at h2
          have ea : (ac.getD (Int.toNat f) (0, 0, 0)).1 = (acAt ac f).1 := rfl
          have eb : (ac.getD (Int.toNat t) (0, 0, 0)).1 = (acAt ac t).1 := rfl
          rw [ea, eb]
          generalize (acAt ac f).1 = a at ha ⊢
          generalize (acAt ac t).1 = b at hb ⊢
          by_cases h5 : a = b
          · rw [if_pos h5]
            refine Ev2.posD h5 (Ev2.const ?_)
            rw [w64_id (by omega), show 0 - n = -n by omega]
          · rw [if_neg h5]
            refine Ev2.negD h5 (Ev2.bind (number_ev 1 a) (Ev2.bind (number_ev 1 b) ?_))
            have n1 : numV 1 a = 3 * a + 1 := by unfold numV; rw [if_neg (by omega)]
            have n2 : numV 1 b = 3 * b + 1 := by unfold numV; rw [if_neg (by omega)]
            rw [n1, n2]
            refine Ev2.negD (by omega) (Ev2.negD (by omega) (Ev1.drop (Ev2.diag (f := fun k m => h_entry_Move_1 k m f t n a b (3 * a + 1) (3 * b + 1)) ?_)))
            refine Ev2.step (fun k m => h_entry_Move_1_s k m f t n a b (3 * a + 1) (3 * b + 1)) (Ev2.bind (Ev1.step (fun k => f_money_Rates k) (Ev1.now _)) (Ev2.pos (inb_true (by omega) (by omega)) (Ev2.pos (inb_true (by omega) (by omega)) (Ev2.bind (convert_ev n (rN a b) (rD a b)) ?_))))
            have hok := rate_ok ha hb
            generalize rN a b = p at hok ⊢
            generalize rD a b = q at hok ⊢
            rcases convV_cases n p q hok with ⟨e, g⟩ | ⟨e, g, g2⟩ | ⟨e, g, g2, g3⟩
            · omega
            · rw [e, if_pos g2]; exact Ev2.pos rfl (Ev2.now _)
            · rw [e, if_neg (by omega)]
              refine Ev2.neg rfl ?_
              by_cases g0 : n * p / q = 0
              · rw [if_pos g0]; exact Ev2.posD g0 (Ev2.now _)
              · rw [if_neg g0]
                refine Ev2.negD g0 (Ev2.const ?_)
                dsimp only
                rw [w64_id (x := 0 - n) (by omega), w64_id (x := 0 - n * p / q) (by omega), show 0 - n = -n by omega, show 0 - n * p / q = -(n * p / q) by omega]
        · rw [decide_eq_false h4, if_pos (.inr h4)]
          exact Ev1.pos rfl (Ev1.now _)
    · rw [decide_eq_false h2, if_neg (fun h => h2 h.2)]
      exact Ev1.pos rfl (Ev1.now _)
  · rw [decide_eq_false h1, if_neg (fun h => h1 h.1)]
    exact Ev1.pos rfl (Ev1.now _)
/-! Entries -/
theorem tmod_small {x d : Int} (hd : 0 < d) : -(d - 1) ≤ Int.tmod x d ∧ Int.tmod x d ≤ d - 1 := by
  have h1 := Int.lt_tmod_of_pos x hd
  have h2 := Int.tmod_lt_of_pos x hd
  omega
theorem rt_at3 {ac : List Acc} (h : Rt ac) (c : Nat) (hc : c < 3) : inA ac ((3 * c : Nat) : Int) ∧ (acAt ac ((3 * c : Nat) : Int)).1 = (c : Int) := by
  have hl := h.lo
  have hk : 3 * c < ac.length := by omega
  refine ⟨⟨by omega, by omega⟩, ?_⟩
  rw [acAt_nat ac _ hk]
  have := ((h.ok (3 * c) hk).2.2.2.2.1 (by omega)).2
  rw [this]; omega
theorem ents_l1 (ac : List Acc) (h : Rt ac) (s0 s1 s2 : Int) (B : Int) (hB : 300000 = B) (h0 : -B ≤ s0 ∧ s0 ≤ B) (h1 : -B ≤ s1 ∧ s1 ≤ B) (h2 : -B ≤ s2 ∧ s2 ≤ B) : ∀ (d c : Nat) (out : List En), c + d = 3 → out.length ≤ 6 + c →
    (∀ e ∈ out, inA ac e.1 ∧ (-300000 ≤ e.2 ∧ e.2 ≤ 300000)) → esum ac 0 out = (if c ≤ 0 then s0 else 0) → esum ac 1 out = (if c ≤ 1 then s1 else 0) → esum ac 2 out = (if c ≤ 2 then s2 else 0) →
    ∃ r, Ev2 (fun k m => h_law08_Entries_1 k m s0 s1 s2 (c : Int) out) r ∧ Ents ac r
  | 0, c, out, hd, hl, hm, e0, e1, e2 => by
    refine ⟨out, Ev2.step (fun k m => h_law08_Entries_1_s k m s0 s1 s2 (c : Int) out _ rfl _ rfl _ rfl) (Ev2.negD (by omega) (Ev2.now _)), by omega, hm, ?_⟩
    rw [if_neg (by omega)] at e0 e1 e2
    exact ⟨e0, e1, e2⟩
  | d + 1, c, out, hd, hl, hm, e0, e1, e2 => by
    have hc3 : c < 3 := by omega
    obtain ⟨g1, g2⟩ := rt_at3 h c hc3
    obtain ⟨v, hv, hvB, hv0⟩ : ∃ v : Int, selInt (c : Int) [s0, s1, s2] = v ∧ (-B ≤ v ∧ v ≤ B) ∧ ((c = 0 → v = s0) ∧ (c = 1 → v = s1) ∧ (c = 2 → v = s2)) := by
      rcases (by omega : c = 0 ∨ c = 1 ∨ c = 2) with rfl | rfl | rfl
      · exact ⟨s0, rfl, h0, fun _ => rfl, fun q => by omega, fun q => by omega⟩
      · exact ⟨s1, rfl, h1, fun q => by omega, fun _ => rfl, fun q => by omega⟩
      · exact ⟨s2, rfl, h2, fun q => by omega, fun q => by omega, fun _ => rfl⟩
    have w3 : w64 (3 * (c : Int)) = ((3 * c : Nat) : Int) := by rw [w64_id (by omega)]; omega
    have step := fun k m => h_law08_Entries_1_s k m s0 s1 s2 (c : Int) out ((c + 1 : Nat) : Int) (wnat (by omega)).symm v hv.symm [(((3 * c : Nat) : Int), -v)] (by rw [w3, w64_id (by omega), show 0 - v = -v by omega])
    have hec : ∀ q : Int, ecur ac q (((3 * c : Nat) : Int), -v) = if (c : Int) = q then -v else 0 := by
      intro q; unfold ecur; dsimp only; rw [g2]
    by_cases hz : v = 0
    · obtain ⟨r, hr, hE⟩ := ents_l1 ac h s0 s1 s2 B hB h0 h1 h2 d (c + 1) out (by omega) (by omega) hm
        (by rw [e0]; split <;> split <;> omega) (by rw [e1]; split <;> split <;> omega) (by rw [e2]; split <;> split <;> omega)
      exact ⟨r, Ev2.step step (Ev2.posD (by omega) (Ev2.pos (inb_true (by omega) (by omega)) (Ev2.neg (by rw [decide_eq_true hz]; rfl) hr))), hE⟩
    · obtain ⟨r, hr, hE⟩ := ents_l1 ac h s0 s1 s2 B hB h0 h1 h2 d (c + 1) (out ++ [(((3 * c : Nat) : Int), -v)]) (by omega) (by rw [List.length_append]; simp only [List.length_cons, List.length_nil]; omega)
        (fun e he => by
          rcases List.mem_append.1 he with he | he
          · exact hm e he
          · rw [List.mem_singleton.1 he]; exact ⟨g1, by dsimp only; omega⟩)
        (by rw [esum_app, esum_cons, esum_nil, hec, e0]; split <;> split <;> split <;> omega)
        (by rw [esum_app, esum_cons, esum_nil, hec, e1]; split <;> split <;> split <;> omega)
        (by rw [esum_app, esum_cons, esum_nil, hec, e2]; split <;> split <;> split <;> omega)
      exact ⟨r, Ev2.step step (Ev2.posD (by omega) (Ev2.pos (inb_true (by omega) (by omega)) (Ev2.pos (by rw [decide_eq_false hz]; rfl) (Ev2.posD (by simp only [List.length_cons, List.length_nil]; omega) hr)))), hE⟩
theorem ents_l0 (ac : List Acc) (h : Rt ac) (ps : List TPair) (hl : ps.length ≤ 140737488351232) (hp : ∀ p ∈ ps, 0 ≤ p.1 ∧ p.1 ≤ 255 ∧ -2147483648 ≤ p.2 ∧ p.2 ≤ 2147483647) : ∀ (d i : Nat) (out : List En) (x y z : Int), i + d = 6 → i ≤ ps.length → out.length = i →
    (∀ e ∈ out, inA ac e.1 ∧ (-50000 ≤ e.2 ∧ e.2 ≤ 50000)) → esum ac 0 out = x → esum ac 1 out = y → esum ac 2 out = z → (-(50000 * (i : Int)) ≤ x ∧ x ≤ 50000 * i) → (-(50000 * (i : Int)) ≤ y ∧ y ≤ 50000 * i) → (-(50000 * (i : Int)) ≤ z ∧ z ≤ 50000 * i) →
    ∃ r, Ev2 (fun k m => h_law08_Entries k m ac ps (ps.length : Int) (i : Int) out x y z) r ∧ Ents ac r := by
  intro d
  induction d with
  | zero =>
    intro i out x y z hd hi ho hm e0 e1 e2 b0 b1 b2
    obtain ⟨r, hr, hE⟩ := ents_l1 ac h x y z 300000 rfl (by omega) (by omega) (by omega) 3 0 out (by omega) (by omega) (fun e he => ⟨(hm e he).1, by have := (hm e he).2; omega⟩) e0 e1 e2
    have fin : Ev2 (fun k m => h_law08_Entries_1 k k x y z 0 out) r := Ev1.drop (Ev2.diag (f := fun k m => h_law08_Entries_1 k m x y z 0 out) hr)
    refine ⟨r, Ev2.step (fun k m => h_law08_Entries_s k m ac ps (ps.length : Int) (i : Int) out x y z _ rfl _ rfl _ rfl _ rfl _ rfl _ rfl) ?_, hE⟩
    exact Ev2.iff (fun hlt => Ev2.pos (inb_true (by omega) (by omega)) (Ev2.posD (by omega) fin)) fun _ => fin
  | succ d ih =>
    intro i out x y z hd hi ho hm e0 e1 e2 b0 b1 b2
    by_cases hlt : i < ps.length
    · have hac := h.lo
      have hac2 := h.hi
      have hpi := hp ps[i] (List.getElem_mem hlt)
      have ep : ps.getD (Int.toNat (i : Int)) (0, 0) = ps[i] := by rw [Int.toNat_natCast]; exact getD_at ps i _ hlt
      generalize ps[i] = p at hpi ep
      have hm0 := tmod_facts (a := p.1) (b := (ac.length : Int)) hpi.1 (by omega)
      have hin : inA ac (Int.tmod p.1 (ac.length : Int)) := ⟨by omega, by omega⟩
      have hv := tmod_small (x := p.2) (d := 50000) (by omega)
      have w1 : w64 p.1 = p.1 := w64_id (by omega)
      have w2 : w64 p.2 = p.2 := w64_id (by omega)
      generalize he4 : Int.tmod p.1 (ac.length : Int) = n at hin
      generalize he3 : Int.tmod p.2 50000 = v at hv
      have hc := h.curs.at hin
      have hw : w64 (getS (acAt ac n).1 (x, y, z) + v) = getS (acAt ac n).1 (x, y, z) + v := by
        apply w64_id
        rcases hc with q | q | q <;> rw [q] <;> simp [getS, selInt] <;> omega
      obtain ⟨p1, p2, p3⟩ := put_sum (x := x) (y := y) (z := z) hc 0 ac (n, v) rfl rfl
      have hb : ∀ c, -50000 ≤ ecur ac c (n, v) ∧ ecur ac c (n, v) ≤ 50000 := fun c => by unfold ecur; split <;> first | omega | (dsimp only; omega)
      have hb0 := hb 0
      have hb1 := hb 1
      have hb2 := hb 2
      obtain ⟨r, hr, hE⟩ := ih (i + 1) (out ++ [(n, v)]) (putS (acAt ac n).1 (getS (acAt ac n).1 (x, y, z) + v) (x, y, z)).1 (putS (acAt ac n).1 (getS (acAt ac n).1 (x, y, z) + v) (x, y, z)).2.1 (putS (acAt ac n).1 (getS (acAt ac n).1 (x, y, z) + v) (x, y, z)).2.2 (by omega) (by omega) (by rw [List.length_append]; simp only [List.length_cons, List.length_nil]; omega)
        (fun e he => by
          rcases List.mem_append.1 he with he | he
          · exact hm e he
          · rw [List.mem_singleton.1 he]; exact ⟨hin, by dsimp only; omega⟩)
        (by rw [esum_app, esum_cons, esum_nil, e0, p1]; omega) (by rw [esum_app, esum_cons, esum_nil, e1, p2]; omega) (by rw [esum_app, esum_cons, esum_nil, e2, p3]; omega)
        (by rw [p1]; omega) (by rw [p2]; omega) (by rw [p3]; omega)
      refine ⟨r, Ev2.step (fun k m => h_law08_Entries_s k m ac ps (ps.length : Int) (i : Int) out x y z _ rfl p ep.symm v (by rw [w2, he3]) n (by rw [w1, he4]) (acAt ac n).1 rfl (getS (acAt ac n).1 (x, y, z) + v) hw.symm) ?_, hE⟩
      have hi3 : inb (acAt ac n).1 3 = true := inb_true (by omega) (by omega)
      refine Ev2.posD (by omega) (Ev2.pos (inb_true (by omega) (by omega)) (Ev2.negD (by omega) (Ev2.pos (by rw [decide_eq_false (by omega)]; rfl) (Ev2.pos (inb_true hin.1 hin.2) (Ev2.pos hi3 (Ev2.pos hi3 (Ev2.posD (by simp only [List.length_cons, List.length_nil]; omega) ?_)))))))
      rw [wnat (by omega)]
      exact hr
    · obtain ⟨r, hr, hE⟩ := ents_l1 ac h x y z 300000 rfl (by omega) (by omega) (by omega) 3 0 out (by omega) (by omega) (fun e he => ⟨(hm e he).1, by have := (hm e he).2; omega⟩) e0 e1 e2
      have fin : Ev2 (fun k m => h_law08_Entries_1 k k x y z 0 out) r := Ev1.drop (Ev2.diag (f := fun k m => h_law08_Entries_1 k m x y z 0 out) hr)
      exact ⟨r, Ev2.step (fun k m => h_law08_Entries_s k m ac ps (ps.length : Int) (i : Int) out x y z _ rfl _ rfl _ rfl _ rfl _ rfl _ rfl) (Ev2.negD (by omega) fin), hE⟩
/-- Bounds of pairs. -/
abbrev okPs (ps : List TPair) : Prop := ps.length ≤ 140737488351232 ∧ ∀ p ∈ ps, 0 ≤ p.1 ∧ p.1 ≤ 255 ∧ -2147483648 ≤ p.2 ∧ p.2 ≤ 2147483647
theorem entries_ev (ac : List Acc) (h : Rt ac) (ps : List TPair) (hp : okPs ps) : ∃ es, Ev1 (fun k => CF k sEo n_law08_Entries [inj KA ac, inj (.slice KPair) ps]) es ∧ Ents ac es := by
  obtain ⟨r, hr, hE⟩ := ents_l0 ac h ps hp.1 hp.2 6 0 [] 0 0 0 (by omega) (by omega) rfl (fun e he => by cases he) rfl rfl rfl (by omega) (by omega) (by omega)
  exact ⟨r, Ev1.step (fun k => f_law08_Entries k ac ps) hr.diag, hE⟩
end Go.Eng.Enb
