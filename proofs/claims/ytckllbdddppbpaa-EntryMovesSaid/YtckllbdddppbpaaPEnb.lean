/- The laws EntryBalanced and EntryMoves of layer 8. Conditions: the statements' own. -/
import Derived.Test.YtckllbdddppbpaaPEnbEnt
set_option linter.all false
set_option linter.unusedVariables false
set_option linter.unusedSimpArgs false
set_option linter.deprecated false
namespace Go.Eng.Enb
open Go.RowKit Go.Eng Go.Eng.LChart Go.Eng.LEnt
set_option maxRecDepth 100000
theorem awake_ev : Ev1 (fun k => CF k sBo n_law08_awake []) true := Ev1.of_rfl 40 (fun k => by kernel_rfl)
theorem okE_of (l : List En) (h : l.length * 16 ≤ 140737488351232 ∧ ∀ x ∈ l, (Lit.int .i64 x.1).wf = true ∧ (Lit.int .i64 x.2).wf = true) : l.length ≤ 140737488351232 := by omega
theorem okPs_of (l : List TPair) (h : l.length * 8 ≤ 140737488351232 ∧ ∀ x ∈ l, (Lit.int .u8 x.1).wf = true ∧ (Lit.int .i32 x.2).wf = true) : okPs l :=
  ⟨by omega, fun p hp => ⟨(wf_u8 (h.2 p hp).1).1, (wf_u8 (h.2 p hp).1).2, (wf_i32 (h.2 p hp).2).1, (wf_i32 (h.2 p hp).2).2⟩⟩
theorem mapGet_put {α : Type} (d : α) (n : Int) (x : α) (k : Int) : ∀ m : List (Int × α), mapGet d (mapPut m n x) k = if k = n then x else mapGet d m k
  | [] => by
    by_cases h : k = n
    · rw [if_pos h]; simp [mapPut, mapGet, h]
    · rw [if_neg h]; unfold mapPut mapGet; rw [decide_eq_false (show ¬ n = k from fun q => h q.symm)]; rfl
  | e :: r => by
    unfold mapPut
    by_cases h : e.1 = n
    · rw [decide_eq_true h, cond_true]
      by_cases hk : k = n
      · rw [if_pos hk]; simp [mapGet, hk]
      · have : ¬ e.1 = k := by omega
        rw [if_neg hk]
        unfold mapGet
        rw [decide_eq_false (show ¬ n = k from fun q => hk q.symm), decide_eq_false this]; rfl
    · rw [decide_eq_false h, cond_false]
      unfold mapGet
      by_cases hk : e.1 = k
      · have : ¬ k = n := by omega
        rw [if_neg this, decide_eq_true hk]; rfl
      · rw [decide_eq_false hk]
        exact mapGet_put d n x k r
/-! balanced, by a map -/
theorem lb_l (ac : List Acc) (hc : Curs ac) (es : List En) (hl : es.length ≤ 140737488351232) : ∀ (d i : Nat) (m : List (Int × Int)) (x y z : Int), i + d = es.length → mapGet 0 m 0 = x → mapGet 0 m 1 = y → mapGet 0 m 2 = z →
    Ev2 (fun k m' => h_law08_balanced k m' ac es (es.length : Int) (i : Int) m) (balF ac (es.drop i) (x, y, z))
  | 0, i, m, x, y, z, h, h0, h1, h2 => by
    refine Ev2.step (fun k m' => h_law08_balanced_s k m' ac es (es.length : Int) (i : Int) m _ rfl _ rfl) (Ev2.negD (by omega) ?_)
    rw [List.drop_of_length_le (by omega), h0, h1, h2]
    unfold balF
    by_cases q0 : x = 0
    · refine Ev2.posD q0 ?_
      by_cases q1 : y = 0
      · refine Ev2.posD q1 (Ev2.const (congrArg some ?_))
        simp [q0, q1]
      · refine Ev2.negD q1 (Ev2.const (congrArg some ?_))
        simp [q1]
    · refine Ev2.negD q0 (Ev2.const (congrArg some ?_))
      simp [q0]
  | d + 1, i, m, x, y, z, h, h0, h1, h2 => by
    have hlt : i < es.length := by omega
    rw [List.drop_eq_getElem_cons hlt]
    refine Ev2.step (fun k m' => h_law08_balanced_s k m' ac es (es.length : Int) (i : Int) m es[i] (getE es i hlt).symm (acAt ac es[i].1).1 rfl) (Ev2.posD (by omega) (Ev2.pos (inb_true (by omega) (by omega)) ?_))
    generalize es[i] = e
    unfold balF
    by_cases hin : inA ac e.1
    · have h012 := hc.at hin
      have hib : inb e.1 ac.length = true := inb_true hin.1 hin.2
      refine Ev2.negD (by unfold inA at hin; omega) (Ev2.negD (by unfold inA at hin; omega) (Ev2.pos hib (Ev2.negD (by omega) (Ev2.pos hib (Ev2.negD (by omega) ?_)))))
      refine Ev3.diag (f := fun k m1 m' => h_law08_balanced_1 k m1 m' ac es (es.length : Int) (i : Int) m e.1 e.2) ?_
      refine Ev3.step (fun k m1 m' => h_law08_balanced_1_s k m1 m' ac es (es.length : Int) (i : Int) m e.1 e.2 (acAt ac e.1).1 rfl) (Ev3.pos hib ?_)
      have eg : mapGet 0 m (acAt ac e.1).1 = getS (acAt ac e.1).1 (x, y, z) := by
        rcases h012 with q | q | q <;> rw [q]
        · rw [h0]; rfl
        · rw [h1]; rfl
        · rw [h2]; rfl
      rw [eg]
      refine Ev3.bind (add_ev _ e.2) ?_
      rw [addV_def]
      by_cases h3 : LEnt.okM (getS (acAt ac e.1).1 (x, y, z)) ∧ LEnt.okM e.2 ∧ LEnt.okM (getS (acAt ac e.1).1 (x, y, z) + e.2)
      · rw [if_pos h3, if_pos ⟨hin, h3.2.1⟩, if_pos h3]
        refine Ev3.neg rfl (Ev3.pos hib ?_)
        rw [wnat (by omega)]
        refine Ev2.drop (lb_l ac hc es hl d (i + 1) _ _ _ _ (by omega) ?_ ?_ ?_)
        all_goals
          rw [mapGet_put]
          rcases h012 with q | q | q <;> rw [q] <;> simp [putS, getS, h0, h1, h2]
      · rw [if_neg h3]
        by_cases h4 : LEnt.okM e.2
        · rw [if_pos ⟨hin, h4⟩, if_neg h3]; exact Ev3.pos rfl (Ev3.now _)
        · rw [if_neg (fun q => h4 q.2)]; exact Ev3.pos rfl (Ev3.now _)
    · rw [if_neg (fun q => hin q.1)]
      refine Ev2.iff (fun _ => Ev2.now _) fun hp => Ev2.posD (by unfold inA at hin; omega) (Ev2.now _)
theorem lbalanced_ev (ac : List Acc) (hc : Curs ac) (es : List En) (hl : es.length ≤ 140737488351232) : Ev1 (fun k => CF k sBo n_law08_balanced [inj KA ac, inj KEs es]) (balF ac es (0, 0, 0)) :=
  Ev1.step (fun k => f_law08_balanced k ac es) (lb_l ac hc es hl es.length 0 [] 0 0 0 (by omega) rfl rfl rfl).diag
/-! EntryBalanced -/
theorem esum_set (ac : List Acc) (c : Int) : ∀ (l : List En) (k : Nat) (x : En) (h : k < l.length), esum ac c (l.set k x) = esum ac c l - ecur ac c l[k] + ecur ac c x
  | [], k, x, h => by simp at h
  | a :: l, 0, x, h => by simp [esum]; omega
  | a :: l, k + 1, x, h => by
    have := esum_set ac c l k x (by simpa using h)
    rw [List.set_cons_succ, esum_cons, esum_cons, List.getElem_cons_succ]
    omega
theorem EntryBalanced (b : TBook) (ps : List TPair) (at_ by_ : Int) (raw : List En) (hb : okBook b) (hp : okPs ps) (hat : 0 ≤ at_ ∧ at_ ≤ 255) (hby : -128 ≤ by_ ∧ by_ ≤ 127) (hr : raw.length ≤ 140737488351232) :
    Ev1 (fun k => CF k sBo n_law08_EntryBalanced [inj KBook b, inj (.slice KPair) ps, inj (.int .u8) at_, inj (.int .i8) by_, inj KEs raw]) true := by
  obtain ⟨ac, n, hac, hB, hn⟩ := book_ev b hb
  have hR := Rt.of_book hB hn
  obtain ⟨es, hes, hE⟩ : ∃ es : List En, Ev1 (fun k => CF k sEo n_law08_Entries [inj KA ac, inj (.slice KPair) ps]) es ∧ Ents ac es := entries_ev ac hR ps hp
  have hlen := hE.len
  have h1 := balanced_ev ac hR.curs es (by omega)
  rw [hE.bal hR.curs] at h1
  refine Ev1.step (fun k => f_law08_EntryBalanced k b ps at_ by_ raw) (Ev1.bind awake_ev (Ev1.neg rfl (Ev1.bind hac (Ev1.bind hes (Ev1.bind h1 (Ev1.neg rfl (Ev1.bind (balanced_ev ac hR.curs raw hr) (Ev1.bind (lbalanced_ev ac hR.curs raw hr) (Ev1.neg (by simp) ?_)))))))))
  by_cases h0 : es.length = 0
  · exact Ev2.diag (f := fun k m => h_law08_EntryBalanced k m at_ by_ ac es) (Ev2.step (fun k m => h_law08_EntryBalanced_s k m at_ by_ ac es _ rfl _ rfl _ rfl) (Ev2.negD (by omega) (Ev2.now _)))
  · have hm := tmod_facts (a := at_) (b := (es.length : Int)) hat.1 (by omega)
    obtain ⟨j, hj, hj2⟩ : ∃ j : Nat, Int.tmod (w64 at_) (es.length : Int) = (j : Int) ∧ j < es.length := by
      rw [w64_id (x := at_) (by omega)]
      exact ⟨(Int.tmod at_ (es.length : Int)).toNat, by omega, by omega⟩
    refine Ev2.diag (f := fun k m => h_law08_EntryBalanced k m at_ by_ ac es) (Ev2.step (fun k m => h_law08_EntryBalanced_s k m at_ by_ ac es _ rfl (j : Int) hj.symm es[j] (getE es j hj2).symm) (Ev2.posD (by omega) (Ev2.pos (by rw [decide_eq_false (by omega)]; rfl) (Ev2.pos (inb_true (by omega) (by omega)) (Ev2.pos (inb_true (by omega) (by omega)) ?_)))))
    have hej := hE.mem _ (List.getElem_mem hj2)
    have hsj := fun c => esum_set ac c es j (es[j].1, es[j].2 + by_) hj2
    rw [Int.toNat_natCast, w64_id (x := by_) (by omega), w64_id (x := es[j].2 + by_) (by omega)]
    have hmem : ∀ e ∈ es.set j (es[j].1, es[j].2 + by_), inA ac e.1 ∧ (-400000 ≤ e.2 ∧ e.2 ≤ 400000) := by
      intro e he
      rcases List.mem_or_eq_of_mem_set he with q | q
      · have := hE.mem e q; exact ⟨this.1, Int.le_trans (by decide) this.2.1, Int.le_trans this.2.2 (by decide)⟩
      · rw [q]
        have z1 := hej.2.1
        have z2 := hej.2.2
        refine ⟨hej.1, ?_, ?_⟩
        · show -400000 ≤ es[j].2 + by_; omega
        · show es[j].2 + by_ ≤ 400000; omega
    have hbal := bal_small ac hR.curs 400000 (by omega) (es.set j (es[j].1, es[j].2 + by_)) 0 0 0 0 hmem (by omega) (by omega) (by omega) (by rw [List.length_set]; omega)
    have hcur := hR.curs.at hej.1
    have e0 := hsj 0
    have e1 := hsj 1
    have e2 := hsj 2
    unfold ecur at e0 e1 e2
    dsimp only at e0 e1 e2
    have hs := hE.sum
    refine Ev2.bind (balanced_ev ac hR.curs _ (by rw [List.length_set]; omega)) (Ev2.const (congrArg some ?_))
    rw [beq_iff_eq, Bool.eq_iff_iff, decide_eq_true_eq, hbal, e0, e1, e2]
    rcases hcur with q | q | q <;> rw [q] <;> simp <;> omega
/-! EntryMoves -/
theorem rt_at9 {ac : List Acc} (h : Rt ac) {n c : Int} (hc : c = 0 ∨ c = 1 ∨ c = 2) (hn : n = 3 * c + 1) : inA ac n ∧ (acAt ac n).1 = c := by
  have hl := h.lo
  obtain ⟨q, rfl⟩ := Int.eq_ofNat_of_zero_le (show 0 ≤ n by omega)
  have hk : q < ac.length := by omega
  refine ⟨⟨by omega, by omega⟩, ?_⟩
  rw [acAt_nat ac _ hk]
  have := ((h.ok q hk).2.2.2.2.1 (by omega)).2
  rw [this]; omega
theorem em1 (ac : List Acc) (hR : Rt ac) (n i : Int) (hn : 0 ≤ n ∧ n ≤ 65535) (hi : inA ac i) (m : List (Int × Int)) (h : mapGet 0 m i = -n ∨ (mapGet 0 m i = 0 ∧ i = 3 * (acAt ac i).1 + 1)) :
    Ev2 (fun k (_ : Nat) => h_law08_EntryMoves_1 k k n i ac m) true := by
  refine Ev1.drop (Ev2.diag (f := fun k m' => h_law08_EntryMoves_1 k m' n i ac m) (Ev2.step (fun k m' => h_law08_EntryMoves_1_s k m' n i ac m _ rfl) ?_))
  rw [w64_id (x := n) (by omega), w64_id (x := 0 - n) (by omega)]
  refine Ev2.iff (fun _ => Ev2.now _) fun hne => Ev2.pos (inb_true hi.1 hi.2) ?_
  have ei : (ac.getD (Int.toNat i) (0, 0, 0)).1 = (acAt ac i).1 := rfl
  rw [ei]
  rcases h with h | ⟨h1, h2⟩
  · exact absurd h (by omega)
  · have ha := hR.curs.at hi
    have n1 : numV 1 (acAt ac i).1 = 3 * (acAt ac i).1 + 1 := by unfold numV; rw [if_neg (by omega)]
    refine Ev2.bind (number_ev 1 (acAt ac i).1) ?_
    rw [n1]
    exact Ev2.posD h2.symm (Ev2.const (congrArg some (decide_eq_true h1)))
theorem EntryMoves (b : TBook) (f t n : Int) (hb : okBook b) (hf : 0 ≤ f ∧ f ≤ 255) (ht : 0 ≤ t ∧ t ≤ 255) (hn : 0 ≤ n ∧ n ≤ 65535) :
    Ev1 (fun k => CF k sBo n_law08_EntryMoves [inj KBook b, inj (.int .u8) f, inj (.int .u8) t, inj (.int .u16) n]) true := by
  obtain ⟨ac, q, hac, hB, hq⟩ := book_ev b hb
  have hR := Rt.of_book hB hq
  have hlo := hR.lo
  have hhi := hR.hi
  refine Ev1.step (fun k => f_law08_EntryMoves k b f t n) (Ev1.bind awake_ev (Ev1.neg rfl (Ev1.bind hac (Ev1.pos (by rw [decide_eq_false (by omega)]; rfl) (Ev1.pos (by rw [decide_eq_false (by omega)]; rfl) ?_)))))
  rw [w64_id (x := f) (by omega), w64_id (x := t) (by omega), w64_id (x := n) (by omega)]
  have fi := tmod_facts (a := f) (b := (ac.length : Int)) hf.1 (by omega)
  have fk := tmod_facts (a := t) (b := (ac.length : Int)) ht.1 (by omega)
  have hi : inA ac (Int.tmod f (ac.length : Int)) := ⟨by omega, by omega⟩
  have hk : inA ac (Int.tmod t (ac.length : Int)) := ⟨by omega, by omega⟩
  generalize Int.tmod f (ac.length : Int) = i at hi
  generalize Int.tmod t (ac.length : Int) = j at hk
  refine Ev1.bind (move_ev ac hR.curs i j n) ?_
  have ei : (ac.getD (Int.toNat i) (0, 0, 0)).1 = (acAt ac i).1 := rfl
  have ej : (ac.getD (Int.toNat j) (0, 0, 0)).1 = (acAt ac j).1 := rfl
  rw [ei, ej]
  have ha := hR.curs.at hi
  have hbb := hR.curs.at hk
  have hbi : inb i ac.length = true := inb_true hi.1 hi.2
  have hbj : inb j ac.length = true := inb_true hk.1 hk.2
  unfold moveF
  rw [if_pos ⟨hi, hk⟩]
  by_cases c1 : i = j ∨ ¬ (1 ≤ n ∧ n ≤ 1099511627776)
  · rw [if_pos c1]
    refine Ev1.pos rfl (Ev1.posD rfl (Ev1.iff (fun _ => Ev1.now _) fun h0 => Ev1.posD (by omega) (Ev1.now _)))
  · rw [if_neg c1]
    by_cases c2 : (acAt ac i).1 = (acAt ac j).1
    · rw [if_pos c2]
      refine Ev1.neg rfl (Ev2.diag (f := fun k m => h_law08_EntryMoves k m n i j [(i, -n), (j, n)] [(i, -n), (j, n)] 2 0 ac []) ?_)
      have hbal : balF ac [(i, -n), (j, n)] (0, 0, 0) = true := by
        refine (bal_small ac hR.curs 1099511627776 (by omega) _ 0 0 0 0 (fun e he => ?_) (by omega) (by omega) (by omega) (by simp only [List.length_cons, List.length_nil]; omega)).2 ?_
        · simp only [List.mem_cons, List.not_mem_nil, or_false] at he
          rcases he with rfl | rfl
          · exact ⟨hi, by dsimp only; omega⟩
          · exact ⟨hk, by dsimp only; omega⟩
        · simp only [esum_cons, esum_nil, ecur, ← c2]
          refine ⟨?_, ?_, ?_⟩ <;> split <;> omega
      refine Ev2.step (fun k m => h_law08_EntryMoves_s k m n i j [(i, -n), (j, n)] [(i, -n), (j, n)] 2 0 ac [] (i, -n) rfl) (Ev2.posD (by omega) (Ev2.pos rfl ?_))
      refine Ev2.step (fun k m => h_law08_EntryMoves_s k m n i j [(i, -n), (j, n)] [(i, -n), (j, n)] 2 1 ac _ (j, n) rfl) (Ev2.posD (by omega) (Ev2.pos rfl ?_))
      refine Ev2.step (fun k m => h_law08_EntryMoves_s k m n i j [(i, -n), (j, n)] [(i, -n), (j, n)] 2 2 ac _ _ rfl) (Ev2.negD (by omega) ?_)
      have hbe := balanced_ev ac hR.curs [(i, -n), (j, n)] (by simp)
      rw [hbal] at hbe
      refine Ev2.bind hbe (Ev2.neg rfl (Ev2.pos hbi (Ev2.pos hbj ?_)))
      rw [ei, ej]
      have g0 : mapGet (0 : Int) [] i = 0 := rfl
      have g0' : mapGet (0 : Int) [] j = 0 := rfl
      have hij : ¬ i = j := fun h => c1 (.inl h)
      have hji : ¬ j = i := fun h => c1 (.inl h.symm)
      have gj : mapGet (0 : Int) (mapPut (mapPut [] i (w64 (mapGet (0 : Int) [] i + -n))) j (w64 (mapGet (0 : Int) (mapPut [] i (w64 (mapGet (0 : Int) [] i + -n))) j + n))) j = n := by
        rw [mapGet_put, if_pos rfl, mapGet_put, if_neg hji, g0', w64_id (by omega)]; omega
      have gi : mapGet (0 : Int) (mapPut (mapPut [] i (w64 (mapGet (0 : Int) [] i + -n))) j (w64 (mapGet (0 : Int) (mapPut [] i (w64 (mapGet (0 : Int) [] i + -n))) j + n))) i = -n := by
        rw [mapGet_put, if_neg hij, mapGet_put, if_pos rfl, g0, w64_id (by omega)]; omega
      refine Ev2.posD c2 (Ev2.neg ?_ (em1 ac hR n i hn hi _ (.inl gi)))
      show (!decide (mapGet (0 : Int) (mapPut (mapPut [] i (w64 (mapGet (0 : Int) [] i + -n))) j (w64 (mapGet (0 : Int) (mapPut [] i (w64 (mapGet (0 : Int) [] i + -n))) j + n))) j = w64 n)) = false
      rw [gj, w64_id (by omega)]; simp
    · rw [if_neg c2]
      have hok := rate_ok ha hbb
      generalize rN (acAt ac i).1 (acAt ac j).1 = p at hok ⊢
      generalize rD (acAt ac i).1 (acAt ac j).1 = d at hok ⊢
      have fine : Ev1 (fun _ : Nat => (bif decide (n = 0) then some true else (bif decide (i = j) then some true else (bif inb i ac.length then (bif inb j ac.length then some (!decide ((acAt ac i).1 = (acAt ac j).1)) else none) else none)))) true := by
        refine Ev1.iff (fun _ => Ev1.now _) fun _ => Ev1.iff (fun _ => Ev1.now _) fun _ => Ev1.pos hbi (Ev1.pos hbj (Ev1.const (congrArg some ?_)))
        rw [decide_eq_false c2]; rfl
      by_cases c3 : 1099511627776 < n * p / d
      · rw [if_pos c3]; exact Ev1.pos rfl (Ev1.posD rfl fine)
      · rw [if_neg c3]
        have hg0 : 0 ≤ n * p / d := Int.ediv_nonneg (Int.mul_nonneg hn.1 (by unfold okR at hok; omega)) (by unfold okR at hok; omega)
        by_cases c4 : n * p / d = 0
        · rw [if_pos c4]; exact Ev1.pos rfl (Ev1.posD rfl fine)
        · rw [if_neg c4]
          generalize n * p / d = g at c3 c4 hg0 ⊢
          obtain ⟨x1, x2⟩ := rt_at9 hR (n := 3 * (acAt ac i).1 + 1) ha rfl
          obtain ⟨y1, y2⟩ := rt_at9 hR (n := 3 * (acAt ac j).1 + 1) hbb rfl
          generalize hx : 3 * (acAt ac i).1 + 1 = x at x1 x2 ⊢
          generalize hy : 3 * (acAt ac j).1 + 1 = y at y1 y2 ⊢
          have hbal : balF ac [(i, -n), (x, n), (y, -g), (j, g)] (0, 0, 0) = true := by
            refine (bal_small ac hR.curs 1099511627776 (by omega) _ 0 0 0 0 (fun e he => ?_) (by omega) (by omega) (by omega) (by simp only [List.length_cons, List.length_nil]; omega)).2 ?_
            · simp only [List.mem_cons, List.not_mem_nil, or_false] at he
              rcases he with rfl | rfl | rfl | rfl
              · exact ⟨hi, by dsimp only; omega⟩
              · exact ⟨x1, by dsimp only; omega⟩
              · exact ⟨y1, by dsimp only; omega⟩
              · exact ⟨hk, by dsimp only; omega⟩
            · simp only [esum_cons, esum_nil, ecur, x2, y2]
              refine ⟨?_, ?_, ?_⟩ <;> split <;> split <;> omega
          refine Ev1.neg rfl (Ev2.diag (f := fun k m => h_law08_EntryMoves k m n i j [(i, -n), (x, n), (y, -g), (j, g)] [(i, -n), (x, n), (y, -g), (j, g)] 4 0 ac []) ?_)
          refine Ev2.step (fun k m => h_law08_EntryMoves_s k m n i j [(i, -n), (x, n), (y, -g), (j, g)] [(i, -n), (x, n), (y, -g), (j, g)] 4 0 ac [] (i, -n) rfl) (Ev2.posD (by omega) (Ev2.pos rfl ?_))
          refine Ev2.step (fun k m => h_law08_EntryMoves_s k m n i j [(i, -n), (x, n), (y, -g), (j, g)] [(i, -n), (x, n), (y, -g), (j, g)] 4 1 ac _ (x, n) rfl) (Ev2.posD (by omega) (Ev2.pos rfl ?_))
          refine Ev2.step (fun k m => h_law08_EntryMoves_s k m n i j [(i, -n), (x, n), (y, -g), (j, g)] [(i, -n), (x, n), (y, -g), (j, g)] 4 2 ac _ (y, -g) rfl) (Ev2.posD (by omega) (Ev2.pos rfl ?_))
          refine Ev2.step (fun k m => h_law08_EntryMoves_s k m n i j [(i, -n), (x, n), (y, -g), (j, g)] [(i, -n), (x, n), (y, -g), (j, g)] 4 3 ac _ (j, g) rfl) (Ev2.posD (by omega) (Ev2.pos rfl ?_))
          refine Ev2.step (fun k m => h_law08_EntryMoves_s k m n i j [(i, -n), (x, n), (y, -g), (j, g)] [(i, -n), (x, n), (y, -g), (j, g)] 4 4 ac _ _ rfl) (Ev2.negD (by omega) ?_)
          have hbe := balanced_ev ac hR.curs [(i, -n), (x, n), (y, -g), (j, g)] (by simp)
          rw [hbal] at hbe
          refine Ev2.bind hbe (Ev2.neg rfl (Ev2.pos hbi (Ev2.pos hbj ?_)))
          rw [ei, ej]
          refine Ev2.negD c2 (em1 ac hR n i hn hi _ ?_)
          have hij : ¬ i = j := fun h => c1 (.inl h)
          have hiy : ¬ i = y := by
            intro h
            rw [← h] at y2
            exact c2 y2
          have g0 : mapGet (0 : Int) [] i = 0 := rfl
          dsimp only
          rw [mapGet_put, if_neg hij, mapGet_put, if_neg hiy, mapGet_put]
          by_cases hix : i = x
          · rw [if_pos hix, ← hix, mapGet_put, if_pos rfl, g0, w64_id (x := 0 + -n) (by omega), w64_id (by omega)]
            exact .inr ⟨by omega, by omega⟩
          · rw [if_neg hix, mapGet_put, if_pos rfl, g0, w64_id (x := 0 + -n) (by omega)]
            exact .inl (by omega)
end Go.Eng.Enb
