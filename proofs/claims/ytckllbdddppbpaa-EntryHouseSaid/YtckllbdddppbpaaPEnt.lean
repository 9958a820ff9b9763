/- The laws of layer 8. Conditions: the statements' own. -/
import Derived.Test.YtckllbdddppbpaaPEntEnt
set_option linter.all false
set_option linter.unusedVariables false
set_option linter.unusedSimpArgs false
set_option linter.deprecated false
namespace Go.Eng.Ent
open Go.RowKit Go.Eng Go.Eng.LChart Go.Eng.LEnt
set_option maxRecDepth 100000
theorem awake_ev : Ev1 (fun k => CF k sBo n_law08_awake []) true := Ev1.of_rfl 40 (fun k => by kernel_rfl)
theorem okE_of (l : List En) (h : l.length * 16 ≤ 140737488351232 ∧ ∀ x ∈ l, (Lit.int .i64 x.1).wf = true ∧ (Lit.int .i64 x.2).wf = true) : l.length * 16 ≤ 140737488351232 ∧ ∀ x ∈ l, -9223372036854775808 ≤ x.2 ∧ x.2 ≤ 9223372036854775807 :=
  ⟨h.1, fun x hx => wf_i64 (h.2 x hx).2⟩
theorem okPs_of (l : List TPair) (h : l.length * 8 ≤ 140737488351232 ∧ ∀ x ∈ l, (Lit.int .u8 x.1).wf = true ∧ (Lit.int .i32 x.2).wf = true) : okPs l :=
  ⟨by omega, fun p hp => ⟨(wf_u8 (h.2 p hp).1).1, (wf_u8 (h.2 p hp).1).2, (wf_i32 (h.2 p hp).2).1, (wf_i32 (h.2 p hp).2).2⟩⟩
/-! Same -/
theorem same_l (a : List En) (hl : a.length ≤ 140737488351232) : ∀ (d i : Nat), i + d = a.length → Ev2 (fun k m => h_law08_Same k m a a (a.length : Int) (i : Int)) true
  | 0, i, h => Ev2.step (fun k m => h_law08_Same_s k m a a (a.length : Int) (i : Int) _ rfl _ rfl) (Ev2.negD (by omega) (Ev2.now _))
  | d + 1, i, h => by
    refine Ev2.step (fun k m => h_law08_Same_s k m a a (a.length : Int) (i : Int) _ rfl _ rfl) (Ev2.posD (by omega) (Ev2.pos (inb_true (by omega) (by omega)) (Ev2.pos (inb_true (by omega) (by omega)) (Ev2.neg (by simp) ?_))))
    rw [wnat (by omega)]
    exact same_l a hl d (i + 1) (by omega)
theorem same_ev (a : List En) (hl : a.length ≤ 140737488351232) : Ev1 (fun k => CF k sBo n_law08_Same [inj KEs a, inj KEs a]) true :=
  Ev1.step (fun k => f_law08_Same k a a _ rfl) (Ev1.neg (by simp) (same_l a hl a.length 0 (by omega)).diag)
/-! EntryBack -/
theorem back_len (es : List En) : (back es).length = es.length := by unfold back; rw [List.length_reverse, List.length_map]
theorem back_at (es : List En) (i : Nat) (h : i < es.length) : (back es).getD (Int.toNat (i : Int)) (0, 0) = neg (es[es.length - 1 - i]'(by omega)) := by
  rw [getE (back es) i (by rw [back_len]; exact h)]
  unfold back
  rw [List.getElem_reverse, List.getElem_map]
  congr 2
  rw [List.length_map]
theorem w64_neg2 {v : Int} (h : -9223372036854775808 ≤ v ∧ v ≤ 9223372036854775807) : w64 (0 - w64 (0 - v)) = v := by
  by_cases h0 : v = -9223372036854775808
  · subst h0; rfl
  · rw [w64_id (x := 0 - v) (by omega), w64_id (by omega)]; omega
theorem back_back (es : List En) (h : ∀ x ∈ es, -9223372036854775808 ≤ x.2 ∧ x.2 ≤ 9223372036854775807) : back (back es) = es := by
  unfold back
  rw [List.map_reverse, List.reverse_reverse, List.map_map]
  conv => rhs; rw [← List.map_id es]
  refine List.map_congr_left fun e he => ?_
  show (e.1, w64 (0 - w64 (0 - e.2))) = e
  rw [w64_neg2 (h e he)]
theorem eback_l (es : List En) (he : es.length * 16 ≤ 140737488351232) (hv : ∀ x ∈ es, -9223372036854775808 ≤ x.2 ∧ x.2 ≤ 9223372036854775807) (b : TBook) (hb : okBook b) (ps : List TPair) (hp : okPs ps) : ∀ (d i : Nat), i + d = es.length →
    Ev2 (fun k m => h_law08_EntryBack k m es ps (back es) ((back es).length : Int) (i : Int) b.1 b.2.1 b.2.2) true
  | 0, i, h => by
    obtain ⟨ac, n, hac, hB, hn⟩ := book_ev b hb
    have hR := Rt.of_book hB hn
    obtain ⟨e2, hes, hE⟩ := entries_ev ac hR ps hp
    have hbl := back_len es
    have hbb := back_ev (back es) (by rw [hbl]; exact he)
    rw [back_back es hv] at hbb
    have hel := hE.len
    have hbal := balanced_ev ac hR.curs (back e2) (by rw [back_len]; omega)
    rw [hE.back.bal hR.curs] at hbal
    exact Ev2.step (fun k m => h_law08_EntryBack_s k m es ps (back es) _ (i : Int) b.1 b.2.1 b.2.2 _ rfl _ rfl _ rfl) (Ev2.negD (by rw [hbl]; omega) (Ev2.bind hac (Ev2.bind hbb (Ev2.bind (same_ev es (by omega)) (Ev2.pos rfl (Ev2.bind hes (Ev2.bind (back_ev e2 (by omega)) (Ev2.bind hbal (Ev2.now _)))))))))
  | d + 1, i, h => by
    have hlt : i < es.length := by omega
    have hbl := back_len es
    have e2 : w64 (w64 ((es.length : Int) - 1) - (i : Int)) = ((es.length - 1 - i : Nat) : Int) := by rw [w64_id (x := (es.length : Int) - 1) (by omega), w64_id (by omega)]; omega
    have hj : es.length - 1 - i < es.length := by omega
    refine Ev2.step (fun k m => h_law08_EntryBack_s k m es ps (back es) _ (i : Int) b.1 b.2.1 b.2.2 _ (back_at es i hlt).symm _ e2.symm _ (getE es (es.length - 1 - i) hj).symm) ?_
    refine Ev2.posD (by rw [hbl]; omega) (Ev2.pos (inb_true (by omega) (by rw [hbl]; omega)) (Ev2.pos (inb_true (by omega) (by omega)) (Ev2.neg (by simp [neg]) (Ev2.pos (inb_true (by omega) (by rw [hbl]; omega)) (Ev2.pos (inb_true (by omega) (by omega)) (Ev2.neg (by simp [neg]) ?_))))))
    rw [wnat (by omega)]
    exact eback_l es he hv b hb ps hp d (i + 1) (by omega)
theorem EntryBack (es : List En) (b : TBook) (ps : List TPair) (he : es.length * 16 ≤ 140737488351232 ∧ ∀ x ∈ es, -9223372036854775808 ≤ x.2 ∧ x.2 ≤ 9223372036854775807) (hb : okBook b) (hp : okPs ps) :
    Ev1 (fun k => CF k sBo n_law08_EntryBack [inj KEs es, inj KBook b, inj (.slice KPair) ps]) true := by
  refine Ev1.step (fun k => f_law08_EntryBack k es b ps) (Ev1.bind awake_ev (Ev1.neg rfl (Ev1.bind (back_ev es he.1) (Ev1.neg (by rw [back_len]; simp) ?_))))
  exact Ev2.diag (f := fun k m => h_law08_EntryBack k m es ps (back es) ((back es).length : Int) 0 b.1 b.2.1 b.2.2) (eback_l es he.1 he.2 b hb ps hp es.length 0 (by omega))
/-! EntryHouse -/
theorem EntryHouse (b : TBook) (f t n : Int) (hb : okBook b) (hf : 0 ≤ f ∧ f ≤ 255) (ht : 0 ≤ t ∧ t ≤ 255) (hn : 0 ≤ n ∧ n ≤ 65535) :
    Ev1 (fun k => CF k sBo n_law08_EntryHouse [inj KBook b, inj (.int .u8) f, inj (.int .u8) t, inj (.int .u16) n]) true := by
  obtain ⟨ac, q, hac, hB, hq⟩ := book_ev b hb
  have hR := Rt.of_book hB hq
  have hlo := hR.lo
  have hhi := hR.hi
  refine Ev1.step (fun k => f_law08_EntryHouse k b f t n) (Ev1.bind awake_ev (Ev1.neg rfl (Ev1.bind hac (Ev1.pos (by rw [decide_eq_false (by omega)]; rfl) (Ev1.pos (by rw [decide_eq_false (by omega)]; rfl) ?_)))))
  rw [w64_id (x := f) (by omega), w64_id (x := t) (by omega), w64_id (x := n) (by omega)]
  have fi := tmod_facts (a := f) (b := (ac.length : Int)) hf.1 (by omega)
  have fk := tmod_facts (a := t) (b := (ac.length : Int)) ht.1 (by omega)
  have hi : inA ac (Int.tmod f (ac.length : Int)) := ⟨by omega, by omega⟩
  have hk : inA ac (Int.tmod t (ac.length : Int)) := ⟨by omega, by omega⟩
  generalize Int.tmod f (ac.length : Int) = i at hi
  generalize Int.tmod t (ac.length : Int) = j at hk
  refine Ev1.bind (move_ev ac hR.curs i j n) ?_
  have ei : (ac.getD (Int.toNat i) (0, 0, 0)).1 = (acAt ac i).1 := rfl
  have ej : (ac.getD (Int.toNat j) (0, 0, 0)).1 = (acAt ac j).1 := rfl
  rw [ei, ej]
  have ha := hR.curs.at hi
  have hbb := hR.curs.at hk
  unfold moveF
  rw [if_pos ⟨hi, hk⟩]
  by_cases c1 : i = j ∨ ¬ (1 ≤ n ∧ n ≤ 1099511627776)
  · rw [if_pos c1]; exact Ev1.pos rfl (Ev1.pos rfl (Ev1.now _))
  · rw [if_neg c1]
    by_cases c2 : (acAt ac i).1 = (acAt ac j).1
    · rw [if_pos c2]
      exact Ev1.neg rfl (Ev1.pos (inb_true hi.1 hi.2) (Ev1.pos (inb_true hk.1 hk.2) (Ev1.posD c2 (Ev1.neg rfl (Ev1.posD rfl (Ev1.pos rfl (Ev1.posD rfl (Ev1.pos rfl (Ev1.const (congrArg some (decide_eq_true rfl)))))))))))
    · rw [if_neg c2]
      have hok := rate_ok ha hbb
      generalize rN (acAt ac i).1 (acAt ac j).1 = p at hok ⊢
      generalize rD (acAt ac i).1 (acAt ac j).1 = d at hok ⊢
      by_cases c3 : 1099511627776 < n * p / d
      · rw [if_pos c3]; exact Ev1.pos rfl (Ev1.pos rfl (Ev1.now _))
      · rw [if_neg c3]
        have hg0 : 0 ≤ n * p / d := Int.ediv_nonneg (Int.mul_nonneg hn.1 (by unfold okR at hok; omega)) (by unfold okR at hok; omega)
        by_cases c4 : n * p / d = 0
        · rw [if_pos c4]; exact Ev1.pos rfl (Ev1.pos rfl (Ev1.now _))
        · rw [if_neg c4]
          refine Ev1.neg rfl (Ev1.pos (inb_true hi.1 hi.2) (Ev1.pos (inb_true hk.1 hk.2) (Ev1.negD c2 ?_)))
          generalize hg : n * p / d = g at c3 c4 hg0 ⊢
          generalize ha' : (acAt ac i).1 = a at ha c2 ⊢
          generalize hb' : (acAt ac j).1 = c at hbb c2 ⊢
          have n1 : numV 1 a = 3 * a + 1 := by unfold numV; rw [if_neg (by omega)]
          have n2 : numV 1 c = 3 * c + 1 := by unfold numV; rw [if_neg (by omega)]
          refine Ev2.diag (f := fun k m => h_law08_EntryHouse k m n i j [(i, -n), (3 * a + 1, n), (3 * c + 1, -g), (j, g)] ac) (Ev2.step (fun k m => h_law08_EntryHouse_s k m n i j [(i, -n), (3 * a + 1, n), (3 * c + 1, -g), (j, g)] ac (3 * a + 1, n) rfl (3 * c + 1, -g) rfl g rfl) ?_)
          rw [ei, ej, ha', hb', w64_id (x := n) (by omega), w64_id (x := 0 - g) (by omega)]
          refine Ev2.posD rfl (Ev2.pos rfl (Ev2.pos (inb_true hi.1 hi.2) (Ev2.bind (number_ev 1 a) ?_)))
          rw [n1]
          refine Ev2.posD rfl (Ev2.pos rfl (Ev2.posD rfl (Ev2.pos rfl (Ev2.pos (inb_true hk.1 hk.2) (Ev2.bind (number_ev 1 c) ?_)))))
          rw [n2]
          exact Ev2.posD rfl (Ev2.pos rfl (Ev2.pos rfl (Ev2.posD (by omega) (Ev2.pos rfl (Ev2.const (congrArg some (decide_eq_true (by omega))))))))
end Go.Eng.Ent
