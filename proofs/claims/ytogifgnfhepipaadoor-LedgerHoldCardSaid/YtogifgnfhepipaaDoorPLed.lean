/- The laws of layer 9. Conditions: the statements' own. -/
import Derived.Test.YtogifgnfhepipaaDoorPLedEnt
import Derived.Test.YtogifgnfhepipaaDoorPLedSums
set_option linter.all false
set_option linter.unusedVariables false
set_option linter.unusedSimpArgs false
set_option linter.deprecated false
namespace Go.Eng.Led
open Go.RowKit Go.Eng Go.Eng.LChart Go.Eng.LEnt
set_option maxRecDepth 100000
abbrev sAe : Sig := ⟨[(false, .slice KAccount), (false, .err)], []⟩
abbrev sAi : Sig := ⟨[(false, .slice KAccount), (false, .int .i64)], []⟩
theorem awake_ev : Ev1 (fun k => CF k sBo n_law09_awake []) true := Ev1.of_rfl 40 (fun k => by kernel_rfl)
theorem num_ev (e : Option Int) : Ev1 (fun k => CF k sIn n_api_Number [inj .err e]) (e.getD 0) := Ev1.step (fun k => f_api_Number k e) (Ev1.now _)
theorem isc_ev (ac : List Acc) (i : Int) : Ev1 (fun k => CF k sBo n_chart_IsClient [inj KA ac, inj I i]) (decide (9 ≤ i ∧ i < (ac.length : Int))) := by
  refine Ev1.step (fun k => f_chart_IsClient k ac i) (Ev1.bind (of_ev ac i) ?_)
  unfold ofV
  by_cases h : inA ac i
  · rw [if_pos h]
    by_cases h9 : i < 9
    · rw [if_pos h9]
      refine Ev1.pos rfl (Ev1.const (congrArg some ?_))
      rw [Int.tmod_eq_emod_of_nonneg h.1]
      exact decide_eq_decide.2 (by omega)
    · rw [if_neg h9]
      refine Ev1.pos rfl (Ev1.const (congrArg some ?_))
      exact decide_eq_decide.2 (by unfold inA at h; omega)
  · rw [if_neg h]
    exact Ev1.neg rfl (Ev1.const (congrArg some (decide_eq_false (by unfold inA at h; omega)).symm))
theorem clone_ev (ac : List Acc) (hl : ac.length ≤ 64) : Ev1 (fun k => CF k sAs n_chart_Clone [inj KA ac]) ac := Ev1.step (fun k => f_chart_Clone k ac) (Ev1.posD (by omega) (Ev1.now _))
/-! Hold, Release -/
def holdF (ac : List Acc) (n a : Int) : List Acc × Option Int :=
  if 9 ≤ n ∧ n < (ac.length : Int) then (if 1 ≤ a ∧ a ≤ 1099511627776 then (if (acAt ac n).2.1 - (acAt ac n).2.2 < a then ([], some 3)
    else (ac.set (Int.toNat n) ((acAt ac n).1, (acAt ac n).2.1, (acAt ac n).2.2 + a), none)) else ([], some 1)) else ([], some 2)
def relF (ac : List Acc) (n a : Int) : List Acc × Option Int :=
  if 9 ≤ n ∧ n < (ac.length : Int) then (if 1 ≤ a ∧ a ≤ 1099511627776 then (if (acAt ac n).2.2 < a then ([], some 6)
    else (ac.set (Int.toNat n) ((acAt ac n).1, (acAt ac n).2.1, (acAt ac n).2.2 - a), none)) else ([], some 1)) else ([], some 2)
theorem rt_client {ac : List Acc} (h : Rt ac) {n : Int} (hn : 9 ≤ n ∧ n < (ac.length : Int)) : inA ac n ∧ 0 ≤ (acAt ac n).2.2 ∧ (acAt ac n).2.2 ≤ (acAt ac n).2.1 ∧ (acAt ac n).2.1 ≤ 1125899906842624 := by
  obtain ⟨q, rfl⟩ := Int.eq_ofNat_of_zero_le (show 0 ≤ n by omega)
  have hq : q < ac.length := by omega
  rw [acAt_nat ac q hq]
  have ho := h.ok q hq
  exact ⟨⟨by omega, hn.2⟩, (ho.2.2.2.2.2 (by omega)).1, (ho.2.2.2.2.2 (by omega)).2, ho.2.2.2.1⟩
theorem hold_ev (ac : List Acc) (h : Rt ac) (n a : Int) : Ev1 (fun k => CF k sAe n_ledger_Hold [inj KA ac, inj I n, inj I a]) (holdF ac n a) := by
  refine Ev1.step (fun k => f_ledger_Hold k ac n a) (Ev1.bind (isc_ev ac n) ?_)
  unfold holdF
  by_cases h1 : 9 ≤ n ∧ n < (ac.length : Int)
  · rw [decide_eq_true h1, if_pos h1]
    obtain ⟨g1, g2, g3, g4⟩ := rt_client h h1
    refine Ev1.neg rfl (Ev1.bind (Ev1.of_rfl 1 (fun k => amount_eq k a)) ?_)
    by_cases h2 : 1 ≤ a ∧ a ≤ 1099511627776
    · rw [decide_eq_true h2, if_pos h2]
      refine Ev1.neg rfl (Ev1.pos (inb_true g1.1 g1.2) ?_)
      have e : ac.getD (Int.toNat n) (0, 0, 0) = acAt ac n := rfl
      rw [e]
      refine Ev1.bind (Ev1.step (fun k => f_chart_Free k (acAt ac n)) (Ev1.now _)) ?_
      rw [w64_id (by omega)]
      by_cases h3 : (acAt ac n).2.1 - (acAt ac n).2.2 < a
      · rw [if_pos h3]; exact Ev1.posD h3 (Ev1.now _)
      · rw [if_neg h3]
        refine Ev1.negD h3 (Ev1.bind (clone_ev ac h.hi) (Ev1.pos (inb_true g1.1 g1.2) (Ev1.pos (inb_true g1.1 g1.2) ?_)))
        rw [e, w64_id (by omega)]
        exact Ev1.now _
    · rw [decide_eq_false h2, if_neg h2]; exact Ev1.pos rfl (Ev1.now _)
  · rw [decide_eq_false h1, if_neg h1]; exact Ev1.pos rfl (Ev1.now _)
theorem rel_ev (ac : List Acc) (h : Rt ac) (n a : Int) : Ev1 (fun k => CF k sAe n_ledger_Release [inj KA ac, inj I n, inj I a]) (relF ac n a) := by
  refine Ev1.step (fun k => f_ledger_Release k ac n a) (Ev1.bind (isc_ev ac n) ?_)
  unfold relF
  by_cases h1 : 9 ≤ n ∧ n < (ac.length : Int)
  · rw [decide_eq_true h1, if_pos h1]
    obtain ⟨g1, g2, g3, g4⟩ := rt_client h h1
    refine Ev1.neg rfl (Ev1.bind (Ev1.of_rfl 1 (fun k => amount_eq k a)) ?_)
    by_cases h2 : 1 ≤ a ∧ a ≤ 1099511627776
    · rw [decide_eq_true h2, if_pos h2]
      refine Ev1.neg rfl (Ev1.pos (inb_true g1.1 g1.2) ?_)
      have e : ac.getD (Int.toNat n) (0, 0, 0) = acAt ac n := rfl
      rw [e]
      by_cases h3 : (acAt ac n).2.2 < a
      · rw [if_pos h3]; exact Ev1.posD h3 (Ev1.now _)
      · rw [if_neg h3]
        refine Ev1.negD h3 (Ev1.bind (clone_ev ac h.hi) (Ev1.pos (inb_true g1.1 g1.2) (Ev1.pos (inb_true g1.1 g1.2) ?_)))
        rw [e, w64_id (by omega)]
        exact Ev1.now _
    · rw [decide_eq_false h2, if_neg h2]; exact Ev1.pos rfl (Ev1.now _)
  · rw [decide_eq_false h1, if_neg h1]; exact Ev1.pos rfl (Ev1.now _)
/-- Another amount held, on a client's. -/
theorem held_rt {ac : List Acc} (h : Rt ac) {n v : Int} (hn : 9 ≤ n ∧ n < (ac.length : Int)) (hv : 0 ≤ v ∧ v ≤ (acAt ac n).2.1) : Rt (ac.set (Int.toNat n) ((acAt ac n).1, (acAt ac n).2.1, v)) := by
  obtain ⟨q, rfl⟩ := Int.eq_ofNat_of_zero_le (show 0 ≤ n by omega)
  have hq : q < ac.length := by omega
  rw [acAt_nat ac q hq] at hv ⊢
  rw [Int.toNat_natCast]
  refine ⟨by rw [List.length_set]; exact h.lo, by rw [List.length_set]; exact h.hi, fun k hk => ?_, fun c => ?_⟩
  · rw [List.length_set] at hk
    rw [List.getElem_set]
    split
    · rename_i e; subst e
      have ho := h.ok q hq
      exact ⟨ho.1, ho.2.1, ho.2.2.1, ho.2.2.2.1, fun h9 => by omega, fun _ => hv⟩
    · exact h.ok k hk
  · rw [sums_set c ac q _ hq, h.sum c]
    unfold cur
    dsimp only
    omega
theorem holdF_rt {ac : List Acc} (h : Rt ac) {n a : Int} (hn : (holdF ac n a).2 = none) : Rt (holdF ac n a).1 ∧ (holdF ac n a).1.length = ac.length := by
  unfold holdF at hn ⊢
  split at hn
  · rename_i h1
    split at hn
    · rename_i h2
      split at hn
      · cases hn
      · rename_i h3
        rw [if_pos h1, if_pos h2, if_neg h3]
        obtain ⟨g1, g2, g3, g4⟩ := rt_client h h1
        exact ⟨held_rt h h1 (by omega), List.length_set⟩
    · cases hn
  · cases hn
theorem relF_rt {ac : List Acc} (h : Rt ac) {n a : Int} (hn : (relF ac n a).2 = none) : Rt (relF ac n a).1 ∧ (relF ac n a).1.length = ac.length := by
  unfold relF at hn ⊢
  split at hn
  · rename_i h1
    split at hn
    · rename_i h2
      split at hn
      · cases hn
      · rename_i h3
        rw [if_pos h1, if_pos h2, if_neg h3]
        obtain ⟨g1, g2, g3, g4⟩ := rt_client h h1
        exact ⟨held_rt h h1 (by omega), List.length_set⟩
    · cases hn
  · cases hn
theorem hold_rel {ac : List Acc} (h : Rt ac) {n a : Int} (hn : (holdF ac n a).2 = none) : relF (holdF ac n a).1 n a = (ac, none) := by
  unfold holdF at hn ⊢
  split at hn
  · rename_i h1
    split at hn
    · rename_i h2
      split at hn
      · cases hn
      · rename_i h3
        rw [if_pos h1, if_pos h2, if_neg h3]
        obtain ⟨g1, g2, g3, g4⟩ := rt_client h h1
        unfold relF
        dsimp only
        rw [acAt_set ac n n _ g1 g1.1, if_pos rfl]
        dsimp only
        rw [if_pos (by rw [List.length_set]; exact h1), if_pos h2, if_neg (by omega)]
        rw [show (acAt ac n).2.2 + a - a = (acAt ac n).2.2 by omega]
        have := set_back ac n ((acAt ac n).1, (acAt ac n).2.1, (acAt ac n).2.2 + a) g1
        rw [this]
    · cases hn
  · cases hn
/-! Post -/
def finP : Option (List Acc) → List Acc × Option Int
  | none => ([], some 4)
  | some o => bif freeB (o.drop 9) then (o, none) else ([], some 3)
def numP (r : List Acc × Option Int) : List Acc × Int := (r.1, r.2.getD 0)
theorem postF_def (ac : List Acc) (es : List En) : postF ac es = bif balF ac es (0, 0, 0) then finP (runF ac es) else ([], some 13) := by
  unfold postF finP; rfl
theorem free_cons (a : Acc) (l : List Acc) : freeB (a :: l) = ((!decide (w64 (a.2.1 - a.2.2) < 0)) && freeB l) := rfl
theorem post1_l (out : List Acc) (hl : out.length ≤ 64) : ∀ (d i : Nat), i + d = out.length → Ev2 (fun k m => h_ledger_Post_1 k m (out.length : Int) (i : Int) out) (bif freeB (out.drop (max 9 i)) then (out, none) else ([], some 3))
  | 0, i, h => by
    refine Ev2.step (fun k m => h_ledger_Post_1_s k m (out.length : Int) (i : Int) out _ rfl) (Ev2.negD (by omega) ?_)
    rw [List.drop_of_length_le (by omega)]
    exact Ev2.now _
  | d + 1, i, h => by
    have hlt : i < out.length := by omega
    have ih := post1_l out hl d (i + 1) (by omega)
    refine Ev2.step (fun k m => h_ledger_Post_1_s k m (out.length : Int) (i : Int) out ((i + 1 : Nat) : Int) (wnat (by omega)).symm) (Ev2.posD (by omega) (Ev2.pos (inb_true (by omega) (by omega)) (Ev2.bind (isc_ev out (i : Int)) ?_)))
    by_cases h9 : 9 ≤ i
    · rw [decide_eq_true (by omega), getA out i hlt]
      refine Ev2.pos rfl (Ev2.bind (Ev1.step (fun k => f_chart_Free k out[i]) (Ev1.now _)) ?_)
      rw [show max 9 i = i by omega, List.drop_eq_getElem_cons hlt, free_cons]
      rw [show max 9 (i + 1) = i + 1 by omega] at ih
      by_cases hf : w64 (out[i].2.1 - out[i].2.2) < 0
      · rw [decide_eq_true hf]; exact Ev2.pos rfl (Ev2.now _)
      · rw [decide_eq_false hf]
        exact Ev2.neg rfl ih
    · rw [decide_eq_false (by omega)]
      rw [show max 9 (i + 1) = 9 by omega] at ih
      rw [show max 9 i = 9 by omega]
      exact Ev2.neg rfl ih
theorem post_l (es : List En) (hl : es.length ≤ 140737488351232) : ∀ (d i : Nat) (out : List Acc), i + d = es.length → (∀ e ∈ es.drop i, inA out e.1) → out.length ≤ 64 → Ev2 (fun k m => h_ledger_Post k m es (es.length : Int) (i : Int) out) (finP (runF out (es.drop i)))
  | 0, i, out, h, hin, ho => by
    refine Ev2.step (fun k m => h_ledger_Post_s k m es (es.length : Int) (i : Int) out _ rfl _ rfl _ rfl) (Ev2.negD (by omega) ?_)
    rw [List.drop_of_length_le (by omega)]
    exact Ev1.drop (Ev2.diag (f := fun k m => h_ledger_Post_1 k m (out.length : Int) 0 out) (post1_l out ho out.length 0 (by omega)))
  | d + 1, i, out, h, hin, ho => by
    have hlt : i < es.length := by omega
    rw [List.drop_eq_getElem_cons hlt] at hin ⊢
    refine Ev2.step (fun k m => h_ledger_Post_s k m es (es.length : Int) (i : Int) out es[i] (getE es i hlt).symm _ rfl (acAt out es[i].1) rfl) (Ev2.posD (by omega) (Ev2.pos (inb_true (by omega) (by omega)) ?_))
    generalize es[i] = e at hin ⊢
    have h1 := hin e (by simp)
    refine Ev2.pos (inb_true h1.1 h1.2) (Ev2.bind (add_ev (acAt out e.1).2.1 e.2) ?_)
    rw [addV_def]
    unfold runF
    by_cases h3 : LEnt.okM (acAt out e.1).2.1 ∧ LEnt.okM e.2 ∧ LEnt.okM ((acAt out e.1).2.1 + e.2)
    · rw [if_pos h3, if_pos h3]
      refine Ev2.neg rfl (Ev2.pos (inb_true h1.1 h1.2) ?_)
      rw [wnat (by omega)]
      exact post_l es hl d (i + 1) _ (by omega) (fun a ha => by have := hin a (by simp [ha]); unfold inA at this ⊢; rw [List.length_set]; exact this) (by rw [List.length_set]; exact ho)
    · rw [if_neg h3, if_neg h3]
      exact Ev2.pos rfl (Ev2.now _)
theorem post_ev (ac : List Acc) (h : Rt ac) (es : List En) (hl : es.length ≤ 140737488351232) : Ev1 (fun k => CF k sAe n_ledger_Post [inj KA ac, inj KEs es]) (postF ac es) := by
  refine Ev1.step (fun k => f_ledger_Post k ac es) (Ev1.bind (balanced_ev ac h.curs es hl) ?_)
  rw [postF_def]
  cases hb : balF ac es (0, 0, 0) with
  | false => exact Ev1.pos rfl (Ev1.now _)
  | true =>
    obtain ⟨hin, _⟩ := bal_sum ac h.curs es 0 0 0 hb
    refine Ev1.neg rfl (Ev1.bind (clone_ev ac h.hi) ?_)
    exact Ev2.diag (f := fun k m => h_ledger_Post k m es (es.length : Int) 0 ac) (post_l es hl es.length 0 ac (by omega) (fun e he => (hin e he).1) h.hi)
theorem lpost1_l (out : List Acc) (hl : out.length ≤ 64) : ∀ (d i : Nat), i + d = out.length → Ev2 (fun k m => h_law09_post_1 k m (i : Int) out) (numP (bif freeB (out.drop i) then (out, none) else ([], some 3)))
  | 0, i, h => by
    refine Ev2.step (fun k m => h_law09_post_1_s k m (i : Int) out _ rfl) (Ev2.negD (by omega) ?_)
    rw [List.drop_of_length_le (by omega)]
    exact Ev2.now _
  | d + 1, i, h => by
    have hlt : i < out.length := by omega
    have ih := lpost1_l out hl d (i + 1) (by omega)
    refine Ev2.step (fun k m => h_law09_post_1_s k m (i : Int) out out[i].2 (by rw [getA out i hlt])) (Ev2.posD (by omega) (Ev2.pos (inb_true (by omega) (by omega)) (Ev2.pos (inb_true (by omega) (by omega)) ?_)))
    rw [List.drop_eq_getElem_cons hlt, free_cons, wnat (by omega)]
    by_cases hf : w64 (out[i].2.1 - out[i].2.2) < 0
    · rw [decide_eq_true hf]; exact Ev2.pos rfl (Ev2.now _)
    · rw [decide_eq_false hf]; exact Ev2.neg rfl ih
theorem lpost_l (es : List En) (hl : es.length ≤ 140737488351232) : ∀ (d i : Nat) (out : List Acc), i + d = es.length → (∀ e ∈ es.drop i, inA out e.1) → out.length ≤ 64 → 9 ≤ out.length → Ev2 (fun k m => h_law09_post k m es (es.length : Int) (i : Int) out) (numP (finP (runF out (es.drop i))))
  | 0, i, out, h, hin, ho, ho9 => by
    refine Ev2.step (fun k m => h_law09_post_s k m es (es.length : Int) (i : Int) out _ rfl _ rfl _ rfl) (Ev2.negD (by omega) ?_)
    rw [List.drop_of_length_le (by omega)]
    exact Ev1.drop (Ev2.diag (f := fun k m => h_law09_post_1 k m 9 out) (lpost1_l out ho (out.length - 9) 9 (by omega)))
  | d + 1, i, out, h, hin, ho, ho9 => by
    have hlt : i < es.length := by omega
    rw [List.drop_eq_getElem_cons hlt] at hin ⊢
    refine Ev2.step (fun k m => h_law09_post_s k m es (es.length : Int) (i : Int) out es[i] (getE es i hlt).symm _ rfl (acAt out es[i].1) rfl) (Ev2.posD (by omega) (Ev2.pos (inb_true (by omega) (by omega)) ?_))
    generalize es[i] = e at hin ⊢
    have h1 := hin e (by simp)
    refine Ev2.pos (inb_true h1.1 h1.2) (Ev2.bind (add_ev (acAt out e.1).2.1 e.2) ?_)
    rw [addV_def]
    unfold runF
    by_cases h3 : LEnt.okM (acAt out e.1).2.1 ∧ LEnt.okM e.2 ∧ LEnt.okM ((acAt out e.1).2.1 + e.2)
    · rw [if_pos h3, if_pos h3]
      refine Ev2.neg rfl (Ev2.pos (inb_true h1.1 h1.2) ?_)
      rw [wnat (by omega)]
      exact lpost_l es hl d (i + 1) _ (by omega) (fun a ha => by have := hin a (by simp [ha]); unfold inA at this ⊢; rw [List.length_set]; exact this) (by rw [List.length_set]; exact ho) (by rw [List.length_set]; exact ho9)
    · rw [if_neg h3, if_neg h3]
      exact Ev2.pos rfl (Ev2.now _)
theorem lpost_ev (ac : List Acc) (h : Rt ac) (es : List En) (hl : es.length ≤ 140737488351232) : Ev1 (fun k => CF k sAi n_law09_post [inj KA ac, inj KEs es]) (numP (postF ac es)) := by
  refine Ev1.step (fun k => f_law09_post k ac es) (Ev1.bind (balanced_ev ac h.curs es hl) ?_)
  rw [postF_def]
  have := h.hi
  cases hb : balF ac es (0, 0, 0) with
  | false => exact Ev1.pos rfl (Ev1.now _)
  | true =>
    obtain ⟨hin, _⟩ := bal_sum ac h.curs es 0 0 0 hb
    refine Ev1.neg rfl (Ev1.posD (by omega) ?_)
    exact Ev2.diag (f := fun k m => h_law09_post k m es (es.length : Int) 0 ac) (lpost_l es hl es.length 0 ac (by omega) (fun e he => (hin e he).1) h.hi h.lo)
theorem postF_rt {ac : List Acc} (h : Rt ac) {es : List En} (hn : (postF ac es).2 = none) : balF ac es (0, 0, 0) = true ∧ runF ac es = some (postF ac es).1 ∧ Rt (postF ac es).1 ∧ (postF ac es).1.length = ac.length := by
  rw [postF_def] at hn ⊢
  cases hb : balF ac es (0, 0, 0) with
  | false => rw [hb] at hn; cases hn
  | true =>
    rw [hb] at hn
    dsimp only [cond_true] at hn ⊢
    cases hr : runF ac es with
    | none => rw [hr] at hn; cases hn
    | some out =>
      rw [hr] at hn
      unfold finP at hn ⊢
      dsimp only at hn ⊢
      cases hf : freeB (out.drop 9) with
      | false => rw [hf] at hn; cases hn
      | true =>
        obtain ⟨hin, _⟩ := bal_sum ac h.curs es 0 0 0 hb
        obtain ⟨k1, _, _⟩ := run_kept es ac out (fun e he => (hin e he).1) hr
        exact ⟨rfl, rfl, h.post hb hr hf, k1.len⟩
/-! Same -/
theorem same_l (a : List Acc) (hl : a.length ≤ 64) : ∀ (d i : Nat), i + d = a.length → Ev2 (fun k m => h_law07_Same k m a a (a.length : Int) (i : Int)) true
  | 0, i, h => Ev2.step (fun k m => h_law07_Same_s k m a a (a.length : Int) (i : Int) _ rfl _ rfl) (Ev2.negD (by omega) (Ev2.now _))
  | d + 1, i, h => by
    refine Ev2.step (fun k m => h_law07_Same_s k m a a (a.length : Int) (i : Int) _ rfl _ rfl) (Ev2.posD (by omega) (Ev2.pos (inb_true (by omega) (by omega)) (Ev2.pos (inb_true (by omega) (by omega)) (Ev2.neg (by simp) ?_))))
    rw [wnat (by omega)]
    exact same_l a hl d (i + 1) (by omega)
theorem same_ev (a : List Acc) (hl : a.length ≤ 64) : Ev1 (fun k => CF k sBo n_law07_Same [inj KA a, inj KA a]) true :=
  Ev1.step (fun k => f_law07_Same k a a _ rfl) (Ev1.neg (by simp) (same_l a hl a.length 0 (by omega)).diag)
theorem postF_len {ac : List Acc} (h : Rt ac) (es : List En) : (postF ac es).1.length ≤ 64 := by
  cases hn : (postF ac es).2 with
  | none => rw [(postF_rt h hn).2.2.2]; exact h.hi
  | some c =>
    rw [postF_def] at hn ⊢
    cases hb : balF ac es (0, 0, 0) with
    | false => exact Nat.zero_le _
    | true =>
      rw [hb] at hn
      dsimp only [cond_true] at hn ⊢
      cases hr : runF ac es with
      | none => exact Nat.zero_le _
      | some out =>
        rw [hr] at hn
        unfold finP at hn ⊢
        dsimp only at hn ⊢
        cases hf : freeB (out.drop 9) with
        | false => exact Nat.zero_le _
        | true => rw [hf] at hn; cases hn
/-! LedgerPost -/
theorem okE_of (l : List En) (h : l.length * 16 ≤ 140737488351232 ∧ ∀ x ∈ l, (Lit.int .i64 x.1).wf = true ∧ (Lit.int .i64 x.2).wf = true) : l.length ≤ 140737488351232 := by omega
theorem okPs_of (l : List TPair) (h : l.length * 8 ≤ 140737488351232 ∧ ∀ x ∈ l, (Lit.int .u8 x.1).wf = true ∧ (Lit.int .i32 x.2).wf = true) : okPs l :=
  ⟨by omega, fun p hp => ⟨(wf_u8 (h.2 p hp).1).1, (wf_u8 (h.2 p hp).1).2, (wf_i32 (h.2 p hp).2).1, (wf_i32 (h.2 p hp).2).2⟩⟩
theorem both (ac : List Acc) (h : Rt ac) (es : List En) (hl : es.length ≤ 140737488351232) {g : Nat → Nat → Option Bool} (hg : Ev2 g true) :
    Ev2 (fun k m => (CF k sAe n_ledger_Post [inj KA ac, inj KEs es]).bind fun (r : (List TAccount) × Option Int) => (CF k sAi n_law09_post [inj KA ac, inj KEs es]).bind fun (r_1 : (List TAccount) × Int) =>
      (CF k sBo n_law07_Same [inj KA r.1, inj KA r_1.1]).bind fun (r_2 : Bool) => (bif (!r_2) then some false else (CF k sIn n_api_Number [inj .err r.2]).bind fun (r_3 : Int) => (bif (!decide (r_3 = r_1.2)) then some false else g k m))) true := by
  refine Ev2.bind (post_ev ac h es hl) (Ev2.bind (lpost_ev ac h es hl) (Ev2.bind (same_ev (postF ac es).1 (postF_len h es)) (Ev2.neg rfl (Ev2.bind (num_ev (postF ac es).2) (Ev2.neg ?_ hg)))))
  show (!decide ((postF ac es).2.getD 0 = (postF ac es).2.getD 0)) = false
  simp
theorem LedgerPost (b : TBook) (ps : List TPair) (spoil : Bool) (raw : List En) (hb : okBook b) (hp : okPs ps) (hr : raw.length ≤ 140737488351232) :
    Ev1 (fun k => CF k sBo n_law09_LedgerPost [inj KBook b, inj (.slice KPair) ps, inj .bool spoil, inj KEs raw]) true := by
  obtain ⟨ac, n, hac, hB, hn⟩ := book_ev b hb
  have hR := Rt.of_book hB hn
  obtain ⟨es, hes, hE⟩ := entries_ev ac hR ps hp
  have hlen := hE.len
  have go : ∀ es' : List En, es'.length ≤ 9 → Ev1 (fun k => h_law09_LedgerPost k k raw b.1 b.2.1 b.2.2 ac es') true := by
    intro es' hl'
    refine Ev2.diag (f := fun k m => h_law09_LedgerPost k m raw b.1 b.2.1 b.2.2 ac es') (Ev2.step (fun k m => h_law09_LedgerPost_s k m raw b.1 b.2.1 b.2.2 ac es') (Ev1.drop (Ev2.diag (f := fun k m => h_law09_LedgerPost_1 k m 2 0 b.1 b.2.1 b.2.2 ac [es', raw]) ?_)))
    refine Ev2.step (fun k m => h_law09_LedgerPost_1_s k m 2 0 b.1 b.2.1 b.2.2 ac [es', raw] es' rfl) (Ev2.posD (by omega) (Ev2.pos rfl (both ac hR es' (by omega) ?_)))
    refine Ev2.step (fun k m => h_law09_LedgerPost_1_s k m 2 1 b.1 b.2.1 b.2.2 ac [es', raw] raw rfl) (Ev2.posD (by omega) (Ev2.pos rfl (both ac hR raw hr ?_)))
    refine Ev2.step (fun k m => h_law09_LedgerPost_1_s k m 2 2 b.1 b.2.1 b.2.2 ac [es', raw] _ rfl) (Ev2.negD (by omega) ?_)
    exact Ev2.bind hac (Ev2.bind (same_ev ac hR.hi) (Ev2.now _))
  refine Ev1.step (fun k => f_law09_LedgerPost k b ps spoil raw) (Ev1.bind awake_ev (Ev1.neg rfl (Ev1.bind hac (Ev1.bind hes ?_))))
  cases spoil with
  | false => exact Ev1.neg rfl (go es (by omega))
  | true =>
    refine Ev1.pos rfl (Ev1.iff (fun h0 => ?_) fun _ => go es (by omega))
    exact Ev1.pos (inb_true (by omega) (by omega)) (Ev1.pos (inb_true (by omega) (by omega)) (go _ (by rw [List.length_set]; omega)))
/-! LedgerHold -/
theorem hold_l (ac : List Acc) (h : Rt ac) (n a : Int) (x y : List Acc) (e f : Option Int) (ha : 1 ≤ a ∧ a ≤ 1099511627776) (hn : 9 ≤ n ∧ n < (ac.length : Int))
    (hx : e = none → x = ac.set (Int.toNat n) ((acAt ac n).1, (acAt ac n).2.1, (acAt ac n).2.2 + a)) (hy : f = none → y = ac.set (Int.toNat n) ((acAt ac n).1, (acAt ac n).2.1, (acAt ac n).2.2 - a)) :
    ∀ (d i : Nat), i + d = ac.length → Ev2 (fun k m => h_law09_LedgerHold_4 k m a n x e y f (ac.length : Int) (i : Int) ac) true
  | 0, i, hi => Ev2.step (fun k m => h_law09_LedgerHold_4_s k m a n x e y f (ac.length : Int) (i : Int) ac _ rfl) (Ev2.negD (by omega) (Ev2.now _))
  | d + 1, i, hi => by
    have hlt : i < ac.length := by omega
    have hhi := h.hi
    have ih := hold_l ac h n a x y e f ha hn hx hy d (i + 1) (by omega)
    obtain ⟨g1, g2, g3, g4⟩ := rt_client h hn
    have five : ∀ (w0 w1 w2 v0 v1 v2 : Int), (e = none → acAt x (i : Int) = (w0, w1, w2)) → (f = none → acAt y (i : Int) = (v0, v1, v2)) →
        Ev3 (fun k m1 m => h_law09_LedgerHold_5 k m1 m a n x e y f (i : Int) (ac.length : Int) (i : Int) ac w0 w1 w2 v0 v1 v2) true := by
      intro w0 w1 w2 v0 v1 v2 p q
      have ihd := Ev2.drop ih
      have tail : Ev3 (fun k m1 (_ : Nat) => bif (!f.isSome) then (bif (inb (i : Int) y.length) then (bif (!(decide ((acAt y (i : Int)).1 = v0) && (decide ((acAt y (i : Int)).2.1 = v1) && (decide ((acAt y (i : Int)).2.2 = v2) && true)))) then some false else h_law09_LedgerHold_4 k m1 a n x e y f (ac.length : Int) ((i + 1 : Nat) : Int) ac) else none) else h_law09_LedgerHold_4 k m1 a n x e y f (ac.length : Int) ((i + 1 : Nat) : Int) ac) true := by
        cases f with
        | none =>
          refine Ev3.pos rfl (Ev3.pos (inb_true (by omega) ?_) (Ev3.neg ?_ ihd))
          · rw [hy rfl, List.length_set]; omega
          · rw [q rfl]; simp
        | some c => exact Ev3.neg rfl ihd
      refine Ev3.step (fun k m1 m => h_law09_LedgerHold_5_s k m1 m a n x e y f (i : Int) (ac.length : Int) (i : Int) ac w0 w1 w2 v0 v1 v2 ((i + 1 : Nat) : Int) (wnat (by omega)).symm (acAt y (i : Int)) rfl (acAt x (i : Int)) rfl) ?_
      cases e with
      | none =>
        refine Ev3.pos rfl (Ev3.pos (inb_true (by omega) ?_) (Ev3.neg ?_ tail))
        · rw [hx rfl, List.length_set]; omega
        · rw [p rfl]; simp
      | some c => exact Ev3.neg rfl tail
    refine Ev2.step (fun k m => h_law09_LedgerHold_4_s k m a n x e y f (ac.length : Int) (i : Int) ac (acAt ac (i : Int)) rfl) (Ev2.posD (by omega) (Ev2.pos (inb_true (by omega) (by omega)) (Ev2.pos (inb_true (by omega) (by omega)) ?_)))
    by_cases hin : (i : Int) = n
    · refine Ev2.posD hin (Ev3.diag (f := fun k m1 m => h_law09_LedgerHold_5 k m1 m a n x e y f (i : Int) (ac.length : Int) (i : Int) ac (acAt ac (i : Int)).1 (acAt ac (i : Int)).2.1 (w64 ((acAt ac (i : Int)).2.2 + a)) (acAt ac (i : Int)).1 (acAt ac (i : Int)).2.1 (w64 ((acAt ac (i : Int)).2.2 - a))) (five _ _ _ _ _ _ (fun q => ?_) fun q => ?_))
      · rw [hx q, hin, acAt_set ac n n _ g1 g1.1, if_pos rfl, w64_id (by omega)]
      · rw [hy q, hin, acAt_set ac n n _ g1 g1.1, if_pos rfl, w64_id (by omega)]
    · refine Ev2.negD hin (Ev3.diag (f := fun k m1 m => h_law09_LedgerHold_5 k m1 m a n x e y f (i : Int) (ac.length : Int) (i : Int) ac (acAt ac (i : Int)).1 (acAt ac (i : Int)).2.1 (acAt ac (i : Int)).2.2 (acAt ac (i : Int)).1 (acAt ac (i : Int)).2.1 (acAt ac (i : Int)).2.2) (five _ _ _ _ _ _ (fun q => ?_) fun q => ?_))
      · rw [hx q, acAt_set ac n (i : Int) _ g1 (by omega), if_neg hin]
      · rw [hy q, acAt_set ac n (i : Int) _ g1 (by omega), if_neg hin]
theorem hold3 (ac : List Acc) (h : Rt ac) (n a : Int) (x y : List Acc) (e f : Option Int) (ha : 1 ≤ a ∧ a ≤ 1099511627776) (hn : 9 ≤ n ∧ n < (ac.length : Int))
    (hx : e = none → x = ac.set (Int.toNat n) ((acAt ac n).1, (acAt ac n).2.1, (acAt ac n).2.2 + a)) (hy : f = none → y = ac.set (Int.toNat n) ((acAt ac n).1, (acAt ac n).2.1, (acAt ac n).2.2 - a)) :
    Ev2 (fun k m => h_law09_LedgerHold_3 k k a n x e y f ac) true :=
  Ev1.drop (Ev2.diag (f := fun k m => h_law09_LedgerHold_3 k m a n x e y f ac) (Ev2.step (fun k m => h_law09_LedgerHold_3_s k m a n x e y f ac) (Ev1.drop (Ev2.diag (f := fun k m => h_law09_LedgerHold_4 k m a n x e y f (ac.length : Int) 0 ac) (hold_l ac h n a x y e f ha hn hx hy ac.length 0 (by omega))))))
theorem hold2 (ac : List Acc) (h : Rt ac) (n a : Int) (x y : List Acc) (e f : Option Int) (ha : 1 ≤ a ∧ a ≤ 1099511627776) (hn : 9 ≤ n ∧ n < (ac.length : Int)) (he : e = none ∨ e = some 3) (hf : f = none ∨ f = some 6)
    (hx : e = none → x = ac.set (Int.toNat n) ((acAt ac n).1, (acAt ac n).2.1, (acAt ac n).2.2 + a)) (hy : f = none → y = ac.set (Int.toNat n) ((acAt ac n).1, (acAt ac n).2.1, (acAt ac n).2.2 - a)) :
    Ev2 (fun k m => h_law09_LedgerHold_2 k k a n x e y f ac) true := by
  have h3 := hold3 ac h n a x y e f ha hn hx hy
  refine Ev1.drop (Ev2.diag (f := fun k m => h_law09_LedgerHold_2 k m a n x e y f ac) (Ev2.step (fun k m => h_law09_LedgerHold_2_s k m a n x e y f ac) ?_))
  rcases he with rfl | rfl <;> rcases hf with rfl | rfl
  · exact Ev2.neg rfl (Ev2.neg rfl h3)
  · exact Ev2.neg rfl (Ev2.pos rfl (Ev2.bind (num_ev (some 6)) (Ev2.neg rfl h3)))
  · exact Ev2.pos rfl (Ev2.bind (num_ev (some 3)) (Ev2.neg rfl (Ev2.neg rfl h3)))
  · exact Ev2.pos rfl (Ev2.bind (num_ev (some 3)) (Ev2.neg rfl (Ev2.pos rfl (Ev2.bind (num_ev (some 6)) (Ev2.neg rfl h3)))))
theorem LedgerHold (b : TBook) (n a : Int) (hb : okBook b) (hn : -128 ≤ n ∧ n ≤ 127) : Ev1 (fun k => CF k sBo n_law09_LedgerHold [inj KBook b, inj (.int .i8) n, inj I a]) true := by
  obtain ⟨ac, q, hac, hB, hq⟩ := book_ev b hb
  have hR := Rt.of_book hB hq
  have hlo := hR.lo
  have hhi := hR.hi
  have one : ∀ (is ok : Bool), is = decide (9 ≤ n ∧ n < (ac.length : Int)) → ok = decide (1 ≤ a ∧ a ≤ 1099511627776) → Ev2 (fun k (m : Nat) => h_law09_LedgerHold_1 k k a n is (holdF ac n a).1 (holdF ac n a).2 (relF ac n a).1 (relF ac n a).2 ok ac) true := by
    intro is ok hi ho
    subst hi ho
    refine Ev1.drop (Ev2.diag (f := fun k m => h_law09_LedgerHold_1 k m a n _ (holdF ac n a).1 (holdF ac n a).2 (relF ac n a).1 (relF ac n a).2 _ ac) (Ev2.step (fun k m => h_law09_LedgerHold_1_s k m a n _ (holdF ac n a).1 (holdF ac n a).2 (relF ac n a).1 (relF ac n a).2 _ ac _ rfl _ rfl (acAt ac n).2 rfl) ?_))
    by_cases h1 : 9 ≤ n ∧ n < (ac.length : Int)
    · rw [decide_eq_true h1]
      refine Ev2.neg rfl ?_
      by_cases h2 : 1 ≤ a ∧ a ≤ 1099511627776
      · rw [decide_eq_true h2]
        obtain ⟨g1, g2, g3, g4⟩ := rt_client hR h1
        refine Ev2.neg rfl (Ev2.pos (inb_true g1.1 g1.2) ?_)
        rw [w64_id (by omega)]
        have eh : holdF ac n a = if (acAt ac n).2.1 - (acAt ac n).2.2 < a then ([], some 3) else (ac.set (Int.toNat n) ((acAt ac n).1, (acAt ac n).2.1, (acAt ac n).2.2 + a), none) := by unfold holdF; rw [if_pos h1, if_pos h2]
        have er : relF ac n a = if (acAt ac n).2.2 < a then ([], some 6) else (ac.set (Int.toNat n) ((acAt ac n).1, (acAt ac n).2.1, (acAt ac n).2.2 - a), none) := by unfold relF; rw [if_pos h1, if_pos h2]
        rw [eh, er]
        refine Ev2.neg ?_ (Ev2.neg ?_ (hold2 ac hR n a _ _ _ _ h2 h1 ?_ ?_ ?_ ?_))
        · split
          · rw [decide_eq_false (by omega)]; rfl
          · rw [decide_eq_true (by omega)]; rfl
        · split
          · rw [decide_eq_false (by omega)]; rfl
          · rw [decide_eq_true (by omega)]; rfl
        · split
          · exact .inr rfl
          · exact .inl rfl
        · split
          · exact .inr rfl
          · exact .inl rfl
        · split
          · intro q; cases q
          · intro _; rfl
        · split
          · intro q; cases q
          · intro _; rfl
      · rw [decide_eq_false h2]
        have eh : holdF ac n a = ([], some 1) := by unfold holdF; rw [if_pos h1, if_neg h2]
        have er : relF ac n a = ([], some 1) := by unfold relF; rw [if_pos h1, if_neg h2]
        rw [eh, er]
        exact Ev2.pos rfl (Ev2.posD rfl (Ev2.posD rfl (Ev2.bind (num_ev (some 1)) (Ev2.posD rfl (Ev2.bind (num_ev (some 1)) (Ev2.now _))))))
    · rw [decide_eq_false h1]
      have eh : holdF ac n a = ([], some 2) := by unfold holdF; rw [if_neg h1]
      have er : relF ac n a = ([], some 2) := by unfold relF; rw [if_neg h1]
      rw [eh, er]
      exact Ev2.pos rfl (Ev2.posD rfl (Ev2.posD rfl (Ev2.bind (num_ev (some 2)) (Ev2.posD rfl (Ev2.bind (num_ev (some 2)) (Ev2.now _))))))
  have zero : ∀ is : Bool, is = decide (9 ≤ n ∧ n < (ac.length : Int)) → Ev1 (fun k => h_law09_LedgerHold k k a n is ac) true := by
    intro is hi
    refine Ev2.diag (f := fun k m => h_law09_LedgerHold k m a n is ac) (Ev2.step (fun k m => h_law09_LedgerHold_s k m a n is ac) (Ev2.bind (hold_ev ac hR n a) (Ev2.bind (rel_ev ac hR n a) ?_)))
    refine Ev2.iff (fun h1 => one is _ hi (decide_eq_decide.2 (by omega))) fun h1 => one is _ hi (by rw [decide_eq_false]; omega)
  refine Ev1.step (fun k => f_law09_LedgerHold k b n a) (Ev1.bind awake_ev (Ev1.neg rfl (Ev1.bind hac ?_)))
  rw [w64_id (x := n) (by omega)]
  exact Ev1.iff (fun h1 => zero _ (decide_eq_decide.2 (by omega))) fun h1 => zero _ (by rw [decide_eq_false]; omega)
/-! LedgerBack -/
theorem LedgerBack (b : TBook) (ps : List TPair) (q a : Int) (hb : okBook b) (hp : okPs ps) (hq : 0 ≤ q ∧ q ≤ 255) (ha : 0 ≤ a ∧ a ≤ 65535) :
    Ev1 (fun k => CF k sBo n_law09_LedgerBack [inj KBook b, inj (.slice KPair) ps, inj (.int .u8) q, inj (.int .u16) a]) true := by
  obtain ⟨ac, n, hac, hB, hn⟩ := book_ev b hb
  have hR := Rt.of_book hB hn
  obtain ⟨es, hes, hE⟩ := entries_ev ac hR ps hp
  have hlen := hE.len
  have fin : Ev1 (fun k => h_law09_LedgerBack k k q a ac) true := by
    have e1 : w64 (9 + w64 (Int.tmod q 8)) = 9 + q % 8 := by rw [Int.tmod_eq_emod_of_nonneg hq.1, w64_id (x := q % 8) (by omega), w64_id (by omega)]
    refine Ev2.diag (f := fun k m => h_law09_LedgerBack k m q a ac) (Ev2.step (fun k m => h_law09_LedgerBack_s k m q a ac (9 + q % 8) e1.symm) ?_)
    rw [w64_id (x := a) (by omega)]
    refine Ev2.bind (hold_ev ac hR (9 + q % 8) a) ?_
    cases hh : (holdF ac (9 + q % 8) a).2 with
    | some c => exact Ev2.neg rfl (Ev2.now _)
    | none =>
      have hr := rel_ev (holdF ac (9 + q % 8) a).1 (holdF_rt hR hh).1 (9 + q % 8) a
      rw [hold_rel hR hh] at hr
      exact Ev2.pos rfl (Ev2.bind hr (Ev2.pos rfl (Ev2.bind (same_ev ac hR.hi) (Ev2.now _))))
  refine Ev1.step (fun k => f_law09_LedgerBack k b ps q a) (Ev1.bind awake_ev (Ev1.neg rfl (Ev1.bind hac (Ev1.bind hes (Ev1.bind (post_ev ac hR es (by omega)) ?_)))))
  cases hh : (postF ac es).2 with
  | some c => exact Ev1.neg rfl fin
  | none =>
    obtain ⟨p1, p2, p3, p4⟩ := postF_rt hR hh
    obtain ⟨hin, _⟩ := bal_sum ac hR.curs es 0 0 0 p1
    obtain ⟨k1, _, _⟩ := run_kept es ac _ (fun e he => (hin e he).1) p2
    have hEb := (hE.kept k1).back
    have hpb := post_ev (postF ac es).1 p3 (back es) (by have := hEb.len; omega)
    have e2 : postF (postF ac es).1 (back es) = (ac, none) := by
      rw [postF_def (postF ac es).1, hEb.bal p3.curs, run_back es ac _ (fun e he => (hin e he).1) p2]
      unfold finP
      dsimp only [cond_true]
      rw [hR.free]; rfl
    rw [e2] at hpb
    exact Ev1.pos rfl (Ev1.bind (back_ev es (by omega)) (Ev1.bind hpb (Ev1.neg rfl (Ev1.bind (same_ev ac hR.hi) (Ev1.neg rfl fin)))))
/-! Right, and sums -/
theorem right_l (ac : List Acc) (h : Rt ac) : ∀ (d i : Nat), i + d = ac.length → Ev2 (fun k m => h_chart_Right_1 k m ac (ac.length : Int) (i : Int)) true
  | 0, i, hi => Ev2.step (fun k m => h_chart_Right_1_s k m ac (ac.length : Int) (i : Int) _ rfl) (Ev2.negD (by omega) (Ev2.now _))
  | d + 1, i, hi => by
    have hlt : i < ac.length := by omega
    have hhi := h.hi
    have ih := Ev2.drop (right_l ac h d (i + 1) (by omega))
    have ho := h.ok i hlt
    refine Ev2.step (fun k m => h_chart_Right_1_s k m ac (ac.length : Int) (i : Int) ac[i] (getA ac i hlt).symm) (Ev2.posD (by omega) (Ev2.pos (inb_true (by omega) (by omega)) ?_))
    generalize ac[i] = x at ho
    obtain ⟨o1, o2, o3, o4, o5, o6⟩ := ho
    refine Ev2.negD (by omega) (Ev2.negD (by omega) (Ev2.negD (by omega) (Ev2.negD (by omega) (Ev3.diag (f := fun k m1 m => h_chart_Right_2 k m1 m (i : Int) ac (ac.length : Int) (i : Int) x.1 x.2.1 x.2.2) ?_))))
    refine Ev3.step (fun k m1 m => h_chart_Right_2_s k m1 m (i : Int) ac (ac.length : Int) (i : Int) x.1 x.2.1 x.2.2 ((i + 1 : Nat) : Int) (wnat (by omega)).symm) ?_
    by_cases h9 : i < 9
    · obtain ⟨q1, q2⟩ := o5 h9
      have e3 : w64 (Int.tdiv (i : Int) 3) = ((i / 3 : Nat) : Int) := w3 i (by omega)
      exact Ev3.posD (by omega) (Ev3.neg (by rw [e3, q2]; simp) (Ev3.neg (by rw [q1]; rfl) (Ev3.negD (by omega) ih)))
    · obtain ⟨q1, q2⟩ := o6 (by omega)
      exact Ev3.negD (by omega) (Ev3.posD (by omega) (Ev3.negD (by omega) (Ev3.negD (by omega) ih)))
theorem right_ev (ac : List Acc) (h : Rt ac) : Ev1 (fun k => CF k sBo n_chart_Right [inj KA ac]) true := by
  have hlo := h.lo
  have hhi := h.hi
  refine Ev1.step (fun k => f_chart_Right k ac _ rfl) (Ev1.negD (by omega) (Ev1.negD (by omega) (Ev2.diag (f := fun k m => h_chart_Right k m ac) (Ev2.step (fun k m => h_chart_Right_s k m ac) (Ev1.drop (right_l ac h ac.length 0 (by omega)).diag)))))
theorem rsums_ev (ac : List Acc) (h : Rt ac) : Ev1 (fun k => CF k sSm n_chart_Sums [inj KA ac]) (0, 0, 0) := by
  have hhi := h.hi
  have := sums_ev ac (by omega)
  rw [sumW_small 1125899906842624 (by omega) ac 0 0 0 0 (fun a ha => ?_) (by omega) (by omega) (by omega) (by omega), h.sum, h.sum, h.sum] at this
  · exact this
  · obtain ⟨k, hk, rfl⟩ := List.getElem_of_mem ha
    have := h.ok k hk
    exact ⟨this.2.2.1, this.2.2.2.1⟩
/-! LedgerRight -/
section
variable (b : TBook) (L : Nat) (hb : ∃ r : List Acc, Ev1 (fun k => CF k sAs n_law07_Book_Accounts [inj KBook b]) r ∧ r.length = L) (ps : List TPair) (hp : okPs ps) (q a : Int) (hq : 0 ≤ q ∧ q ≤ 255) (ha : 0 ≤ a ∧ a ≤ 65535)
include hq ha in
theorem lr3 (i : Nat) (hi : i < 140737488351232) (x y : List Acc) (hx : Rt x) (h5 : Ev2 (fun k m => h_law09_LedgerRight_5 k m q a x ps (ps.length : Int) ((i + 1 : Nat) : Int) b.1 b.2.1 b.2.2 y) true) :
    Ev3 (fun k m1 m => h_law09_LedgerRight_3 k m1 m q a x ps (ps.length : Int) (i : Int) b.1 b.2.1 b.2.2 y) true := by
  refine Ev3.step (fun k m1 m => h_law09_LedgerRight_3_s k m1 m q a x ps (ps.length : Int) (i : Int) b.1 b.2.1 b.2.2 y) (Ev3.bind (right_ev x hx) (Ev3.neg rfl (Ev3.bind (rsums_ev x hx) (Ev3.neg rfl ?_))))
  rw [wnat (by omega)]
  exact Ev2.drop h5
theorem lr4 (i : Nat) (hi : i < 140737488351232) (y : List Acc) (hy : Rt y) (h6 : Ev2 (fun k m => h_law09_LedgerRight_6 k m q a ps (ps.length : Int) ((i + 1 : Nat) : Int) b.1 b.2.1 b.2.2 y) true) :
    Ev3 (fun k m1 m => h_law09_LedgerRight_4 k m1 m q a ps (ps.length : Int) (i : Int) b.1 b.2.1 b.2.2 y) true := by
  refine Ev3.step (fun k m1 m => h_law09_LedgerRight_4_s k m1 m q a ps (ps.length : Int) (i : Int) b.1 b.2.1 b.2.2 y) (Ev3.bind (right_ev y hy) (Ev3.neg rfl (Ev3.bind (rsums_ev y hy) (Ev3.neg rfl ?_))))
  rw [wnat (by omega)]
  exact Ev2.drop h6
include hq ha in
theorem lr1 (i : Nat) (hi : i < 140737488351232) (x y : List Acc) (hx : Rt x) (hxl : x.length = L) (h5 : ∀ x : List Acc, Rt x → x.length = L → Ev2 (fun k m => h_law09_LedgerRight_5 k m q a x ps (ps.length : Int) ((i + 1 : Nat) : Int) b.1 b.2.1 b.2.2 y) true) :
    Ev3 (fun k m1 m => h_law09_LedgerRight_1 k m1 m q a x ps (ps.length : Int) (i : Int) b.1 b.2.1 b.2.2 y) true := by
  have e1 : w64 (9 + w64 (Int.tmod q 8)) = 9 + q % 8 := by rw [Int.tmod_eq_emod_of_nonneg hq.1, w64_id (x := q % 8) (by omega), w64_id (by omega)]
  refine Ev3.step (fun k m1 m => h_law09_LedgerRight_1_s k m1 m q a x ps (ps.length : Int) (i : Int) b.1 b.2.1 b.2.2 y) ?_
  rw [e1, w64_id (x := a) (by omega)]
  refine Ev3.bind (hold_ev x hx (9 + q % 8) a) ?_
  have go := fun (z : List Acc) (hz : Rt z) (hzl : z.length = L) => Ev2.drop (Ev3.diag (f := fun k m1 m => h_law09_LedgerRight_3 k m1 m q a z ps (ps.length : Int) (i : Int) b.1 b.2.1 b.2.2 y) (lr3 b ps q a hq ha i hi z y hz (h5 z hz hzl)))
  cases hh : (holdF x (9 + q % 8) a).2 with
  | some c => exact Ev3.neg rfl (go x hx hxl)
  | none => exact Ev3.pos rfl (go _ (holdF_rt hx hh).1 ((holdF_rt hx hh).2.trans hxl))
include hq ha in
theorem lr2 (i : Nat) (hi : i < 140737488351232) (y : List Acc) (hy : Rt y) (hyl : y.length = L) (h5 : ∀ x : List Acc, Rt x → x.length = L → Ev2 (fun k m => h_law09_LedgerRight_5 k m q a x ps (ps.length : Int) ((i + 1 : Nat) : Int) b.1 b.2.1 b.2.2 y) true)
    (h6 : Ev2 (fun k m => h_law09_LedgerRight_6 k m q a ps (ps.length : Int) ((i + 1 : Nat) : Int) b.1 b.2.1 b.2.2 y) true) :
    Ev3 (fun k m1 m => h_law09_LedgerRight_2 k m1 m q a ps (ps.length : Int) (i : Int) b.1 b.2.1 b.2.2 y) true := by
  have e1 : w64 (9 + w64 (Int.tmod q 8)) = 9 + q % 8 := by rw [Int.tmod_eq_emod_of_nonneg hq.1, w64_id (x := q % 8) (by omega), w64_id (by omega)]
  refine Ev3.step (fun k m1 m => h_law09_LedgerRight_2_s k m1 m q a ps (ps.length : Int) (i : Int) b.1 b.2.1 b.2.2 y) ?_
  rw [e1, w64_id (x := a) (by omega)]
  refine Ev3.bind (hold_ev y hy (9 + q % 8) a) ?_
  cases hh : (holdF y (9 + q % 8) a).2 with
  | some c => exact Ev3.neg rfl (Ev2.drop (Ev3.diag (f := fun k m1 m => h_law09_LedgerRight_4 k m1 m q a ps (ps.length : Int) (i : Int) b.1 b.2.1 b.2.2 y) (lr4 b ps q a i hi y hy h6)))
  | none => exact Ev3.pos rfl (Ev2.drop (Ev3.diag (f := fun k m1 m => h_law09_LedgerRight_3 k m1 m q a _ ps (ps.length : Int) (i : Int) b.1 b.2.1 b.2.2 y) (lr3 b ps q a hq ha i hi _ y (holdF_rt hy hh).1 (h5 _ (holdF_rt hy hh).1 ((holdF_rt hy hh).2.trans hyl)))))
include hb hp hq ha in
theorem lr5 (y : List Acc) : ∀ (d i : Nat), i + d = ps.length → ∀ x : List Acc, Rt x → x.length = L → Ev2 (fun k m => h_law09_LedgerRight_5 k m q a x ps (ps.length : Int) (i : Int) b.1 b.2.1 b.2.2 y) true
  | 0, i, hi, x, hx, hxl => by
    obtain ⟨r, hr, hrl⟩ := hb
    refine Ev2.step (fun k m => h_law09_LedgerRight_5_s k m q a x ps (ps.length : Int) (i : Int) b.1 b.2.1 b.2.2 y) (Ev2.negD (by omega) (Ev2.bind hr (Ev2.const (congrArg some (decide_eq_true (by omega))))))
  | d + 1, i, hi, x, hx, hxl => by
    have hlt : i < ps.length := by omega
    have hpl := hp.1
    have ih := lr5 y d (i + 1) (by omega)
    have ep : ps.getD (Int.toNat (i : Int)) (0, 0) = ps[i] := by rw [Int.toNat_natCast]; exact getD_at ps i _ hlt
    obtain ⟨es, hes, hE⟩ := entries_ev x hx [ps[i]] ⟨by simp, fun p hm => by rw [List.mem_singleton.1 hm]; exact hp.2 _ (List.getElem_mem hlt)⟩
    have hel := hE.len
    refine Ev2.step (fun k m => h_law09_LedgerRight_5_s k m q a x ps (ps.length : Int) (i : Int) b.1 b.2.1 b.2.2 y) (Ev2.posD (by omega) (Ev2.pos (inb_true (by omega) (by omega)) ?_))
    rw [ep]
    refine Ev2.bind hes (Ev2.bind (post_ev x hx es (by omega)) ?_)
    have go := fun (z : List Acc) (hz : Rt z) (hzl : z.length = L) => Ev3.diag (f := fun k m1 m => h_law09_LedgerRight_1 k m1 m q a z ps (ps.length : Int) (i : Int) b.1 b.2.1 b.2.2 y) (lr1 b L ps q a hq ha i (by omega) z y hz hzl ih)
    cases hh : (postF x es).2 with
    | some c => exact Ev2.neg rfl (go x hx hxl)
    | none => exact Ev2.pos rfl (go _ (postF_rt hx hh).2.2.1 ((postF_rt hx hh).2.2.2.trans hxl))
include hb hp hq ha in
theorem lr6 (y : List Acc) (hy : Rt y) (hyl : y.length = L) : ∀ (d i : Nat), i + d = ps.length → Ev2 (fun k m => h_law09_LedgerRight_6 k m q a ps (ps.length : Int) (i : Int) b.1 b.2.1 b.2.2 y) true
  | 0, i, hi => by
    obtain ⟨r, hr, hrl⟩ := hb
    refine Ev2.step (fun k m => h_law09_LedgerRight_6_s k m q a ps (ps.length : Int) (i : Int) b.1 b.2.1 b.2.2 y) (Ev2.negD (by omega) (Ev2.bind hr (Ev2.const (congrArg some (decide_eq_true (by omega))))))
  | d + 1, i, hi => by
    have hlt : i < ps.length := by omega
    have hpl := hp.1
    have i5 := lr5 b L hb ps hp q a hq ha y d (i + 1) (by omega)
    have i6 := lr6 y hy hyl d (i + 1) (by omega)
    have ep : ps.getD (Int.toNat (i : Int)) (0, 0) = ps[i] := by rw [Int.toNat_natCast]; exact getD_at ps i _ hlt
    obtain ⟨es, hes, hE⟩ := entries_ev y hy [ps[i]] ⟨by simp, fun p hm => by rw [List.mem_singleton.1 hm]; exact hp.2 _ (List.getElem_mem hlt)⟩
    have hel := hE.len
    refine Ev2.step (fun k m => h_law09_LedgerRight_6_s k m q a ps (ps.length : Int) (i : Int) b.1 b.2.1 b.2.2 y) (Ev2.posD (by omega) (Ev2.pos (inb_true (by omega) (by omega)) ?_))
    rw [ep]
    refine Ev2.bind hes (Ev2.bind (post_ev y hy es (by omega)) ?_)
    cases hh : (postF y es).2 with
    | some c => exact Ev2.neg rfl (Ev3.diag (f := fun k m1 m => h_law09_LedgerRight_2 k m1 m q a ps (ps.length : Int) (i : Int) b.1 b.2.1 b.2.2 y) (lr2 b L ps q a hq ha i (by omega) y hy hyl i5 i6))
    | none => exact Ev2.pos rfl (Ev3.diag (f := fun k m1 m => h_law09_LedgerRight_1 k m1 m q a _ ps (ps.length : Int) (i : Int) b.1 b.2.1 b.2.2 y) (lr1 b L ps q a hq ha i (by omega) _ y (postF_rt hy hh).2.2.1 ((postF_rt hy hh).2.2.2.trans hyl) i5))
end
theorem LedgerRight (b : TBook) (ps : List TPair) (q a : Int) (hb : okBook b) (hp : okPs ps) (hq : 0 ≤ q ∧ q ≤ 255) (ha : 0 ≤ a ∧ a ≤ 65535) :
    Ev1 (fun k => CF k sBo n_law09_LedgerRight [inj KBook b, inj (.slice KPair) ps, inj (.int .u8) q, inj (.int .u16) a]) true := by
  obtain ⟨ac, n, hac, hB, hn⟩ := book_ev b hb
  have hR := Rt.of_book hB hn
  have hbb : ∃ r : List Acc, Ev1 (fun k => CF k sAs n_law07_Book_Accounts [inj KBook b]) r ∧ r.length = ac.length := ⟨ac, hac, rfl⟩
  have hpl := hp.1
  refine Ev1.step (fun k => f_law09_LedgerRight k b ps q a) (Ev1.bind awake_ev (Ev1.neg rfl (Ev1.bind hac ?_)))
  refine Ev2.diag (f := fun k m => h_law09_LedgerRight k m q a ps (ps.length : Int) 0 b.1 b.2.1 b.2.2 ac) ?_
  refine Ev2.step (fun k m => h_law09_LedgerRight_s k m q a ps (ps.length : Int) 0 b.1 b.2.1 b.2.2 ac) ?_
  by_cases h0 : ps.length = 0
  · exact Ev2.negD (by omega) (Ev2.bind hac (Ev2.const (congrArg some (decide_eq_true rfl))))
  · have i5 := lr5 b ac.length hbb ps hp q a hq ha ac (ps.length - 1) (0 + 1) (by omega)
    have i6 := lr6 b ac.length hbb ps hp q a hq ha ac hR rfl (ps.length - 1) (0 + 1) (by omega)
    have hlt : 0 < ps.length := by omega
    have ep : ps.getD (Int.toNat 0) (0, 0) = ps[0] := getD_at ps 0 _ hlt
    obtain ⟨es, hes, hE⟩ := entries_ev ac hR [ps[0]] ⟨by simp, fun p hm => by rw [List.mem_singleton.1 hm]; exact hp.2 _ (List.getElem_mem hlt)⟩
    have hel := hE.len
    refine Ev2.posD (by omega) (Ev2.pos (inb_true (by omega) (by omega)) ?_)
    rw [ep]
    refine Ev2.bind hes (Ev2.bind (post_ev ac hR es (by omega)) ?_)
    cases hh : (postF ac es).2 with
    | some c => exact Ev2.neg rfl (Ev3.diag (f := fun k m1 m => h_law09_LedgerRight_2 k m1 m q a ps (ps.length : Int) ((0 : Nat) : Int) b.1 b.2.1 b.2.2 ac) (lr2 b ac.length ps q a hq ha 0 (by omega) ac hR rfl i5 i6))
    | none => exact Ev2.pos rfl (Ev3.diag (f := fun k m1 m => h_law09_LedgerRight_1 k m1 m q a _ ps (ps.length : Int) ((0 : Nat) : Int) b.1 b.2.1 b.2.2 ac) (lr1 b ac.length ps q a hq ha 0 (by omega) _ ac (postF_rt hR hh).2.2.1 (postF_rt hR hh).2.2.2 i5))
/-! LedgerSpend -/
def spendF (ac : List Acc) (a : Int) (es : List En) : List Acc × Option Int :=
  match es with
  | [] => ([], some 13)
  | e :: _ => match relF ac e.1 a with
    | (o, none) => postF o es
    | (_, some c) => ([], some c)
theorem spend_ev (ac : List Acc) (h : Rt ac) (a : Int) (es : List En) (hl : es.length ≤ 140737488351232) : Ev1 (fun k => CF k sAe n_ledger_Spend [inj KA ac, inj I a, inj KEs es]) (spendF ac a es) := by
  refine Ev1.step (fun k => f_ledger_Spend k ac a es) ?_
  cases es with
  | nil => exact Ev1.posD rfl (Ev1.now _)
  | cons e r =>
    refine Ev1.negD (by simp only [List.length_cons]; omega) (Ev1.pos (inb_true (by omega) (by simp only [List.length_cons]; omega)) (Ev1.bind (rel_ev ac h e.1 a) ?_))
    show Ev1 _ (match relF ac e.1 a with | (o, none) => postF o (e :: r) | (_, some c) => ([], some c))
    have hr := relF_rt h (n := e.1) (a := a)
    generalize relF ac e.1 a = w at hr
    obtain ⟨o, g⟩ := w
    cases g with
    | some c => exact Ev1.pos rfl (Ev1.now _)
    | none => exact Ev1.neg rfl (Ev1.bind (post_ev o (hr rfl).1 (e :: r) hl) (Ev1.now _))
theorem move_cases (ac : List Acc) (f t n : Int) : (∃ c, moveF ac f t n = ([], some c)) ∨ ∃ v r, moveF ac f t n = ((f, v) :: r, none) ∧ r.length ≤ 3 := by
  unfold moveF
  split
  · split
    · exact .inl ⟨_, rfl⟩
    · split
      · exact .inr ⟨_, _, rfl, by simp⟩
      · split
        · exact .inl ⟨_, rfl⟩
        · split
          · exact .inl ⟨_, rfl⟩
          · exact .inr ⟨_, _, rfl, by simp⟩
  · exact .inl ⟨_, rfl⟩
theorem LedgerSpend (b : TBook) (f t a l : Int) (hb : okBook b) (hf : 0 ≤ f ∧ f ≤ 255) (ht : 0 ≤ t ∧ t ≤ 255) (ha : 0 ≤ a ∧ a ≤ 65535) (hl : 0 ≤ l ∧ l ≤ 65535) :
    Ev1 (fun k => CF k sBo n_law09_LedgerSpend [inj KBook b, inj (.int .u8) f, inj (.int .u8) t, inj (.int .u16) a, inj (.int .u16) l]) true := by
  obtain ⟨ac, n, hac, hB, hn⟩ := book_ev b hb
  have hR := Rt.of_book hB hn
  have hlo := hR.lo
  have hhi := hR.hi
  refine Ev1.step (fun k => f_law09_LedgerSpend k b f t a l) (Ev1.bind awake_ev (Ev1.neg rfl (Ev1.bind hac (Ev1.pos (by rw [decide_eq_false (by omega)]; rfl) (Ev1.pos (by rw [decide_eq_false (by omega)]; rfl) ?_)))))
  rw [w64_id (x := f) (by omega), w64_id (x := t) (by omega), w64_id (x := a) (by omega), w64_id (x := l) (by omega)]
  generalize Int.tmod f (ac.length : Int) = i
  generalize Int.tmod t (ac.length : Int) = j
  refine Ev1.bind (move_ev ac hR.curs i j a) ?_
  rcases move_cases ac i j a with ⟨c, e⟩ | ⟨v, r, e, hr⟩
  · rw [e]
    exact Ev1.bind (spend_ev ac hR l [] (by simp)) (Ev1.pos rfl (Ev1.posD rfl (Ev1.bind (num_ev (some 13)) (Ev1.now _))))
  · rw [e]
    refine Ev1.bind (spend_ev ac hR l ((i, v) :: r) (by simp only [List.length_cons]; omega)) (Ev1.neg rfl (Ev1.bind (rel_ev ac hR i l) ?_))
    show Ev1 (fun k => (bif (relF ac i l).2.isSome then _ else _)) true
    have es : spendF ac l ((i, v) :: r) = match relF ac i l with | (o, none) => postF o ((i, v) :: r) | (_, some c) => ([], some c) := rfl
    rw [es]
    have hrl := relF_rt hR (n := i) (a := l)
    generalize relF ac i l = w at hrl
    obtain ⟨o, g⟩ := w
    cases g with
    | some c => exact Ev1.pos rfl (Ev1.posD rfl (Ev1.bind (num_ev (some c)) (Ev1.bind (num_ev (some c)) (Ev1.const (congrArg some (decide_eq_true rfl))))))
    | none =>
      have ho := (hrl rfl).1
      refine Ev1.neg rfl (Ev1.bind (lpost_ev o ho ((i, v) :: r) (by simp only [List.length_cons]; omega)) (Ev1.bind (same_ev (postF o ((i, v) :: r)).1 (postF_len ho _)) (Ev1.pos rfl (Ev1.bind (num_ev (postF o ((i, v) :: r)).2) (Ev1.const (congrArg some (decide_eq_true rfl)))))))
end Go.Eng.Led
