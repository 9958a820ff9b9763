/- The laws of layer 23. Conditions: the statements' own. -/
import Derived.Test.YtfkiapjkeopgfaaPScrQ
set_option linter.all false
set_option linter.unusedVariables false
set_option linter.unusedSimpArgs false
set_option linter.deprecated false
namespace Go.Eng.Scr
open Go.RowKit Go.Eng
set_option maxRecDepth 100000
set_option maxHeartbeats 1000000
abbrev sBo : Sig := ⟨[(false, .bool)], []⟩
abbrev BB : K := .slice (.int .u8)
abbrev sAct : Sig := ⟨[(false, KAct)], []⟩
abbrev sActs : Sig := ⟨[(false, .slice KAct)], []⟩
theorem awake_ev : Ev1 (fun k => CF k sBo n_law23_awake []) true := Ev1.of_rfl 20 (fun k => by kernel_rfl)
def zR : TRequest := (0, 0, 0, 0, 0, 0, 0)
/-- A request's parts by a key and six bytes. -/
def oneR (n a1 a2 a3 a4 a5 : Int) : TRequest :=
  (n, a1 % 8, (if a1 % 8 = 0 then a2 % 3 else if 4 ≤ a1 % 8 then a2 % 4 else 9 + a2 % 6), 9 + a3 % 6, 1 + a4 * 7, (if a1 % 8 = 2 then a5 % 4 else 0), (if a1 % 8 = 3 then 1 + a5 % 8 else 0))
def oneF (a0 a1 a2 a3 a4 a5 n : Int) : TAct :=
  if a0 % 12 = 0 then (1, zR, a1, false)
  else if a0 % 12 < 4 then (2, zR, a1, decide (0 < a2 % 4))
  else if a0 % 12 = 4 then (3, zR, 0, false)
  else if a0 % 12 = 5 then (if 0 < a1 % 4 then (4, zR, 0, false) else (5, zR, a2 % 4, false))
  else (0, oneR n a1 a2 a3 a4 a5, 0, false)
theorem tm {x d : Int} (h : 0 ≤ x) : Int.tmod x d = x % d := Int.tmod_eq_emod_of_nonneg h
theorem one_eq (a0 a1 a2 a3 a4 a5 n : Int) (h0 : 0 ≤ a0 ∧ a0 ≤ 255) (h1 : 0 ≤ a1 ∧ a1 ≤ 255) (h2 : 0 ≤ a2 ∧ a2 ≤ 255) (h3 : 0 ≤ a3 ∧ a3 ≤ 255) (h4 : 0 ≤ a4 ∧ a4 ≤ 255) (h5 : 0 ≤ a5 ∧ a5 ≤ 255) :
    Ev1 (fun k => CF k sAct n_script_one [inj BB [a0, a1, a2, a3, a4, a5], inj (.int .i64) n]) (oneF a0 a1 a2 a3 a4 a5 n) := by
  refine Ev1.step (fun k => f_script_one k [a0, a1, a2, a3, a4, a5] n a2 rfl a1 rfl a5 rfl (a2 % 4) (tm h2.1).symm (a0 % 12) (tm h0.1).symm (a1 % 4) (tm h1.1).symm (a1 % 8) ?_ (9 + a3 % 6) ?_ (9 + a2 % 6) ?_ (1 + a4 * 7) ?_ _ rfl _ rfl _ rfl _ rfl _ rfl _ rfl _ rfl) (Ev1.const ?_)
  · rw [tm h1.1, w64_id (by omega)]
  · show _ = w64 (9 + w64 (Int.tmod a3 6)); rw [tm h3.1, w64_id (x := a3 % 6) (by omega), w64_id (by omega)]
  · show _ = w64 (9 + w64 (Int.tmod a2 6)); rw [tm h2.1, w64_id (x := a2 % 6) (by omega), w64_id (by omega)]
  · show _ = w64 (1 + w64 (w64 a4 * 7)); rw [w64_id (x := a4) (by omega), w64_id (x := a4 * 7) (by omega), w64_id (by omega)]
  rw [tm h2.1, tm h5.1, tm h5.1, w64_id (x := a1) (by omega), w64_id (x := a2 % 4) (by omega), w64_id (x := a2 % 3) (by omega), w64_id (x := a5 % 4) (by omega), w64_id (x := a5 % 8) (by omega), w64_id (x := 1 + a5 % 8) (by omega)]
  have q0 : inb 0 [a0, a1, a2, a3, a4, a5].length = true := rfl
  have q1 : inb 1 [a0, a1, a2, a3, a4, a5].length = true := rfl
  have q2 : inb 2 [a0, a1, a2, a3, a4, a5].length = true := rfl
  have q3 : inb 3 [a0, a1, a2, a3, a4, a5].length = true := rfl
  have q4 : inb 4 [a0, a1, a2, a3, a4, a5].length = true := rfl
  have q5 : inb 5 [a0, a1, a2, a3, a4, a5].length = true := rfl
  simp only [q0, q1, q2, q3, q4, q5, cond_true]
  clear q0 q1 q2 q3 q4 q5
  have hb : 0 ≤ a0 % 12 ∧ a0 % 12 < 12 := by omega
  have hc : 0 ≤ a1 % 8 ∧ a1 % 8 < 8 := by omega
  have hd : 0 ≤ a1 % 4 := by omega
  unfold oneF oneR zR
  generalize a0 % 12 = m at hb ⊢
  generalize a1 % 8 = o at hc ⊢
  generalize a1 % 4 = u at hd ⊢
  rcases (by omega : m = 0 ∨ m = 1 ∨ m = 2 ∨ m = 3 ∨ m = 4 ∨ m = 5 ∨ 6 ≤ m) with rfl | rfl | rfl | rfl | rfl | rfl | h
  · rfl
  · rfl
  · rfl
  · rfl
  · rfl
  · by_cases hu : 0 < u
    · simp [hu]
    · simp [hu]
  · rw [if_neg (by omega), if_neg (by omega), if_neg (by omega), if_neg (by omega)]
    simp only [decide_eq_false (show ¬ m = 0 by omega), decide_eq_false (show ¬ m = 1 by omega), decide_eq_false (show ¬ m = 2 by omega), decide_eq_false (show ¬ m = 3 by omega), decide_eq_false (show ¬ m = 4 by omega), decide_eq_false (show ¬ m = 5 by omega), cond_false]
    rcases (by omega : o = 0 ∨ o = 1 ∨ o = 2 ∨ o = 3 ∨ o = 4 ∨ o = 5 ∨ o = 6 ∨ o = 7) with rfl | rfl | rfl | rfl | rfl | rfl | rfl | rfl <;> rfl
/-- The act of bytes at a place. -/
def actAt (b : List Int) (i : Nat) (n : Int) : TAct := oneF (b.getD (6 * i) 0) (b.getD (6 * i + 1) 0) (b.getD (6 * i + 2) 0) (b.getD (6 * i + 3) 0) (b.getD (6 * i + 4) 0) (b.getD (6 * i + 5) 0) n
def acts (b : List Int) : List TAct := (List.range (b.length / 6)).map fun i => actAt b i (i : Int)
theorem acts_len (b : List Int) : (acts b).length = b.length / 6 := by simp [acts]
theorem getD_drop (b : List Int) (m j : Nat) : (b.drop m).getD j 0 = b.getD (m + j) 0 := by
  rw [List.getD_eq_getElem?_getD, List.getD_eq_getElem?_getD, List.getElem?_drop]
theorem six (b : List Int) (h : 6 ≤ b.length) : b.take 6 = [b.getD 0 0, b.getD 1 0, b.getD 2 0, b.getD 3 0, b.getD 4 0, b.getD 5 0] := by
  rcases b with _ | ⟨a0, _ | ⟨a1, _ | ⟨a2, _ | ⟨a3, _ | ⟨a4, _ | ⟨a5, r⟩⟩⟩⟩⟩⟩ <;> first | rfl | (simp at h)
theorem byt_get {b : List Int} (h : Byt b) (i : Nat) : 0 ≤ b.getD i 0 ∧ b.getD i 0 ≤ 255 := by
  rw [List.getD_eq_getElem?_getD]
  cases hq : b[i]? with
  | none => simp
  | some y => exact h y (List.mem_of_getElem? hq)
theorem acts_l (b : List Int) (hb : Byt b) (hl : b.length ≤ 4000000) : ∀ (d i : Nat), i + d = b.length / 6 → Ev2 (fun k m => h_script_Acts k m (b.drop (6 * i)) ((List.range i).map fun j => actAt b j (j : Int))) (acts b) := by
  intro d
  induction d with
  | zero =>
    intro i hi
    refine Ev2.step (fun k m => h_script_Acts_s k m (b.drop (6 * i)) _ _ rfl) (Ev2.negD (by rw [List.length_drop]; omega) ?_)
    rw [show i = b.length / 6 by omega]
    exact Ev2.now _
  | succ d ih =>
    intro i hi
    have hle : 6 * i + 6 ≤ b.length := by omega
    have hd : (6 : Int) ≤ ((b.drop (6 * i)).length : Int) := by rw [List.length_drop]; omega
    refine Ev2.step (fun k m => h_script_Acts_s k m (b.drop (6 * i)) _ _ rfl) (Ev2.posD hd (Ev2.posD hd ?_))
    rw [six (b.drop (6 * i)) (by omega)]
    simp only [getD_drop, Nat.add_zero, List.length_map, List.length_range]
    refine Ev2.bind (one_eq _ _ _ _ _ _ (i : Int) (byt_get hb _) (byt_get hb _) (byt_get hb _) (byt_get hb _) (byt_get hb _) (byt_get hb _)) (Ev2.posD (by simp only [List.length_cons, List.length_nil]; omega) (Ev2.posD hd ?_))
    have e1 : (b.drop (6 * i)).drop 6 = b.drop (6 * (i + 1)) := by rw [List.drop_drop, Nat.mul_succ]
    have e2 : (List.range i).map (fun j => actAt b j (j : Int)) ++ [actAt b i (i : Int)] = (List.range (i + 1)).map fun j => actAt b j (j : Int) := by
      rw [List.range_succ, List.map_append]; rfl
    rw [e1]
    have := ih (i + 1) (by omega)
    rw [← e2] at this
    exact this
theorem acts_ev (b : List Int) (hb : Byt b) (hl : b.length ≤ 4000000) : Ev1 (fun k => CF k sActs n_script_Acts [inj BB b]) (acts b) :=
  Ev1.step (fun k => f_script_Acts k b) (Ev2.diag (f := fun k m => h_script_Acts k m b []) (acts_l b hb hl (b.length / 6) 0 (by omega)))
/-! ScriptKinds -/
theorem ScriptKinds (n s : Int) (hn : 0 ≤ n ∧ n ≤ 255) (hs : 0 ≤ s ∧ s ≤ 255) : Ev1 (fun k => CF k sBo n_law23_ScriptKinds [inj (.int .u8) n, inj (.int .u8) s]) true := by
  have hA := acts_ev [n, s, 1, 1, 1, 1] (by intro y hy; simp only [List.mem_cons, List.not_mem_nil, or_false] at hy; omega) (by simp)
  have hB := acts_ev [n, s, 1, 1, 1] (by intro y hy; simp only [List.mem_cons, List.not_mem_nil, or_false] at hy; omega) (by simp)
  have eA : acts [n, s, 1, 1, 1, 1] = [oneF n s 1 1 1 1 0] := by
    unfold acts actAt
    rw [show [n, s, 1, 1, 1, 1].length / 6 = 1 by simp]
    rfl
  have eB : acts [n, s, 1, 1, 1] = [] := by
    unfold acts
    rw [show [n, s, 1, 1, 1].length / 6 = 0 by simp]
    rfl
  rw [eA] at hA
  rw [eB] at hB
  have hm : 0 ≤ n % 12 ∧ n % 12 < 12 := by omega
  refine Ev1.step (fun k => f_law23_ScriptKinds k n s (n % 12) (tm hn.1).symm _ rfl _ rfl) (Ev1.bind awake_ev (Ev1.neg rfl (Ev1.bind hA (Ev1.neg rfl (Ev1.pos (inb_true (by omega) (by omega)) ?_)))))
  rw [tm hs.1]
  have hi0 : inb (0 : Int) [oneF n s 1 1 1 1 0].length = true := rfl
  have fin : Ev1 (fun k => (CF k sActs n_script_Acts [inj BB [n, s, 1, 1, 1]]).bind fun (r_2 : List TAct) => some (decide ((r_2.length : Int) = 0))) true := Ev1.bind hB (Ev1.now _)
  have e0 : ([oneF n s 1 1 1 1 0] : List TAct).getD 0 ((0 : Int), ((0 : Int), (0 : Int), (0 : Int), (0 : Int), (0 : Int), (0 : Int), (0 : Int)), (0 : Int), false) = oneF n s 1 1 1 1 0 := rfl
  have k5 : n % 12 = 5 → ¬ 0 < s % 4 → (oneF n s 1 1 1 1 0).1 = 5 := by intro h h'; unfold oneF; rw [if_neg (by omega), if_neg (by omega), if_neg (by omega), if_pos h, if_neg h']
  have kn : ¬ (n % 12 = 5 ∧ s % 4 = 0) → (oneF n s 1 1 1 1 0).1 = [(1 : Int), 2, 2, 2, 3, 4, 0, 0, 0, 0, 0, 0].getD (Int.toNat (n % 12)) 0 := by
    intro h
    have hs4 : 0 ≤ s % 4 := by omega
    unfold oneF
    generalize n % 12 = m at hm h ⊢
    generalize s % 4 = u at h hs4 ⊢
    rcases (by omega : m = 0 ∨ m = 1 ∨ m = 2 ∨ m = 3 ∨ m = 4 ∨ m = 5 ∨ m = 6 ∨ m = 7 ∨ m = 8 ∨ m = 9 ∨ m = 10 ∨ m = 11) with rfl | rfl | rfl | rfl | rfl | rfl | rfl | rfl | rfl | rfl | rfl | rfl <;> first | rfl | (rw [if_neg (by omega), if_neg (by omega), if_neg (by omega), if_pos rfl, if_pos (by omega)]; rfl)
  by_cases c5 : n % 12 = 5
  · refine Ev1.posD c5 ?_
    by_cases c0 : s % 4 = 0
    · exact Ev1.posD c0 (Ev1.pos hi0 (Ev1.posD (k5 c5 (by omega)) fin))
    · exact Ev1.negD c0 (Ev1.pos hi0 (Ev1.posD (kn (by omega)) fin))
  · exact Ev1.negD c5 (Ev1.pos hi0 (Ev1.posD (kn (by omega)) fin))
/-! the same act twice: its parts one by one -/
theorem same_act (x y : TAct) (h : x = y) : (!(decide (x.1 = y.1) && (decide (x.2.1.1 = y.2.1.1) && (decide (x.2.1.2.1 = y.2.1.2.1) && (decide (x.2.1.2.2.1 = y.2.1.2.2.1) && (decide (x.2.1.2.2.2.1 = y.2.1.2.2.2.1) && (decide (x.2.1.2.2.2.2.1 = y.2.1.2.2.2.2.1) && (decide (x.2.1.2.2.2.2.2.1 = y.2.1.2.2.2.2.2.1) && (decide (x.2.1.2.2.2.2.2.2 = y.2.1.2.2.2.2.2.2) && (decide (x.2.2.1 = y.2.2.1) && ((x.2.2.2 == y.2.2.2) && true))))))))))) = false := by
  subst h; simp
theorem acts_at (b : List Int) (i : Nat) (h : i < (acts b).length) (d : TAct) : (acts b).getD (Int.toNat (i : Int)) d = actAt b i (i : Int) := by
  rw [Int.toNat_natCast, getD_at _ _ _ h]
  simp [acts]
theorem getD_app_l (a r : List Int) (j : Nat) (h : j < a.length) : (a ++ r).getD j 0 = a.getD j 0 := by
  rw [List.getD_eq_getElem?_getD, List.getD_eq_getElem?_getD, List.getElem?_append_left h]
theorem getD_app_r (a r : List Int) (j : Nat) : (a ++ r).getD (a.length + j) 0 = r.getD j 0 := by
  rw [List.getD_eq_getElem?_getD, List.getD_eq_getElem?_getD, List.getElem?_append_right (by omega)]; simp
theorem actAt_l (a r : List Int) (i : Nat) (n : Int) (h : 6 * i + 6 ≤ a.length) : actAt (a ++ r) i n = actAt a i n := by
  unfold actAt
  rw [getD_app_l _ _ _ (by omega), getD_app_l _ _ _ (by omega), getD_app_l _ _ _ (by omega), getD_app_l _ _ _ (by omega), getD_app_l _ _ _ (by omega), getD_app_l _ _ _ (by omega)]
theorem actAt_r (a r : List Int) (q j : Nat) (n : Int) (h : a.length = 6 * q) : actAt (a ++ r) (q + j) n = actAt r j n := by
  unfold actAt
  rw [show 6 * (q + j) = a.length + 6 * j by omega, getD_app_r]
  rw [Nat.add_assoc, getD_app_r, Nat.add_assoc, getD_app_r, Nat.add_assoc, getD_app_r, Nat.add_assoc, getD_app_r, Nat.add_assoc, getD_app_r]
theorem len6 (a : List Int) : w64 (w64 (Int.tdiv (a.length : Int) 6) * 6) = ((a.length / 6 * 6 : Nat) : Int) ∨ 4000000 < a.length := by
  by_cases h : 4000000 < a.length
  · exact .inr h
  · left
    rw [Int.tdiv_eq_ediv_of_nonneg (by omega), w64_id (x := (a.length : Int) / 6) (by omega), w64_id (by omega)]; omega
/-! ScriptTail -/
theorem tail_l (a r : List Int) (q : Nat) (ha : a.length = 6 * q) (hr : r.length < 6) (hq : q ≤ 4000000) : ∀ (d i : Nat), i + d = q →
    Ev2 (fun k m => h_law23_ScriptTail k m (acts a) (acts (a ++ r)) ((acts a).length : Int) (i : Int)) true := by
  intro d
  have h1 : (acts a).length = q := by rw [acts_len]; omega
  have h2 : (acts (a ++ r)).length = q := by rw [acts_len, List.length_append]; omega
  induction d with
  | zero => intro i hi; exact Ev2.step (fun k m => h_law23_ScriptTail_s k m (acts a) (acts (a ++ r)) _ (i : Int) _ rfl _ rfl _ rfl _ rfl) (Ev2.negD (by omega) (Ev2.now _))
  | succ d ih =>
    intro i hi
    refine Ev2.step (fun k m => h_law23_ScriptTail_s k m (acts a) (acts (a ++ r)) _ (i : Int) _ (acts_at a i (by omega) _).symm _ (acts_at (a ++ r) i (by omega) _).symm _ rfl _ rfl) (Ev2.posD (by omega) (Ev2.pos (inb_true (by omega) (by omega)) (Ev2.pos (inb_true (by omega) (by omega)) (Ev2.neg ?_ ?_))))
    · exact same_act _ _ (actAt_l a r i _ (by omega)).symm
    · rw [wnat (by omega)]; exact ih (i + 1) (by omega)
theorem ScriptTail (b t : List Int) (hb : Byt b) (ht : Byt t) (hl : b.length ≤ 1048576) (htl : t.length ≤ 140737488351232) : Ev1 (fun k => CF k sBo n_law23_ScriptTail [inj BB b, inj BB t]) true := by
  obtain ⟨q, hq, hq1⟩ : ∃ q : Nat, minI (t.length : Int) 5 = (q : Int) ∧ q = min t.length 5 := by
    unfold minI
    by_cases h : (5 : Int) < t.length
    · rw [decide_eq_true h, cond_true]; exact ⟨5, rfl, by omega⟩
    · rw [decide_eq_false h, cond_false]; exact ⟨t.length, rfl, by omega⟩
  have e5 : w64 (w64 (Int.tdiv (b.length : Int) 6) * 6) = ((b.length / 6 * 6 : Nat) : Int) := (len6 b).resolve_right (by omega)
  have hal : (b.take (b.length / 6 * 6)).length = 6 * (b.length / 6) := by rw [List.length_take]; omega
  have hrl : (t.take q).length < 6 := by rw [List.length_take]; omega
  have hA := acts_ev (b.take (b.length / 6 * 6)) (hb.take _) (by omega)
  have hB := acts_ev (b.take (b.length / 6 * 6) ++ t.take q) (Byt.append (hb.take _) (ht.take _)) (by rw [List.length_append]; omega)
  refine Ev1.step (fun k => f_law23_ScriptTail k b t _ rfl _ rfl (q : Int) hq.symm (t.take q) (by rw [Int.toNat_natCast]) _ e5.symm (b.take (b.length / 6 * 6)) (by rw [Int.toNat_natCast])) (Ev1.bind awake_ev (Ev1.neg rfl (Ev1.pos (and2 (by omega) (by omega)) (Ev1.bind hA (Ev1.posD (by omega) (Ev1.pos (and2 (by omega) (by omega)) (Ev1.posD (by omega) (Ev1.bind hB (Ev1.neg ?_ ?_)))))))))
  · rw [acts_len, acts_len, List.length_append, decide_eq_true (by omega)]; rfl
  · exact Ev2.diag (f := fun k m => h_law23_ScriptTail k m (acts (b.take (b.length / 6 * 6))) (acts (b.take (b.length / 6 * 6) ++ t.take q)) _ 0) (tail_l _ _ (b.length / 6) hal hrl (by omega) (b.length / 6) 0 (by omega))
/-! ScriptParts -/
theorem oneF_key (a0 a1 a2 a3 a4 a5 n m : Int) : (oneF a0 a1 a2 a3 a4 a5 n).1 = 0 → oneF a0 a1 a2 a3 a4 a5 m = (0, ((m, (oneF a0 a1 a2 a3 a4 a5 n).2.1.2) : TRequest), (oneF a0 a1 a2 a3 a4 a5 n).2.2) ∧ (oneF a0 a1 a2 a3 a4 a5 n).2.1.1 = n := by
  unfold oneF
  intro h
  split at h
  · cases h
  · split at h
    · cases h
    · split at h
      · cases h
      · split at h
        · split at h <;> cases h
        · rename_i h1 h2 h3 h4
          rw [if_neg h1, if_neg h2, if_neg h3, if_neg h4]
          exact ⟨by rw [if_neg h1, if_neg h2, if_neg h3, if_neg h4]; rfl, by rw [if_neg h1, if_neg h2, if_neg h3, if_neg h4]; rfl⟩
theorem oneF_non (a0 a1 a2 a3 a4 a5 n m : Int) : ¬ (oneF a0 a1 a2 a3 a4 a5 n).1 = 0 → oneF a0 a1 a2 a3 a4 a5 m = oneF a0 a1 a2 a3 a4 a5 n := by
  unfold oneF
  intro h
  split
  · rfl
  · split
    · rfl
    · split
      · rfl
      · split
        · rfl
        · rename_i h1 h2 h3 h4
          rw [if_neg h1, if_neg h2, if_neg h3, if_neg h4] at h
          exact (h rfl).elim
theorem parts_l (a b : List Int) (q : Nat) (ha : a.length = 6 * q) (hq : q ≤ 4000000) (hl : b.length ≤ 4000000) : ∀ (d i : Nat), i + d = q + b.length / 6 →
    Ev2 (fun k m => h_law23_ScriptParts k m (acts a) (acts b) (acts (a ++ b)) ((acts (a ++ b)).length : Int) (i : Int)) true := by
  intro d
  have h1 : (acts a).length = q := by rw [acts_len]; omega
  have h2 : (acts b).length = b.length / 6 := acts_len b
  have h3 : (acts (a ++ b)).length = q + b.length / 6 := by rw [acts_len, List.length_append]; omega
  induction d with
  | zero => intro i hi; exact Ev2.step (fun k m => h_law23_ScriptParts_s k m (acts a) (acts b) (acts (a ++ b)) _ (i : Int) _ rfl _ rfl _ rfl _ rfl _ rfl _ rfl _ rfl _ rfl _ rfl _ rfl _ rfl) (Ev2.negD (by omega) (Ev2.now _))
  | succ d ih =>
    intro i hi
    by_cases hi1 : i < q
    · refine Ev2.step (fun k m => h_law23_ScriptParts_s k m (acts a) (acts b) (acts (a ++ b)) _ (i : Int) ((i + 1 : Nat) : Int) (wnat (by omega)).symm _ rfl _ rfl _ (acts_at a i (by omega) _).symm _ (acts_at (a ++ b) i (by omega) _).symm _ rfl _ rfl _ rfl _ rfl _ rfl _ rfl) (Ev2.posD (by omega) (Ev2.posD (by omega) (Ev2.pos (inb_true (by omega) (by omega)) (Ev2.pos (inb_true (by omega) (by omega)) (Ev2.neg ?_ (ih (i + 1) (by omega)))))))
      exact same_act _ _ (actAt_l a b i _ (by omega))
    · obtain ⟨j, rfl⟩ : ∃ j, i = q + j := ⟨i - q, by omega⟩
      have ej : w64 (((q + j : Nat) : Int) - ((acts a).length : Int)) = (j : Int) := by rw [w64_id (by omega)]; omega
      have hz := actAt_r a b q j ((q + j : Nat) : Int) ha
      refine Ev2.step (fun k m => h_law23_ScriptParts_s k m (acts a) (acts b) (acts (a ++ b)) _ ((q + j : Nat) : Int) ((q + j + 1 : Nat) : Int) (wnat (by omega)).symm _ rfl (j : Int) ej.symm _ rfl (actAt b j ((q + j : Nat) : Int)) ((acts_at (a ++ b) (q + j) (by omega) _).trans hz).symm (actAt b j (j : Int)) (acts_at b j (by omega) _).symm _ rfl _ rfl _ rfl _ rfl _ rfl) (Ev2.posD (by omega) (Ev2.negD (by omega) (Ev2.pos (inb_true (by omega) (by omega)) ?_)))
      by_cases hk : (actAt b j (j : Int)).1 = 0
      · refine Ev2.posD hk (Ev2.pos (inb_true (by omega) (by omega)) (Ev2.neg ?_ (ih (q + j + 1) (by omega))))
        obtain ⟨o1, o2⟩ := oneF_key _ _ _ _ _ _ (j : Int) ((q + j : Nat) : Int) hk
        have hw : w64 ((actAt b j (j : Int)).2.1.1 + ((acts a).length : Int)) = ((q + j : Nat) : Int) := by
          have : (actAt b j (j : Int)).2.1.1 = (j : Int) := o2
          rw [this, w64_id (by omega)]; omega
        rw [hw]
        have o3 : actAt b j ((q + j : Nat) : Int) = (0, ((((q + j : Nat) : Int), (actAt b j (j : Int)).2.1.2) : TRequest), (actAt b j (j : Int)).2.2) := o1
        rw [o3, hk]
        simp
      · refine Ev2.negD hk (Ev2.pos (inb_true (by omega) (by omega)) (Ev2.neg ?_ (ih (q + j + 1) (by omega))))
        exact same_act _ _ (oneF_non _ _ _ _ _ _ (j : Int) ((q + j : Nat) : Int) hk)
theorem ScriptParts (a b : List Int) (ha : Byt a) (hb : Byt b) (hal : a.length ≤ 1048576) (hl : b.length ≤ 1048576) : Ev1 (fun k => CF k sBo n_law23_ScriptParts [inj BB a, inj BB b]) true := by
  have e5 : w64 (w64 (Int.tdiv (a.length : Int) 6) * 6) = ((a.length / 6 * 6 : Nat) : Int) := (len6 a).resolve_right (by omega)
  have hl1 : (a.take (a.length / 6 * 6)).length = 6 * (a.length / 6) := by rw [List.length_take]; omega
  have hA := acts_ev (a.take (a.length / 6 * 6)) (ha.take _) (by omega)
  have hB := acts_ev b hb (by omega)
  have hC := acts_ev (a.take (a.length / 6 * 6) ++ b) (Byt.append (ha.take _) hb) (by rw [List.length_append]; omega)
  refine Ev1.step (fun k => f_law23_ScriptParts k a b _ rfl _ e5.symm (a.take (a.length / 6 * 6)) (by rw [Int.toNat_natCast])) (Ev1.bind awake_ev (Ev1.neg rfl (Ev1.pos (and2 (by omega) (by omega)) (Ev1.bind hA (Ev1.bind hB (Ev1.posD (by omega) (Ev1.posD (by omega) (Ev1.bind hC (Ev1.neg ?_ ?_)))))))))
  · rw [acts_len, acts_len, acts_len, List.length_append, w64_id (by omega), decide_eq_true (by omega)]; rfl
  · exact Ev2.diag (f := fun k m => h_law23_ScriptParts k m (acts (a.take (a.length / 6 * 6))) (acts b) (acts (a.take (a.length / 6 * 6) ++ b)) _ 0) (parts_l _ b (a.length / 6) hl1 (by omega) (by omega) _ 0 (Nat.zero_add _))
theorem okB_of (l : List Int) (h : l.length * 1 ≤ 140737488351232 ∧ ∀ x ∈ l, (Lit.int .u8 x).wf = true) : Byt l ∧ l.length ≤ 140737488351232 := ⟨fun x hx => wf_u8 (h.2 x hx), by omega⟩
end Go.Eng.Scr
