/- The law ScriptMay of layer 23. Conditions: the statements' own. -/
import Derived.Test.YtfkiapjkeopgfaaPScmQ
set_option linter.all false
set_option linter.unusedVariables false
set_option linter.unusedSimpArgs false
set_option linter.deprecated false
namespace Go.Eng.Scm
open Go.RowKit Go.Eng
set_option maxRecDepth 100000
set_option maxHeartbeats 1000000
abbrev sBo : Sig := ⟨[(false, .bool)], []⟩
abbrev BB : K := .slice (.int .u8)
abbrev sAct : Sig := ⟨[(false, KAct)], []⟩
abbrev sActs : Sig := ⟨[(false, .slice KAct)], []⟩
theorem awake_ev : Ev1 (fun k => CF k sBo n_law23_awake []) true := Ev1.of_rfl 20 (fun k => by kernel_rfl)
def zR : TRequest := (0, 0, 0, 0, 0, 0, 0)
/-- A request's parts by a key and six bytes. -/
def oneR (n a1 a2 a3 a4 a5 : Int) : TRequest :=
  (n, a1 % 8, (if a1 % 8 = 0 then a2 % 3 else if 4 ≤ a1 % 8 then a2 % 4 else 9 + a2 % 6), 9 + a3 % 6, 1 + a4 * 7, (if a1 % 8 = 2 then a5 % 4 else 0), (if a1 % 8 = 3 then 1 + a5 % 8 else 0))
def oneF (a0 a1 a2 a3 a4 a5 n : Int) : TAct :=
  if a0 % 12 = 0 then (1, zR, a1, false)
  else if a0 % 12 < 4 then (2, zR, a1, decide (0 < a2 % 4))
  else if a0 % 12 = 4 then (3, zR, 0, false)
  else if a0 % 12 = 5 then (if 0 < a1 % 4 then (4, zR, 0, false) else (5, zR, a2 % 4, false))
  else (0, oneR n a1 a2 a3 a4 a5, 0, false)
theorem tm {x d : Int} (h : 0 ≤ x) : Int.tmod x d = x % d := Int.tmod_eq_emod_of_nonneg h
theorem one_eq (a0 a1 a2 a3 a4 a5 n : Int) (h0 : 0 ≤ a0 ∧ a0 ≤ 255) (h1 : 0 ≤ a1 ∧ a1 ≤ 255) (h2 : 0 ≤ a2 ∧ a2 ≤ 255) (h3 : 0 ≤ a3 ∧ a3 ≤ 255) (h4 : 0 ≤ a4 ∧ a4 ≤ 255) (h5 : 0 ≤ a5 ∧ a5 ≤ 255) :
    Ev1 (fun k => CF k sAct n_script_one [inj BB [a0, a1, a2, a3, a4, a5], inj (.int .i64) n]) (oneF a0 a1 a2 a3 a4 a5 n) := by
  refine Ev1.step (fun k => f_script_one k [a0, a1, a2, a3, a4, a5] n a2 rfl a5 rfl a1 rfl (a2 % 4) (tm h2.1).symm (a0 % 12) (tm h0.1).symm (a1 % 4) (tm h1.1).symm (a1 % 8) ?_ (9 + a3 % 6) ?_ (9 + a2 % 6) ?_ (1 + a4 * 7) ?_ _ rfl _ rfl _ rfl _ rfl _ rfl _ rfl _ rfl) (Ev1.const ?_)
  · rw [tm h1.1, w64_id (by omega)]
  · show _ = w64 (9 + w64 (Int.tmod a3 6)); rw [tm h3.1, w64_id (x := a3 % 6) (by omega), w64_id (by omega)]
  · show _ = w64 (9 + w64 (Int.tmod a2 6)); rw [tm h2.1, w64_id (x := a2 % 6) (by omega), w64_id (by omega)]
  · show _ = w64 (1 + w64 (w64 a4 * 7)); rw [w64_id (x := a4) (by omega), w64_id (x := a4 * 7) (by omega), w64_id (by omega)]
  rw [tm h2.1, tm h5.1, tm h5.1, w64_id (x := a1) (by omega), w64_id (x := a2 % 4) (by omega), w64_id (x := a2 % 3) (by omega), w64_id (x := a5 % 4) (by omega), w64_id (x := a5 % 8) (by omega), w64_id (x := 1 + a5 % 8) (by omega)]
  have q0 : inb 0 [a0, a1, a2, a3, a4, a5].length = true := rfl
  have q1 : inb 1 [a0, a1, a2, a3, a4, a5].length = true := rfl
  have q2 : inb 2 [a0, a1, a2, a3, a4, a5].length = true := rfl
  have q3 : inb 3 [a0, a1, a2, a3, a4, a5].length = true := rfl
  have q4 : inb 4 [a0, a1, a2, a3, a4, a5].length = true := rfl
  have q5 : inb 5 [a0, a1, a2, a3, a4, a5].length = true := rfl
  simp only [q0, q1, q2, q3, q4, q5, cond_true]
  clear q0 q1 q2 q3 q4 q5
  have hb : 0 ≤ a0 % 12 ∧ a0 % 12 < 12 := by omega
  have hc : 0 ≤ a1 % 8 ∧ a1 % 8 < 8 := by omega
  have hd : 0 ≤ a1 % 4 := by omega
  unfold oneF oneR zR
  generalize a0 % 12 = m at hb ⊢
  generalize a1 % 8 = o at hc ⊢
  generalize a1 % 4 = u at hd ⊢
  rcases (by omega : m = 0 ∨ m = 1 ∨ m = 2 ∨ m = 3 ∨ m = 4 ∨ m = 5 ∨ 6 ≤ m) with rfl | rfl | rfl | rfl | rfl | rfl | h
  · rfl
  · rfl
  · rfl
  · rfl
  · rfl
  · by_cases hu : 0 < u
    · simp [hu]
    · simp [hu]
  · rw [if_neg (by omega), if_neg (by omega), if_neg (by omega), if_neg (by omega)]
    simp only [decide_eq_false (show ¬ m = 0 by omega), decide_eq_false (show ¬ m = 1 by omega), decide_eq_false (show ¬ m = 2 by omega), decide_eq_false (show ¬ m = 3 by omega), decide_eq_false (show ¬ m = 4 by omega), decide_eq_false (show ¬ m = 5 by omega), cond_false]
    rcases (by omega : o = 0 ∨ o = 1 ∨ o = 2 ∨ o = 3 ∨ o = 4 ∨ o = 5 ∨ o = 6 ∨ o = 7) with rfl | rfl | rfl | rfl | rfl | rfl | rfl | rfl <;> rfl
/-- The act of bytes at a place. -/
def actAt (b : List Int) (i : Nat) (n : Int) : TAct := oneF (b.getD (6 * i) 0) (b.getD (6 * i + 1) 0) (b.getD (6 * i + 2) 0) (b.getD (6 * i + 3) 0) (b.getD (6 * i + 4) 0) (b.getD (6 * i + 5) 0) n
def acts (b : List Int) : List TAct := (List.range (b.length / 6)).map fun i => actAt b i (i : Int)
theorem acts_len (b : List Int) : (acts b).length = b.length / 6 := by simp [acts]
theorem getD_drop (b : List Int) (m j : Nat) : (b.drop m).getD j 0 = b.getD (m + j) 0 := by
  rw [List.getD_eq_getElem?_getD, List.getD_eq_getElem?_getD, List.getElem?_drop]
theorem six (b : List Int) (h : 6 ≤ b.length) : b.take 6 = [b.getD 0 0, b.getD 1 0, b.getD 2 0, b.getD 3 0, b.getD 4 0, b.getD 5 0] := by
  rcases b with _ | ⟨a0, _ | ⟨a1, _ | ⟨a2, _ | ⟨a3, _ | ⟨a4, _ | ⟨a5, r⟩⟩⟩⟩⟩⟩ <;> first | rfl | (simp at h)
theorem byt_get {b : List Int} (h : Byt b) (i : Nat) : 0 ≤ b.getD i 0 ∧ b.getD i 0 ≤ 255 := by
  rw [List.getD_eq_getElem?_getD]
  cases hq : b[i]? with
  | none => simp
  | some y => exact h y (List.mem_of_getElem? hq)
theorem acts_l (b : List Int) (hb : Byt b) (hl : b.length ≤ 4000000) : ∀ (d i : Nat), i + d = b.length / 6 → Ev2 (fun k m => h_script_Acts k m (b.drop (6 * i)) ((List.range i).map fun j => actAt b j (j : Int))) (acts b) := by
  intro d
  induction d with
  | zero =>
    intro i hi
    refine Ev2.step (fun k m => h_script_Acts_s k m (b.drop (6 * i)) _ _ rfl) (Ev2.negD (by rw [List.length_drop]; omega) ?_)
    rw [show i = b.length / 6 by omega]
    exact Ev2.now _
  | succ d ih =>
    intro i hi
    have hle : 6 * i + 6 ≤ b.length := by omega
    have hd : (6 : Int) ≤ ((b.drop (6 * i)).length : Int) := by rw [List.length_drop]; omega
    refine Ev2.step (fun k m => h_script_Acts_s k m (b.drop (6 * i)) _ _ rfl) (Ev2.posD hd (Ev2.posD hd ?_))
    rw [six (b.drop (6 * i)) (by omega)]
    simp only [getD_drop, Nat.add_zero, List.length_map, List.length_range]
    refine Ev2.bind (one_eq _ _ _ _ _ _ (i : Int) (byt_get hb _) (byt_get hb _) (byt_get hb _) (byt_get hb _) (byt_get hb _) (byt_get hb _)) (Ev2.posD (by simp only [List.length_cons, List.length_nil]; omega) (Ev2.posD hd ?_))
    have e1 : (b.drop (6 * i)).drop 6 = b.drop (6 * (i + 1)) := by rw [List.drop_drop, Nat.mul_succ]
    have e2 : (List.range i).map (fun j => actAt b j (j : Int)) ++ [actAt b i (i : Int)] = (List.range (i + 1)).map fun j => actAt b j (j : Int) := by
      rw [List.range_succ, List.map_append]; rfl
    rw [e1]
    have := ih (i + 1) (by omega)
    rw [← e2] at this
    exact this
theorem acts_ev (b : List Int) (hb : Byt b) (hl : b.length ≤ 4000000) : Ev1 (fun k => CF k sActs n_script_Acts [inj BB b]) (acts b) :=
  Ev1.step (fun k => f_script_Acts k b) (Ev2.diag (f := fun k m => h_script_Acts k m b []) (acts_l b hb hl (b.length / 6) 0 (by omega)))
/-! ScriptMay -/
theorem mapGet_put {α : Type} (d : α) (n : Int) (x : α) (k : Int) : ∀ m : List (Int × α), mapGet d (mapPut m n x) k = if k = n then x else mapGet d m k
  | [] => by
    by_cases h : k = n
    · rw [if_pos h]; simp [mapPut, mapGet, h]
    · rw [if_neg h]; unfold mapPut mapGet; rw [decide_eq_false (show ¬ n = k from fun q => h q.symm)]; rfl
  | e :: r => by
    unfold mapPut
    by_cases h : e.1 = n
    · rw [decide_eq_true h, cond_true]
      by_cases hk : k = n
      · rw [if_pos hk]; simp [mapGet, hk]
      · have : ¬ e.1 = k := by omega
        rw [if_neg hk]
        unfold mapGet
        rw [decide_eq_false (show ¬ n = k from fun q => hk q.symm), decide_eq_false this]; rfl
    · rw [decide_eq_false h, cond_false]
      unfold mapGet
      by_cases hk : e.1 = k
      · have : ¬ k = n := by omega
        rw [if_neg this, decide_eq_true hk]; rfl
      · rw [decide_eq_false hk]
        exact mapGet_put d n x k r
theorem amount_ev (n : Int) (h : 1 ≤ n ∧ n ≤ 1099511627776) : Ev1 (fun k => CF k sBo n_money_Amount [inj (.int .i64) n]) true := Ev1.step (fun k => f_money_Amount k n) (Ev1.posD h.1 (Ev1.const (congrArg some (decide_eq_true h.2))))
theorem may_ev (n a1 a2 a3 a4 a5 : Int) (hn : 0 ≤ n ∧ n < 1073741824) (h1 : 0 ≤ a1 ∧ a1 ≤ 255) (h2 : 0 ≤ a2 ∧ a2 ≤ 255) (h4 : 0 ≤ a4 ∧ a4 ≤ 255) (h5 : 0 ≤ a5 ∧ a5 ≤ 255) : Ev1 (fun k => CF k sBo n_request_May [inj KRequest (oneR n a1 a2 a3 a4 a5)]) true := by
  have hL : 0 ≤ (if a1 % 8 = 2 then a5 % 4 else 0) ∧ (if a1 % 8 = 2 then a5 % 4 else 0) ≤ 3 := by split <;> omega
  have hU : 0 ≤ (if a1 % 8 = 3 then 1 + a5 % 8 else 0) ∧ (if a1 % 8 = 3 then 1 + a5 % 8 else 0) ≤ 8 := by split <;> omega
  have hL2 : 0 < (if a1 % 8 = 2 then a5 % 4 else 0) → a1 % 8 = 2 := by split <;> omega
  have hA : a1 % 8 = 0 → (if a1 % 8 = 0 then a2 % 3 else if 4 ≤ a1 % 8 then a2 % 4 else 9 + a2 % 6) = a2 % 3 := fun q => if_pos q
  have ho : 0 ≤ a1 % 8 ∧ a1 % 8 < 8 := by omega
  unfold oneR
  generalize (if a1 % 8 = 2 then a5 % 4 else 0) = L at hL hL2 ⊢
  generalize (if a1 % 8 = 3 then 1 + a5 % 8 else 0) = U at hU ⊢
  generalize (if a1 % 8 = 0 then a2 % 3 else if 4 ≤ a1 % 8 then a2 % 4 else 9 + a2 % 6) = Ac at hA ⊢
  generalize a1 % 8 = o at ho hL2 hA ⊢
  refine Ev1.step (fun k => f_request_May k (n, o, Ac, 9 + a3 % 6, 1 + a4 * 7, L, U)) ?_
  have am := amount_ev (1 + a4 * 7) (by omega)
  have fin : Ev2 (fun k (_ : Nat) => h_request_May_1 k k n o Ac (9 + a3 % 6) (1 + a4 * 7) L U) true := by
    refine Ev1.drop (Ev2.diag (f := fun k m => h_request_May_1 k m n o Ac (9 + a3 % 6) (1 + a4 * 7) L U) (Ev2.step (fun k m => h_request_May_1_s k m n o Ac (9 + a3 % 6) (1 + a4 * 7) L U) ?_))
    rcases (by omega : o = 0 ∨ o = 1 ∨ o = 2 ∨ o = 3 ∨ o = 4 ∨ o = 5 ∨ o = 6 ∨ o = 7) with rfl | rfl | rfl | rfl | rfl | rfl | rfl | rfl
    · have := hA rfl
      exact Ev2.posD rfl (Ev2.posD (by omega) (Ev2.const (congrArg some (decide_eq_true (by omega)))))
    · exact Ev2.negD (by decide) (Ev2.negD (by decide) (Ev2.posD rfl (Ev2.posD rfl (Ev2.bind am (Ev2.now _)))))
    · exact Ev2.negD (by decide) (Ev2.negD (by decide) (Ev2.negD (by decide) (Ev2.posD rfl (Ev2.posD rfl (Ev2.bind am (Ev2.now _))))))
    · exact Ev2.negD (by decide) (Ev2.negD (by decide) (Ev2.negD (by decide) (Ev2.negD (by decide) (Ev2.posD rfl (Ev2.posD rfl (Ev2.bind am (Ev2.now _)))))))
    · exact Ev2.negD (by decide) (Ev2.negD (by decide) (Ev2.negD (by decide) (Ev2.negD (by decide) (Ev2.negD (by decide) (Ev2.posD rfl (Ev2.posD rfl (Ev2.bind am (Ev2.now _))))))))
    · exact Ev2.negD (by decide) (Ev2.posD rfl (Ev2.now _))
    · exact Ev2.negD (by decide) (Ev2.negD (by decide) (Ev2.negD (by decide) (Ev2.negD (by decide) (Ev2.negD (by decide) (Ev2.negD (by decide) (Ev2.posD rfl (Ev2.posD rfl (Ev2.bind am (Ev2.now _)))))))))
    · exact Ev2.negD (by decide) (Ev2.negD (by decide) (Ev2.negD (by decide) (Ev2.negD (by decide) (Ev2.negD (by decide) (Ev2.negD (by decide) (Ev2.negD (by decide) (Ev2.posD rfl (Ev2.bind am (Ev2.now _)))))))))
  dsimp only
  refine Ev1.negD (by omega) (Ev1.negD (by omega) (Ev1.negD (by omega) (Ev1.negD (by omega) (Ev1.negD (by omega) (Ev1.negD (by omega) (Ev2.diag (f := fun k m => h_request_May k m n o Ac (9 + a3 % 6) (1 + a4 * 7) L U) ?_))))))
  refine Ev2.step (fun k m => h_request_May_s k m n o Ac (9 + a3 % 6) (1 + a4 * 7) L U) ?_
  exact Ev2.iff (fun hp => Ev2.neg (by rw [decide_eq_true (hL2 hp)]; rfl) fin) fun _ => fin
theorem oneF_cases (a0 a1 a2 a3 a4 a5 n : Int) (h1 : 0 ≤ a1 ∧ a1 ≤ 255) (h2 : 0 ≤ a2 ∧ a2 ≤ 255) :
    ((oneF a0 a1 a2 a3 a4 a5 n).1 ≠ 0 ∧ (oneF a0 a1 a2 a3 a4 a5 n).2.1 = zR ∧ 0 ≤ (oneF a0 a1 a2 a3 a4 a5 n).2.2.1 ∧ (oneF a0 a1 a2 a3 a4 a5 n).2.2.1 ≤ 255) ∨ oneF a0 a1 a2 a3 a4 a5 n = (0, oneR n a1 a2 a3 a4 a5, 0, false) := by
  unfold oneF
  split
  · exact .inl ⟨(show (1 : Int) ≠ 0 by decide), rfl, h1.1, h1.2⟩
  · split
    · exact .inl ⟨(show (2 : Int) ≠ 0 by decide), rfl, h1.1, h1.2⟩
    · split
      · exact .inl ⟨by decide, rfl, by decide, by decide⟩
      · split
        · split
          · exact .inl ⟨by decide, rfl, by decide, by decide⟩
          · exact .inl ⟨(show (5 : Int) ≠ 0 by decide), rfl, by dsimp only; omega, by dsimp only; omega⟩
        · exact .inr rfl
theorem acts_at (b : List Int) (i : Nat) (h : i < (acts b).length) (d : TAct) : (acts b).getD (Int.toNat (i : Int)) d = actAt b i (i : Int) := by
  rw [Int.toNat_natCast, getD_at _ _ _ h]
  simp [acts]
theorem may_l (b : List Int) (hb : Byt b) (hl : b.length ≤ 4000000) : ∀ (d i : Nat) (seen : List (Int × Bool)), i + d = (acts b).length → (∀ k, mapGet false seen k = true → k < (i : Int)) →
    Ev2 (fun k m => h_law23_ScriptMay k m (acts b) ((acts b).length : Int) (i : Int) seen) true
  | 0, i, seen, h, hs => Ev2.step (fun k m => h_law23_ScriptMay_s k m (acts b) _ (i : Int) seen _ rfl _ rfl _ rfl) (Ev2.negD (by omega) (Ev2.now _))
  | d + 1, i, seen, h, hs => by
    have hal := acts_len b
    have hlt : i < (acts b).length := by omega
    refine Ev2.step (fun k m => h_law23_ScriptMay_s k m (acts b) _ (i : Int) seen ((i + 1 : Nat) : Int) (wnat (by omega)).symm (actAt b i (i : Int)) (acts_at b i hlt _).symm _ rfl) (Ev2.posD (by omega) (Ev2.pos (inb_true (by omega) (by omega)) ?_))
    have hc := oneF_cases (b.getD (6 * i) 0) (b.getD (6 * i + 1) 0) (b.getD (6 * i + 2) 0) (b.getD (6 * i + 3) 0) (b.getD (6 * i + 4) 0) (b.getD (6 * i + 5) 0) (i : Int) (byt_get hb _) (byt_get hb _)
    have ea : actAt b i (i : Int) = oneF (b.getD (6 * i) 0) (b.getD (6 * i + 1) 0) (b.getD (6 * i + 2) 0) (b.getD (6 * i + 3) 0) (b.getD (6 * i + 4) 0) (b.getD (6 * i + 5) 0) (i : Int) := rfl
    rw [← ea] at hc
    rcases hc with ⟨h1, h2, h3, h4⟩ | he
    · refine Ev2.pos (by rw [decide_eq_false h1]; rfl) (Ev2.neg (by rw [h2]; rfl) (Ev2.negD (by omega) (Ev2.negD (by omega) ?_)))
      exact may_l b hb hl d (i + 1) seen (by omega) (fun k hk => by have := hs k hk; omega)
    · rw [he]
      have hm := may_ev (i : Int) (b.getD (6 * i + 1) 0) (b.getD (6 * i + 2) 0) (b.getD (6 * i + 3) 0) (b.getD (6 * i + 4) 0) (b.getD (6 * i + 5) 0) (by omega) (byt_get hb _) (byt_get hb _) (byt_get hb _) (byt_get hb _)
      refine Ev2.neg rfl (Ev2.bind hm (Ev2.neg rfl (Ev2.neg ?_ ?_)))
      · show mapGet false seen (i : Int) = false
        cases hg : mapGet false seen (i : Int) with
        | false => rfl
        | true => have := hs _ hg; omega
      · refine may_l b hb hl d (i + 1) _ (by omega) (fun k hk => ?_)
        rw [mapGet_put] at hk
        split at hk
        · rename_i q; rw [q]; show (i : Int) < _; omega
        · have := hs k hk; omega
theorem ScriptMay (b : List Int) (hb : Byt b) (hl : b.length ≤ 1048576) : Ev1 (fun k => CF k sBo n_law23_ScriptMay [inj BB b]) true := by
  refine Ev1.step (fun k => f_law23_ScriptMay k b) (Ev1.bind awake_ev (Ev1.neg rfl (Ev1.bind (acts_ev b hb (by omega)) ?_)))
  exact Ev2.diag (f := fun k m => h_law23_ScriptMay k m (acts b) ((acts b).length : Int) 0 []) (may_l b hb (by omega) (acts b).length 0 [] (by omega) (fun k hk => by cases hk))
theorem okB_of (l : List Int) (h : l.length * 1 ≤ 140737488351232 ∧ ∀ x ∈ l, (Lit.int .u8 x).wf = true) : Byt l ∧ l.length ≤ 140737488351232 := ⟨fun x hx => wf_u8 (h.2 x hx), by omega⟩
end Go.Eng.Scm
