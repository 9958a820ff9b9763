/- The law ScriptActs of layer 23. Conditions: the statements' own. -/
import Derived.Test.YtfkiapjkeopgfaaPScaQ
set_option linter.all false
set_option linter.unusedVariables false
set_option linter.unusedSimpArgs false
set_option linter.deprecated false
namespace Go.Eng.Sca
open Go.RowKit Go.Eng
set_option maxRecDepth 100000
set_option maxHeartbeats 1000000
abbrev sBo : Sig := ⟨[(false, .bool)], []⟩
abbrev BB : K := .slice (.int .u8)
abbrev sAct : Sig := ⟨[(false, KAct)], []⟩
abbrev sActs : Sig := ⟨[(false, .slice KAct)], []⟩
theorem awake_ev : Ev1 (fun k => CF k sBo n_law23_awake []) true := Ev1.of_rfl 20 (fun k => by kernel_rfl)
def zR : TRequest := (0, 0, 0, 0, 0, 0, 0)
/-- A request's parts by a key and six bytes. -/
def oneR (n a1 a2 a3 a4 a5 : Int) : TRequest :=
  (n, a1 % 8, (if a1 % 8 = 0 then a2 % 3 else if 4 ≤ a1 % 8 then a2 % 4 else 9 + a2 % 6), 9 + a3 % 6, 1 + a4 * 7, (if a1 % 8 = 2 then a5 % 4 else 0), (if a1 % 8 = 3 then 1 + a5 % 8 else 0))
def oneF (a0 a1 a2 a3 a4 a5 n : Int) : TAct :=
  if a0 % 12 = 0 then (1, zR, a1, false)
  else if a0 % 12 < 4 then (2, zR, a1, decide (0 < a2 % 4))
  else if a0 % 12 = 4 then (3, zR, 0, false)
  else if a0 % 12 = 5 then (if 0 < a1 % 4 then (4, zR, 0, false) else (5, zR, a2 % 4, false))
  else (0, oneR n a1 a2 a3 a4 a5, 0, false)
theorem tm {x d : Int} (h : 0 ≤ x) : Int.tmod x d = x % d := Int.tmod_eq_emod_of_nonneg h
theorem one_eq (a0 a1 a2 a3 a4 a5 n : Int) (h0 : 0 ≤ a0 ∧ a0 ≤ 255) (h1 : 0 ≤ a1 ∧ a1 ≤ 255) (h2 : 0 ≤ a2 ∧ a2 ≤ 255) (h3 : 0 ≤ a3 ∧ a3 ≤ 255) (h4 : 0 ≤ a4 ∧ a4 ≤ 255) (h5 : 0 ≤ a5 ∧ a5 ≤ 255) :
    Ev1 (fun k => CF k sAct n_script_one [inj BB [a0, a1, a2, a3, a4, a5], inj (.int .i64) n]) (oneF a0 a1 a2 a3 a4 a5 n) := by
  refine Ev1.step (fun k => f_script_one k [a0, a1, a2, a3, a4, a5] n a2 rfl a1 rfl a5 rfl (a0 % 12) (tm h0.1).symm (a1 % 4) (tm h1.1).symm (a2 % 4) (tm h2.1).symm (a1 % 8) ?_ (9 + a2 % 6) ?_ (9 + a3 % 6) ?_ (1 + a4 * 7) ?_ _ rfl _ rfl _ rfl _ rfl _ rfl _ rfl _ rfl) (Ev1.const ?_)
  · rw [tm h1.1, w64_id (by omega)]
  · show _ = w64 (9 + w64 (Int.tmod a2 6)); rw [tm h2.1, w64_id (x := a2 % 6) (by omega), w64_id (by omega)]
  · show _ = w64 (9 + w64 (Int.tmod a3 6)); rw [tm h3.1, w64_id (x := a3 % 6) (by omega), w64_id (by omega)]
  · show _ = w64 (1 + w64 (w64 a4 * 7)); rw [w64_id (x := a4) (by omega), w64_id (x := a4 * 7) (by omega), w64_id (by omega)]
  rw [tm h2.1, tm h5.1, tm h5.1, w64_id (x := a1) (by omega), w64_id (x := a2 % 4) (by omega), w64_id (x := a2 % 3) (by omega), w64_id (x := a5 % 4) (by omega), w64_id (x := a5 % 8) (by omega), w64_id (x := 1 + a5 % 8) (by omega)]
  have q0 : inb 0 [a0, a1, a2, a3, a4, a5].length = true := rfl
  have q1 : inb 1 [a0, a1, a2, a3, a4, a5].length = true := rfl
  have q2 : inb 2 [a0, a1, a2, a3, a4, a5].length = true := rfl
  have q3 : inb 3 [a0, a1, a2, a3, a4, a5].length = true := rfl
  have q4 : inb 4 [a0, a1, a2, a3, a4, a5].length = true := rfl
  have q5 : inb 5 [a0, a1, a2, a3, a4, a5].length = true := rfl
  simp only [q0, q1, q2, q3, q4, q5, cond_true]
  clear q0 q1 q2 q3 q4 q5
  have hb : 0 ≤ a0 % 12 ∧ a0 % 12 < 12 := by omega
  have hc : 0 ≤ a1 % 8 ∧ a1 % 8 < 8 := by omega
  have hd : 0 ≤ a1 % 4 := by omega
  unfold oneF oneR zR
  generalize a0 % 12 = m at hb ⊢
  generalize a1 % 8 = o at hc ⊢
  generalize a1 % 4 = u at hd ⊢
  rcases (by omega : m = 0 ∨ m = 1 ∨ m = 2 ∨ m = 3 ∨ m = 4 ∨ m = 5 ∨ 6 ≤ m) with rfl | rfl | rfl | rfl | rfl | rfl | h
  · rfl
  · rfl
  · rfl
  · rfl
  · rfl
  · by_cases hu : 0 < u
    · simp [hu]
    · simp [hu]
  · rw [if_neg (by omega), if_neg (by omega), if_neg (by omega), if_neg (by omega)]
    simp only [decide_eq_false (show ¬ m = 0 by omega), decide_eq_false (show ¬ m = 1 by omega), decide_eq_false (show ¬ m = 2 by omega), decide_eq_false (show ¬ m = 3 by omega), decide_eq_false (show ¬ m = 4 by omega), decide_eq_false (show ¬ m = 5 by omega), cond_false]
    rcases (by omega : o = 0 ∨ o = 1 ∨ o = 2 ∨ o = 3 ∨ o = 4 ∨ o = 5 ∨ o = 6 ∨ o = 7) with rfl | rfl | rfl | rfl | rfl | rfl | rfl | rfl <;> rfl
/-- The act of bytes at a place. -/
def actAt (b : List Int) (i : Nat) (n : Int) : TAct := oneF (b.getD (6 * i) 0) (b.getD (6 * i + 1) 0) (b.getD (6 * i + 2) 0) (b.getD (6 * i + 3) 0) (b.getD (6 * i + 4) 0) (b.getD (6 * i + 5) 0) n
def acts (b : List Int) : List TAct := (List.range (b.length / 6)).map fun i => actAt b i (i : Int)
theorem acts_len (b : List Int) : (acts b).length = b.length / 6 := by simp [acts]
theorem getD_drop (b : List Int) (m j : Nat) : (b.drop m).getD j 0 = b.getD (m + j) 0 := by
  rw [List.getD_eq_getElem?_getD, List.getD_eq_getElem?_getD, List.getElem?_drop]
theorem six (b : List Int) (h : 6 ≤ b.length) : b.take 6 = [b.getD 0 0, b.getD 1 0, b.getD 2 0, b.getD 3 0, b.getD 4 0, b.getD 5 0] := by
  rcases b with _ | ⟨a0, _ | ⟨a1, _ | ⟨a2, _ | ⟨a3, _ | ⟨a4, _ | ⟨a5, r⟩⟩⟩⟩⟩⟩ <;> first | rfl | (simp at h)
theorem byt_get {b : List Int} (h : Byt b) (i : Nat) : 0 ≤ b.getD i 0 ∧ b.getD i 0 ≤ 255 := by
  rw [List.getD_eq_getElem?_getD]
  cases hq : b[i]? with
  | none => simp
  | some y => exact h y (List.mem_of_getElem? hq)
theorem acts_l (b : List Int) (hb : Byt b) (hl : b.length ≤ 4000000) : ∀ (d i : Nat), i + d = b.length / 6 → Ev2 (fun k m => h_script_Acts k m (b.drop (6 * i)) ((List.range i).map fun j => actAt b j (j : Int))) (acts b) := by
  intro d
  induction d with
  | zero =>
    intro i hi
    refine Ev2.step (fun k m => h_script_Acts_s k m (b.drop (6 * i)) _ _ rfl) (Ev2.negD (by rw [List.length_drop]; omega) ?_)
    rw [show i = b.length / 6 by omega]
    exact Ev2.now _
  | succ d ih =>
    intro i hi
    have hle : 6 * i + 6 ≤ b.length := by omega
    have hd : (6 : Int) ≤ ((b.drop (6 * i)).length : Int) := by rw [List.length_drop]; omega
    refine Ev2.step (fun k m => h_script_Acts_s k m (b.drop (6 * i)) _ _ rfl) (Ev2.posD hd (Ev2.posD hd ?_))
    rw [six (b.drop (6 * i)) (by omega)]
    simp only [getD_drop, Nat.add_zero, List.length_map, List.length_range]
    refine Ev2.bind (one_eq _ _ _ _ _ _ (i : Int) (byt_get hb _) (byt_get hb _) (byt_get hb _) (byt_get hb _) (byt_get hb _) (byt_get hb _)) (Ev2.posD (by simp only [List.length_cons, List.length_nil]; omega) (Ev2.posD hd ?_))
    have e1 : (b.drop (6 * i)).drop 6 = b.drop (6 * (i + 1)) := by rw [List.drop_drop, Nat.mul_succ]
    have e2 : (List.range i).map (fun j => actAt b j (j : Int)) ++ [actAt b i (i : Int)] = (List.range (i + 1)).map fun j => actAt b j (j : Int) := by
      rw [List.range_succ, List.map_append]; rfl
    rw [e1]
    have := ih (i + 1) (by omega)
    rw [← e2] at this
    exact this
theorem acts_ev (b : List Int) (hb : Byt b) (hl : b.length ≤ 4000000) : Ev1 (fun k => CF k sActs n_script_Acts [inj BB b]) (acts b) :=
  Ev1.step (fun k => f_script_Acts k b) (Ev2.diag (f := fun k m => h_script_Acts k m b []) (acts_l b hb hl (b.length / 6) 0 (by omega)))
theorem same_act (x y : TAct) (h : x = y) : (!(decide (x.1 = y.1) && (decide (x.2.1.1 = y.2.1.1) && (decide (x.2.1.2.1 = y.2.1.2.1) && (decide (x.2.1.2.2.1 = y.2.1.2.2.1) && (decide (x.2.1.2.2.2.1 = y.2.1.2.2.2.1) && (decide (x.2.1.2.2.2.2.1 = y.2.1.2.2.2.2.1) && (decide (x.2.1.2.2.2.2.2.1 = y.2.1.2.2.2.2.2.1) && (decide (x.2.1.2.2.2.2.2.2 = y.2.1.2.2.2.2.2.2) && (decide (x.2.2.1 = y.2.2.1) && ((x.2.2.2 == y.2.2.2) && true))))))))))) = false := by
  subst h; simp
theorem acts_at (b : List Int) (i : Nat) (h : i < (acts b).length) (d : TAct) : (acts b).getD (Int.toNat (i : Int)) d = actAt b i (i : Int) := by
  rw [Int.toNat_natCast, getD_at _ _ _ h]
  simp [acts]
/-! act, by a function of its own -/
abbrev sI1 : Sig := ⟨[(false, .int .i64)], []⟩
abbrev clB (b : List Int) : AV := .val false [.ipt (.slice (.int .u8)) b []]
theorem get_ev (b : List Int) (hb : Byt b) (i : Nat) (h : i < b.length) : Ev1 (fun k => CF k sI1 n_law23_act_1 [inj (.int .i64) (i : Int), clB b]) (b.getD i 0) := by
  refine Ev1.step (fun k => f_law23_act_1 k (i : Int) b) (Ev1.pos (inb_true (by omega) (by omega)) (Ev1.const ?_))
  have := byt_get hb i
  rw [Int.toNat_natCast, w64_id (by omega)]
theorem act_eq (a0 a1 a2 a3 a4 a5 n : Int) (h0 : 0 ≤ a0 ∧ a0 ≤ 255) (h1 : 0 ≤ a1 ∧ a1 ≤ 255) (h2 : 0 ≤ a2 ∧ a2 ≤ 255) (h3 : 0 ≤ a3 ∧ a3 ≤ 255) (h4 : 0 ≤ a4 ∧ a4 ≤ 255) (h5 : 0 ≤ a5 ∧ a5 ≤ 255) :
    Ev1 (fun k => CF k sAct n_law23_act [inj BB [a0, a1, a2, a3, a4, a5], inj (.int .i64) n]) (oneF a0 a1 a2 a3 a4 a5 n) := by
  have hb : Byt [a0, a1, a2, a3, a4, a5] := by intro y hy; simp only [List.mem_cons, List.not_mem_nil, or_false] at hy; omega
  have g0 : Ev1 (fun k => CF k sI1 n_law23_act_1 [inj (.int .i64) 0, clB [a0, a1, a2, a3, a4, a5]]) a0 := get_ev _ hb 0 (by simp)
  have g1 : Ev1 (fun k => CF k sI1 n_law23_act_1 [inj (.int .i64) 1, clB [a0, a1, a2, a3, a4, a5]]) a1 := get_ev _ hb 1 (by simp)
  have g2 : Ev1 (fun k => CF k sI1 n_law23_act_1 [inj (.int .i64) 2, clB [a0, a1, a2, a3, a4, a5]]) a2 := get_ev _ hb 2 (by simp)
  have g3 : Ev1 (fun k => CF k sI1 n_law23_act_1 [inj (.int .i64) 3, clB [a0, a1, a2, a3, a4, a5]]) a3 := get_ev _ hb 3 (by simp)
  have g4 : Ev1 (fun k => CF k sI1 n_law23_act_1 [inj (.int .i64) 4, clB [a0, a1, a2, a3, a4, a5]]) a4 := get_ev _ hb 4 (by simp)
  have g5 : Ev1 (fun k => CF k sI1 n_law23_act_1 [inj (.int .i64) 5, clB [a0, a1, a2, a3, a4, a5]]) a5 := get_ev _ hb 5 (by simp)
  generalize hB : [a0, a1, a2, a3, a4, a5] = B at g0 g1 g2 g3 g4 g5 ⊢
  have hm : 0 ≤ a0 % 12 ∧ a0 % 12 < 12 := by omega
  refine Ev1.step (fun k => f_law23_act k B n) (Ev1.bind g0 ?_)
  rw [tm h0.1]
  -- a request
  have q3 : ∀ (op A Bc am L U : Int), op = a1 % 8 → U = 0 → Ev2 (fun k (_ : Nat) => h_law23_act_3 k k B 0 0 0 0 0 0 0 0 0 false n op A Bc am L U) (0, ((n, op, A, Bc, am, L, (if op = 3 then 1 + a5 % 8 else 0)) : TRequest), 0, false) := by
    intro op A Bc am L U ho hU
    refine Ev1.drop (Ev2.diag (f := fun k m => h_law23_act_3 k m B 0 0 0 0 0 0 0 0 0 false n op A Bc am L U) (Ev2.step (fun k m => h_law23_act_3_s k m B 0 0 0 0 0 0 0 0 0 false n op A Bc am L U) ?_))
    by_cases h : op = 3
    · rw [if_pos h]
      refine Ev2.posD h (Ev2.bind g5 (Ev2.const ?_))
      rw [tm h5.1, w64_id (by omega)]
    · subst hU; rw [if_neg h]; exact Ev2.negD h (Ev2.now _)
  have q2 : ∀ (op A Bc am L U : Int), op = a1 % 8 → L = 0 → U = 0 → Ev2 (fun k (_ : Nat) => h_law23_act_2 k k B 0 0 0 0 0 0 0 0 0 false n op A Bc am L U) (0, ((n, op, A, Bc, am, (if op = 2 then a5 % 4 else 0), (if op = 3 then 1 + a5 % 8 else 0)) : TRequest), 0, false) := by
    intro op A Bc am L U ho hL hU
    refine Ev1.drop (Ev2.diag (f := fun k m => h_law23_act_2 k m B 0 0 0 0 0 0 0 0 0 false n op A Bc am L U) (Ev2.step (fun k m => h_law23_act_2_s k m B 0 0 0 0 0 0 0 0 0 false n op A Bc am L U) ?_))
    by_cases h : op = 2
    · rw [if_pos h]
      refine Ev2.posD h (Ev2.bind g5 ?_)
      rw [tm h5.1]
      exact q3 op A Bc am _ U ho hU
    · subst hL; rw [if_neg h]; exact Ev2.negD h (q3 op A Bc am 0 U ho hU)
  have q1 : ∀ (op A Bc am : Int), op = a1 % 8 → Ev2 (fun k (_ : Nat) => h_law23_act_1 k k B 0 0 0 0 0 0 0 0 0 false n op A Bc am 0 0) (0, ((n, op, (if 4 ≤ op then a2 % 4 else A), Bc, am, (if op = 2 then a5 % 4 else 0), (if op = 3 then 1 + a5 % 8 else 0)) : TRequest), 0, false) := by
    intro op A Bc am ho
    refine Ev1.drop (Ev2.diag (f := fun k m => h_law23_act_1 k m B 0 0 0 0 0 0 0 0 0 false n op A Bc am 0 0) (Ev2.step (fun k m => h_law23_act_1_s k m B 0 0 0 0 0 0 0 0 0 false n op A Bc am 0 0) ?_))
    by_cases h : 4 ≤ op
    · rw [if_pos h]
      refine Ev2.posD h (Ev2.bind g2 ?_)
      rw [tm h2.1]
      exact q2 op _ Bc am 0 0 ho rfl rfl
    · rw [if_neg h]; exact Ev2.negD h (q2 op A Bc am 0 0 ho rfl rfl)
  have q0 : Ev1 (fun k => h_law23_act k k n B 0 0 0 0 0 0 0 0 0 false) (0, oneR n a1 a2 a3 a4 a5, 0, false) := by
    refine Ev2.diag (f := fun k m => h_law23_act k m n B 0 0 0 0 0 0 0 0 0 false) (Ev2.step (fun k m => h_law23_act_s k m n B 0 0 0 0 0 0 0 0 0 false) (Ev2.bind g1 (Ev2.bind g2 (Ev2.bind g3 (Ev2.bind g4 ?_)))))
    rw [tm h1.1, tm h2.1, tm h3.1, w64_id (x := 9 + a3 % 6) (by omega), w64_id (x := 9 + a2 % 6) (by omega), w64_id (x := 7 * a4) (by omega), w64_id (x := 1 + 7 * a4) (by omega), Int.mul_comm 7 a4]
    unfold oneR
    by_cases h : a1 % 8 = 0
    · refine Ev2.posD h (Ev2.bind g2 ?_)
      rw [tm h2.1]
      have := q1 (a1 % 8) (a2 % 3) (9 + a3 % 6) (1 + a4 * 7) rfl
      rw [if_neg (by omega)] at this
      rw [if_pos h]
      exact this
    · rw [if_neg h]
      exact Ev2.negD h (q1 (a1 % 8) (9 + a2 % 6) (9 + a3 % 6) (1 + a4 * 7) rfl)
  unfold oneF zR
  generalize a0 % 12 = m at hm ⊢
  by_cases c0 : m = 0
  · rw [if_pos c0]; exact Ev1.posD c0 (Ev1.bind g1 (Ev1.now _))
  · rw [if_neg c0]
    refine Ev1.negD c0 ?_
    by_cases c4 : m < 4
    · rw [if_pos c4]
      refine Ev1.posD c4 (Ev1.bind g1 (Ev1.bind g2 (Ev1.const ?_)))
      rw [tm h2.1]
      have : (!decide (a2 % 4 = 0)) = decide (0 < a2 % 4) := by
        by_cases z : a2 % 4 = 0
        · rw [decide_eq_true z, decide_eq_false (by omega)]; rfl
        · rw [decide_eq_false z, decide_eq_true (by omega)]; rfl
      rw [this]
    · rw [if_neg c4]
      refine Ev1.negD c4 ?_
      by_cases c5 : m = 4
      · rw [if_pos c5]; exact Ev1.posD c5 (Ev1.now _)
      · rw [if_neg c5]
        refine Ev1.negD c5 ?_
        by_cases c6 : m = 5
        · rw [if_pos c6]
          refine Ev1.posD c6 (Ev1.bind g1 ?_)
          rw [tm h1.1]
          by_cases z : a1 % 4 = 0
          · rw [if_neg (by omega)]
            refine Ev1.neg (by rw [decide_eq_true z]; rfl) (Ev1.posD c6 (Ev1.bind g2 (Ev1.const ?_)))
            rw [tm h2.1]
          · rw [if_pos (by omega)]
            exact Ev1.pos (by rw [decide_eq_false z]; rfl) (Ev1.now _)
        · rw [if_neg c6]
          exact Ev1.negD c6 (Ev1.negD c6 q0)
/-! ScriptActs -/
theorem sa_l (b : List Int) (hb : Byt b) (hl : b.length ≤ 4000000) : ∀ (d i : Nat), i + d = (acts b).length → Ev2 (fun k m => h_law23_ScriptActs k m b (acts b) ((acts b).length : Int) (i : Int)) true
  | 0, i, h => Ev2.step (fun k m => h_law23_ScriptActs_s k m b (acts b) _ (i : Int) _ rfl _ rfl _ rfl _ rfl) (Ev2.negD (by omega) (Ev2.now _))
  | d + 1, i, h => by
    have hal := acts_len b
    have hlt : i < (acts b).length := by omega
    have e1 : w64 (6 * (i : Int)) = ((6 * i : Nat) : Int) := by rw [w64_id (by omega)]; omega
    have e2 : w64 (((6 * i : Nat) : Int) + 6) = ((6 * i + 6 : Nat) : Int) := by rw [w64_id (by omega)]; omega
    refine Ev2.step (fun k m => h_law23_ScriptActs_s k m b (acts b) _ (i : Int) _ e1.symm _ e2.symm (actAt b i (i : Int)) (acts_at b i hlt _).symm _ rfl) (Ev2.posD (by omega) (Ev2.pos (inb_true (by omega) (by omega)) (Ev2.pos ?_ ?_)))
    · rw [decide_eq_true (by omega), decide_eq_true (by omega), decide_eq_true (by omega)]; rfl
    · rw [Int.toNat_natCast, Int.toNat_natCast, show 6 * i + 6 - 6 * i = 6 by omega, six (b.drop (6 * i)) (by rw [List.length_drop]; omega)]
      simp only [getD_drop, Nat.add_zero]
      refine Ev2.bind (act_eq _ _ _ _ _ _ (i : Int) (byt_get hb _) (byt_get hb _) (byt_get hb _) (byt_get hb _) (byt_get hb _) (byt_get hb _)) (Ev2.neg ?_ ?_)
      · exact same_act _ _ rfl
      · rw [wnat (by omega)]; exact sa_l b hb hl d (i + 1) (by omega)
theorem ScriptActs (b : List Int) (hb : Byt b) (hl : b.length ≤ 1048576) : Ev1 (fun k => CF k sBo n_law23_ScriptActs [inj BB b]) true := by
  have hal := acts_len b
  refine Ev1.step (fun k => f_law23_ScriptActs k b) (Ev1.bind awake_ev (Ev1.neg rfl (Ev1.bind (acts_ev b hb (by omega)) (Ev1.neg ?_ ?_))))
  · rw [Int.tdiv_eq_ediv_of_nonneg (by omega), w64_id (by omega), hal, decide_eq_true (by omega)]; rfl
  · exact Ev2.diag (f := fun k m => h_law23_ScriptActs k m b (acts b) ((acts b).length : Int) 0) (sa_l b hb (by omega) (acts b).length 0 (by omega))
theorem okB_of (l : List Int) (h : l.length * 1 ≤ 140737488351232 ∧ ∀ x ∈ l, (Lit.int .u8 x).wf = true) : Byt l ∧ l.length ≤ 140737488351232 := ⟨fun x hx => wf_u8 (h.2 x hx), by omega⟩
end Go.Eng.Sca
