/- Records one behind the other: FrameScan, FrameAny. -/
import Derived.Test.YtmmbngpmoabkgaaPFrm
set_option linter.all false
set_option linter.unusedVariables false
set_option linter.unusedSimpArgs false
set_option linter.deprecated false
namespace Go.Eng.Frm
open Go.RowKit Go.Eng Go.Eng.LCrc Go.Eng.LFrm
set_option maxRecDepth 100000
def flat (xs : List (List Int)) : List Int := (xs.map fr).flatten
theorem flat_nil : flat [] = [] := rfl
theorem flat_cons (x : List Int) (xs : List (List Int)) : flat (x :: xs) = fr x ++ flat xs := rfl
theorem flat_app (xs ys : List (List Int)) : flat (xs ++ ys) = flat xs ++ flat ys := by unfold flat; rw [List.map_append, List.flatten_append]
theorem flat_len (xs : List (List Int)) : xs.length * 6 ≤ (flat xs).length := by
  induction xs with
  | nil => simp
  | cons x xs ih => rw [flat_cons, List.length_append, fr_len, List.length_cons]; omega
def Rec (x : List Int) : Prop := Byt x ∧ x.length ≤ 16384
theorem flat_byt {xs : List (List Int)} (h : ∀ x ∈ xs, Rec x) : Byt (flat xs) := by
  induction xs with
  | nil => intro y hy; cases hy
  | cons x xs ih => rw [flat_cons]; exact Byt.append (fr_byt (h x (by simp)).1) (ih fun y hy => h y (by simp [hy]))
theorem parts (n : Nat) : ∀ b : List Int, Byt b → b.length ≤ n → ∃ xs r, b = flat xs ++ r ∧ rec1 r = none ∧ (∀ x ∈ xs, Rec x) ∧ Byt r := by
  induction n with
  | zero =>
    intro b hb hl
    obtain rfl : b = [] := List.length_eq_zero_iff.1 (by omega)
    exact ⟨[], [], rfl, rfl, (fun x hx => by cases hx), hb⟩
  | succ n ih =>
    intro b hb hl
    cases hr : rec1 b with
    | none => exact ⟨[], b, rfl, hr, (fun x hx => by cases hx), hb⟩
    | some x =>
      obtain ⟨h1, h2, h3⟩ := one_some hb hr
      obtain ⟨xs, r, e, hn, hx, hbr⟩ := ih (b.drop (6 + x.length)) (fun y hy => hb y (List.mem_of_mem_drop hy)) (by rw [List.length_drop]; omega)
      refine ⟨x :: xs, r, ?_, hn, ?_, hbr⟩
      · rw [flat_cons, List.append_assoc, ← e]; exact h3
      · intro y hy
        rcases List.mem_cons.1 hy with rfl | hy
        · refine ⟨fun z hz => hb z ?_, h1⟩
          rw [h3]
          exact List.mem_append_left _ (List.mem_append_right _ hz)
        · exact hx y hy
theorem scan_l (b r : List Int) (hb : Byt b) (hl : b.length ≤ 4000000) (hn : rec1 r = none) : ∀ (xs pre : List (List Int)), (∀ x ∈ xs, Rec x) → b = flat pre ++ (flat xs ++ r) →
    Ev2 (fun k m => h_frame_Scan k m b ((flat pre).length : Int) pre) (pre ++ xs, ((flat (pre ++ xs)).length : Int)) := by
  intro xs
  induction xs with
  | nil =>
    intro pre _ hbe
    have hle : (flat pre).length ≤ b.length := by rw [hbe, List.length_append]; omega
    have hd : b.drop (flat pre).length = r := by rw [hbe, List.drop_left]; rfl
    refine Ev2.step (fun k m => h_frame_Scan_s k m b _ pre) (Ev2.pos (and2 (by omega) (by omega)) ?_)
    rw [Int.toNat_natCast, hd]
    have ho := one_ev r (by rw [← hd]; exact fun y hy => hb y (List.mem_of_mem_drop hy)) (by rw [← hd, List.length_drop]; omega)
    rw [hn] at ho
    refine Ev2.bind ho (Ev2.pos rfl ?_)
    rw [List.append_nil]
    exact Ev2.now _
  | cons x xs ih =>
    intro pre hx hbe
    have hx0 := hx x (by simp)
    have hle : (flat pre).length + (6 + x.length) ≤ b.length := by rw [hbe, List.length_append, flat_cons, List.append_assoc, List.length_append, fr_len]; omega
    have hd : b.drop (flat pre).length = fr x ++ (flat xs ++ r) := by rw [hbe, List.drop_left, flat_cons, List.append_assoc]
    refine Ev2.step (fun k m => h_frame_Scan_s k m b _ pre) (Ev2.pos (and2 (by omega) (by omega)) ?_)
    rw [Int.toNat_natCast, hd]
    have ho := one_ev (fr x ++ (flat xs ++ r)) (by rw [← hd]; exact fun y hy => hb y (List.mem_of_mem_drop hy)) (by rw [← hd, List.length_drop]; omega)
    rw [one_fr x _ hx0.2] at ho
    have hp := flat_len pre
    refine Ev2.bind ho (Ev2.neg rfl (Ev2.posD (by simp only [ans1, List.length_cons, List.length_nil]; omega) ?_))
    have e1 : w64 (((flat pre).length : Int) + (ans1 (some x)).2.1) = ((flat (pre ++ [x])).length : Int) := by
      show w64 (((flat pre).length : Int) + (6 + (x.length : Int))) = _
      rw [w64_id (by omega), flat_app, List.length_append, flat_cons, flat_nil, List.append_nil, fr_len]; omega
    rw [e1]
    have := ih (pre ++ [x]) (fun y hy => hx y (by simp [hy])) (by rw [hbe, flat_app, flat_cons, flat_cons, flat_nil]; simp only [List.append_assoc, List.append_nil])
    rw [List.append_assoc] at this
    exact this
theorem scan_ev (xs : List (List Int)) (r : List Int) (hx : ∀ x ∈ xs, Rec x) (hr : Byt r) (hn : rec1 r = none) (hl : (flat xs ++ r).length ≤ 4000000) :
    Ev1 (fun k => CF k sScan n_frame_Scan [inj BB (flat xs ++ r)]) (xs, ((flat xs).length : Int)) := by
  refine Ev1.step (fun k => f_frame_Scan k (flat xs ++ r)) (Ev2.diag (f := fun k m => h_frame_Scan k m (flat xs ++ r) 0 []) ?_)
  exact scan_l (flat xs ++ r) r (Byt.append (flat_byt hx) hr) hl hn xs [] hx rfl
/-! FrameAny -/
theorem any_l (b : List Int) (xs : List (List Int)) (r : List Int) (hb : b = flat xs ++ r) (hx : ∀ x ∈ xs, Rec x) (hr : Byt r) (hn : rec1 r = none) (hl : b.length ≤ 4000000) :
    ∀ (d i : Nat), i + d = xs.length → Ev2 (fun k m => h_law04_FrameAny k m b ((flat xs).length : Int) (flat (xs.take i)) xs (xs.length : Int) (i : Int)) true := by
  intro d
  have h1 := flat_len xs
  have h2 : (flat xs).length ≤ b.length := by rw [hb, List.length_append]; omega
  have h3 : b.drop (flat xs).length = r := by rw [hb, List.drop_left]
  have h4 : b.take (flat xs).length = flat xs := by rw [hb, List.take_left]
  induction d with
  | zero =>
    intro i hi
    refine Ev2.step (fun k m => h_law04_FrameAny_s k m b _ (flat (xs.take i)) xs (xs.length : Int) (i : Int) _ rfl) (Ev2.negD (by omega) ?_)
    rw [show i = xs.length by omega, List.take_length, Int.toNat_natCast, h3, h4]
    have ho := one_ev r hr (by rw [← h3, List.length_drop]; omega)
    rw [hn] at ho
    exact Ev2.neg (by simp) (Ev2.negD (by omega) (Ev2.pos (and2 (by omega) (by omega)) (Ev2.neg (by simp) (Ev2.pos (and2 (by omega) (by omega)) (Ev2.bind ho (Ev2.now _))))))
  | succ d ih =>
    intro i hi
    have hlt : i < xs.length := by omega
    refine Ev2.step (fun k m => h_law04_FrameAny_s k m b _ (flat (xs.take i)) xs (xs.length : Int) (i : Int) _ rfl) (Ev2.posD (by omega) (Ev2.pos (inb_true (by omega) (by omega)) ?_))
    rw [Int.toNat_natCast, getD_at xs i [] hlt, wnat (by omega)]
    have hm := made_ev xs[i] (by have := (hx xs[i] (List.getElem_mem hlt)).2; omega)
    have he : flat (xs.take i) ++ fr xs[i] = flat (xs.take (i + 1)) := by
      rw [List.take_succ_eq_append_getElem hlt, flat_app, flat_cons, flat_nil, List.append_nil]
    have hle : (flat (xs.take (i + 1))).length ≤ (flat xs).length := by
      conv => rhs; rw [← List.take_append_drop (i + 1) xs, flat_app, List.length_append]
      omega
    have hle2 : (flat (xs.take i)).length + (fr xs[i]).length = (flat (xs.take (i + 1))).length := by rw [← he, List.length_append]
    refine Ev2.bind hm (Ev2.posD (by omega) ?_)
    rw [he]
    exact ih (i + 1) (by omega)
theorem FrameAny (b : List Int) (hb : Byt b) (hl : b.length ≤ 1048576) : Ev1 (fun k => CF k sBo n_law04_FrameAny [inj BB b]) true := by
  obtain ⟨xs, r, e, hn, hx, hr⟩ := parts b.length b hb (Nat.le_refl _)
  have hs := scan_ev xs r hx hr hn (by rw [← e]; omega)
  rw [← e] at hs
  refine Ev1.step (fun k => f_law04_FrameAny k b) (Ev1.bind awake_ev (Ev1.neg rfl (Ev1.bind hs ?_)))
  exact Ev2.diag (f := fun k m => h_law04_FrameAny k m b ((flat xs).length : Int) [] xs (xs.length : Int) 0) (any_l b xs r e hx hr hn (by omega) xs.length 0 (by omega))
/-! FrameScan -/
def few (rs : List (List Int)) : List (List Int) := (rs.take 12).map fun r => r.take 500
theorem few_l (rs : List (List Int)) (hl : rs.length ≤ 140737488351232) : ∀ (d i : Nat), i + d = rs.length → Ev2 (fun k m => h_law04_Few k m rs (rs.length : Int) (i : Int) (few (rs.take i))) (few rs) := by
  intro d
  induction d with
  | zero =>
    intro i hi
    rw [show rs.take i = rs by rw [show i = rs.length by omega, List.take_length]]
    exact Ev2.step (fun k m => h_law04_Few_s k m rs (rs.length : Int) (i : Int) (few rs) _ rfl _ rfl _ rfl _ rfl _ rfl) (Ev2.negD (by omega) (Ev2.now _))
  | succ d ih =>
    intro i hi
    have hlt : i < rs.length := by omega
    obtain ⟨q, hq, hq1⟩ : ∃ q : Nat, minI (rs[i].length : Int) 500 = (q : Int) ∧ q = min rs[i].length 500 := by
      unfold minI
      by_cases h : (500 : Int) < rs[i].length
      · rw [decide_eq_true h, cond_true]; exact ⟨500, rfl, by omega⟩
      · rw [decide_eq_false h, cond_false]; exact ⟨rs[i].length, rfl, by omega⟩
    have e1 : rs.getD (Int.toNat (i : Int)) [] = rs[i] := by rw [Int.toNat_natCast, getD_at rs i [] hlt]
    refine Ev2.step (fun k m => h_law04_Few_s k m rs (rs.length : Int) (i : Int) (few (rs.take i)) rs[i] e1.symm ((i + 1 : Nat) : Int) (wnat (by omega)).symm _ rfl (q : Int) hq.symm _ rfl) (Ev2.posD (by omega) (Ev2.pos (inb_true (by omega) (by omega)) ?_))
    have hf : (few (rs.take i)).length ≤ 12 := by unfold few; rw [List.length_map, List.length_take]; omega
    by_cases h12 : i < 12
    · refine Ev2.posD (by omega) (Ev2.pos (and2 (by omega) (by omega)) (Ev2.posD (by simp only [List.length_cons, List.length_nil]; omega) ?_))
      have e2 : few (rs.take i) ++ [rs[i].take (Int.toNat (q : Int))] = few (rs.take (i + 1)) := by
        unfold few
        rw [List.take_take, List.take_take, Nat.min_eq_right (by omega), Nat.min_eq_right (by omega), List.take_succ_eq_append_getElem hlt, List.map_append, Int.toNat_natCast]
        congr 1
        simp only [List.map_cons, List.map_nil, List.cons.injEq, and_true]
        exact List.take_eq_take_iff.2 (by omega)
      rw [e2]
      exact ih (i + 1) (by omega)
    · refine Ev2.negD (by omega) ?_
      have e2 : few (rs.take i) = few (rs.take (i + 1)) := by
        unfold few
        rw [List.take_take, List.take_take, Nat.min_eq_left (by omega), Nat.min_eq_left (by omega)]
      rw [e2]
      exact ih (i + 1) (by omega)
theorem cut_at : ∀ (rs : List (List Int)), (∀ x ∈ rs, x.length ≤ 500) → ∀ j : Nat, j ≤ (flat rs).length → ∃ w r, w ≤ rs.length ∧ (flat rs).take j = flat (rs.take w) ++ r ∧ rec1 r = none ∧ (flat (rs.take w)).length ≤ j ∧ (w < rs.length → j < (flat (rs.take (w + 1))).length) := by
  intro rs
  induction rs with
  | nil =>
    intro _ j hj
    exact ⟨0, [], Nat.le_refl _, by simp [flat], rfl, by simp [flat], fun h => by cases h⟩
  | cons x rs ih =>
    intro hx j hj
    have hfl := fr_len x
    by_cases hc : j < (fr x).length
    · refine ⟨0, (fr x).take j, by omega, ?_, cut_none x (by have := hx x (by simp); omega) j (by omega), by simp [flat], fun _ => ?_⟩
      · rw [flat_cons, List.take_append_of_le_length (by omega)]; rfl
      · rw [show (x :: rs).take (0 + 1) = [x] by simp, flat_cons, flat_nil, List.append_nil]; exact hc
    · rw [flat_cons, List.length_append] at hj
      obtain ⟨w, r, h1, h2, h3, h4, h5⟩ := ih (fun y hy => hx y (by simp [hy])) (j - (fr x).length) (by omega)
      refine ⟨w + 1, r, by simp only [List.length_cons]; omega, ?_, h3, ?_, ?_⟩
      · rw [flat_cons, List.take_append, List.take_of_length_le (by omega), h2, List.take_succ_cons, flat_cons, List.append_assoc]
      · rw [List.take_succ_cons, flat_cons, List.length_append]; omega
      · intro hw
        have := h5 (by simpa using hw)
        rw [List.take_succ_cons, flat_cons, List.length_append]; omega
def ends (rs : List (List Int)) (i : Nat) : List Int := (List.range i).map fun j => ((flat (rs.take (j + 1))).length : Int)
theorem ends_len (rs : List (List Int)) (i : Nat) : (ends rs i).length = i := by simp [ends]
theorem ends_at (rs : List (List Int)) (i j : Nat) (h : j < i) : (ends rs i).getD (Int.toNat (j : Int)) 0 = ((flat (rs.take (j + 1))).length : Int) := by
  rw [Int.toNat_natCast, getD_at _ _ _ (by rw [ends_len]; exact h)]
  simp [ends]
theorem flat_mono (rs : List (List Int)) {i j : Nat} (h : i ≤ j) : (flat (rs.take i)).length ≤ (flat (rs.take j)).length := by
  have : rs.take j = rs.take i ++ (rs.take j).drop i := by
    conv => lhs; rw [← List.take_append_drop i (rs.take j), List.take_take, Nat.min_eq_left h]
  rw [this, flat_app, List.length_append]; omega
theorem flat_le (rs : List (List Int)) (h12 : rs.length ≤ 12) (h : ∀ x ∈ rs, x.length ≤ 500) : (flat rs).length ≤ 506 * rs.length := by
  clear h12
  induction rs with
  | nil => simp [flat]
  | cons x xs ih =>
    have := ih fun y hy => h y (by simp [hy])
    have := h x (by simp)
    rw [flat_cons, List.length_append, fr_len, List.length_cons]; omega
theorem fs2 (rs : List (List Int)) (tail : List Int) (w : Nat) (hw : w ≤ rs.length) (h12 : rs.length ≤ 12) (hx : ∀ x ∈ rs, Byt x ∧ x.length ≤ 500) (ht : Byt tail) (hl : tail.length ≤ 1048576) :
    ∀ (d i : Nat), i + d = w → Ev2 (fun k m => h_law04_FrameScan_2 k m rs tail (flat rs) (rs.take w) (w : Int) (i : Int)) true := by
  intro d
  have hfl := flat_le rs h12 fun x h => (hx x h).2
  have hwl : (rs.take w).length = w := by rw [List.length_take]; omega
  induction d with
  | zero =>
    intro i hi
    refine Ev2.step (fun k m => h_law04_FrameScan_2_s k m rs tail (flat rs) (rs.take w) (w : Int) (i : Int)) (Ev2.negD (by omega) (Ev2.posD (by omega) (Ev2.posD (by rw [List.length_append]; omega) ?_)))
    obtain ⟨ts, r, e, hn, hts, hr⟩ := parts tail.length tail ht (Nat.le_refl _)
    have hR : ∀ x ∈ rs ++ ts, Rec x := by
      intro x hm
      rcases List.mem_append.1 hm with h | h
      · exact ⟨(hx x h).1, by have := (hx x h).2; omega⟩
      · exact hts x h
    have e2 : flat rs ++ tail = flat (rs ++ ts) ++ r := by rw [flat_app, List.append_assoc, ← e]
    have hs := scan_ev (rs ++ ts) r hR hr hn (by rw [← e2, List.length_append]; omega)
    rw [e2]
    refine Ev2.bind hs (Ev2.posD (by simp only [List.length_append]; omega) ?_)
    refine Ev2.const (congrArg some (decide_eq_true ?_))
    rw [flat_app, List.length_append]; omega
  | succ d ih =>
    intro i hi
    refine Ev2.step (fun k m => h_law04_FrameScan_2_s k m rs tail (flat rs) (rs.take w) (w : Int) (i : Int)) (Ev2.posD (by omega) (Ev2.pos (inb_true (by omega) (by omega)) (Ev2.pos (inb_true (by omega) (by omega)) (Ev2.neg ?_ ?_))))
    · rw [Int.toNat_natCast, getD_at _ _ _ (by omega), getD_at _ _ _ (by omega), List.getElem_take]; simp
    · rw [wnat (by omega)]; exact ih (i + 1) (by omega)
theorem fs1 (rs : List (List Int)) (tail : List Int) (w j : Nat) (hw : w ≤ rs.length) (h12 : rs.length ≤ 12) (hx : ∀ x ∈ rs, Byt x ∧ x.length ≤ 500) (ht : Byt tail) (hl : tail.length ≤ 1048576)
    (h4 : (flat (rs.take w)).length ≤ j) (h5 : w < rs.length → j < (flat (rs.take (w + 1))).length) :
    ∀ (d i : Nat), i + d = w → Ev2 (fun k m => h_law04_FrameScan_1 k m rs tail (flat rs) (j : Int) (rs.take w) ((flat (rs.take w)).length : Int) (i : Int) (ends rs rs.length)) true := by
  intro d
  have hwl : (rs.take w).length = w := by rw [List.length_take]; omega
  have hel := ends_len rs rs.length
  induction d with
  | zero =>
    intro i hi
    obtain rfl : i = w := by omega
    have fin : Ev2 (fun k m => h_law04_FrameScan_2 k k rs tail (flat rs) (rs.take i) ((rs.take i).length : Int) 0) true := by
      rw [hwl]
      exact Ev1.drop (Ev2.diag (f := fun k m => h_law04_FrameScan_2 k m rs tail (flat rs) (rs.take i) (i : Int) 0) (fs2 rs tail i hw h12 hx ht hl i 0 (by omega)))
    have fin2 : Ev2 (fun k m => bif decide ((i : Int) = 0) then bif (!decide (((flat (rs.take i)).length : Int) = 0)) then some false else h_law04_FrameScan_2 k k rs tail (flat rs) (rs.take i) ((rs.take i).length : Int) 0 else h_law04_FrameScan_2 k k rs tail (flat rs) (rs.take i) ((rs.take i).length : Int) 0) true := by
      by_cases h0 : i = 0
      · refine Ev2.posD (by omega) (Ev2.neg ?_ fin)
        rw [h0]; rfl
      · exact Ev2.negD (by omega) fin
    have fin3 : i ≤ rs.length → Ev2 (fun k m => bif decide ((0 : Int) < (i : Int)) then (bif (inb (w64 ((i : Int) - 1)) (ends rs rs.length).length) then (bif (!decide (((flat (rs.take i)).length : Int) = (ends rs rs.length).getD (Int.toNat (w64 ((i : Int) - 1))) 0)) then some false else (bif decide ((i : Int) = 0) then bif (!decide (((flat (rs.take i)).length : Int) = 0)) then some false else h_law04_FrameScan_2 k k rs tail (flat rs) (rs.take i) ((rs.take i).length : Int) 0 else h_law04_FrameScan_2 k k rs tail (flat rs) (rs.take i) ((rs.take i).length : Int) 0)) else none) else (bif decide ((i : Int) = 0) then bif (!decide (((flat (rs.take i)).length : Int) = 0)) then some false else h_law04_FrameScan_2 k k rs tail (flat rs) (rs.take i) ((rs.take i).length : Int) 0 else h_law04_FrameScan_2 k k rs tail (flat rs) (rs.take i) ((rs.take i).length : Int) 0)) true := by
      intro _
      by_cases h0 : 0 < i
      · have e : w64 ((i : Int) - 1) = ((i - 1 : Nat) : Int) := by rw [w64_id (by omega)]; omega
        rw [e]
        refine Ev2.posD (by omega) (Ev2.pos (inb_true (by omega) (by omega)) (Ev2.neg ?_ fin2))
        rw [ends_at rs _ _ (by omega), show i - 1 + 1 = i by omega]; simp
      · exact Ev2.negD (by omega) fin2
    refine Ev2.step (fun k m => h_law04_FrameScan_1_s k m rs tail (flat rs) (j : Int) (rs.take i) _ (i : Int) (ends rs rs.length) _ rfl _ rfl _ rfl) ?_
    by_cases hlt : i < rs.length
    · refine Ev2.posD (by omega) (Ev2.pos (inb_true (by omega) (by omega)) (Ev2.negD ?_ (Ev2.neg (by rw [hwl]; simp) (fin3 hw))))
      rw [ends_at rs _ _ hlt]
      have := h5 hlt
      omega
    · exact Ev2.negD (by omega) (Ev2.neg (by rw [hwl]; simp) (fin3 hw))
  | succ d ih =>
    intro i hi
    refine Ev2.step (fun k m => h_law04_FrameScan_1_s k m rs tail (flat rs) (j : Int) (rs.take w) _ (i : Int) (ends rs rs.length) _ rfl _ rfl _ rfl) (Ev2.posD (by omega) (Ev2.pos (inb_true (by omega) (by omega)) (Ev2.posD ?_ ?_)))
    · rw [ends_at rs _ _ (by omega)]
      have := flat_mono rs (show i + 1 ≤ w by omega)
      omega
    · rw [wnat (by omega)]; exact ih (i + 1) (by omega)
theorem fs0 (rs : List (List Int)) (tail : List Int) (cut : Int) (hc : 0 ≤ cut ∧ cut ≤ 65535) (h12 : rs.length ≤ 12) (hx : ∀ x ∈ rs, Byt x ∧ x.length ≤ 500) (ht : Byt tail) (hl : tail.length ≤ 1048576) :
    ∀ (d i : Nat), i + d = rs.length → Ev2 (fun k m => h_law04_FrameScan k m rs tail cut (flat (rs.take i)) rs (rs.length : Int) (i : Int) (ends rs i)) true := by
  intro d
  have hfl := flat_le rs h12 fun x h => (hx x h).2
  induction d with
  | zero =>
    intro i hi
    obtain rfl : i = rs.length := by omega
    rw [List.take_length]
    obtain ⟨j, hj, hj2⟩ : ∃ j : Nat, Int.tmod (w64 cut) (w64 (((flat rs).length : Int) + 1)) = (j : Int) ∧ j ≤ (flat rs).length := by
      rw [w64_id (x := cut) (by omega), w64_id (by omega)]
      have hm := tmod_facts (a := cut) (b := ((flat rs).length : Int) + 1) hc.1 (by omega)
      exact ⟨(Int.tmod cut (((flat rs).length : Int) + 1)).toNat, by omega, by omega⟩
    obtain ⟨w, r, h1, h2, h3, h4, h5⟩ := cut_at rs (fun x h => (hx x h).2) j hj2
    have hR : ∀ x ∈ rs.take w, Rec x := fun x hm => ⟨(hx x (List.mem_of_mem_take hm)).1, by have := (hx x (List.mem_of_mem_take hm)).2; omega⟩
    have hBf : Byt (flat rs) := flat_byt fun x hm => ⟨(hx x hm).1, by have := (hx x hm).2; omega⟩
    have hBr : Byt r := fun y hy => hBf y (List.mem_of_mem_take (i := j) (by rw [h2]; exact List.mem_append_right _ hy))
    have hs := scan_ev (rs.take w) r hR hBr h3 (by rw [← h2, List.length_take]; omega)
    rw [← h2] at hs
    refine Ev2.step (fun k m => h_law04_FrameScan_s k m rs tail cut (flat rs) rs (rs.length : Int) (rs.length : Int) (ends rs rs.length) _ rfl _ rfl (j : Int) hj.symm ((flat rs).take j) (by rw [Int.toNat_natCast]; rfl)) (Ev2.negD (by omega) (Ev2.pos ?_ (Ev2.pos (and2 (by omega) (by omega)) (Ev2.posD (by rw [List.length_take]; omega) (Ev2.bind hs ?_)))))
    · rw [w64_id (by omega), decide_eq_false (by omega)]; rfl
    · exact Ev1.drop (Ev2.diag (f := fun k m => h_law04_FrameScan_1 k m rs tail (flat rs) (j : Int) (rs.take w) ((flat (rs.take w)).length : Int) 0 (ends rs rs.length)) (fs1 rs tail w j h1 h12 hx ht hl h4 h5 w 0 (by omega)))
  | succ d ih =>
    intro i hi
    have hlt : i < rs.length := by omega
    have hxi := hx rs[i] (List.getElem_mem hlt)
    refine Ev2.step (fun k m => h_law04_FrameScan_s k m rs tail cut (flat (rs.take i)) rs (rs.length : Int) (i : Int) (ends rs i) _ rfl _ rfl _ rfl _ rfl) (Ev2.posD (by omega) (Ev2.pos (inb_true (by omega) (by omega)) ?_))
    rw [Int.toNat_natCast, getD_at rs i [] hlt, wnat (by omega)]
    have he : flat (rs.take i) ++ fr rs[i] = flat (rs.take (i + 1)) := by
      rw [List.take_succ_eq_append_getElem hlt, flat_app, flat_cons, flat_nil, List.append_nil]
    have hle := flat_mono rs (show i + 1 ≤ rs.length by omega)
    rw [List.take_length] at hle
    have hle2 : (flat (rs.take i)).length + (fr rs[i]).length = (flat (rs.take (i + 1))).length := by rw [← he, List.length_append]
    refine Ev2.bind (made_ev rs[i] (by omega)) (Ev2.posD (by omega) (Ev2.posD (by rw [ends_len]; simp only [List.length_cons, List.length_nil]; omega) ?_))
    rw [he]
    have e3 : ends rs i ++ [((flat (rs.take (i + 1))).length : Int)] = ends rs (i + 1) := by
      unfold ends
      rw [List.range_succ, List.map_append]; rfl
    rw [e3]
    exact ih (i + 1) (by omega)
theorem FrameScan (rs : List (List Int)) (tail : List Int) (cut : Int) (hrs : ∀ x ∈ rs, Byt x) (hrl : rs.length ≤ 140737488351232) (ht : Byt tail) (hl : tail.length ≤ 1048576) (hc : 0 ≤ cut ∧ cut ≤ 65535) :
    Ev1 (fun k => CF k sBo n_law04_FrameScan [inj (.slice BB) rs, inj BB tail, inj (.int .u16) cut]) true := by
  have hf : Ev1 (fun k => CF k ⟨[(false, .slice (.slice (.int .u8)))], []⟩ n_law04_Few [inj (.slice BB) rs]) (few rs) :=
    Ev1.step (fun k => f_law04_Few k rs) (Ev2.diag (f := fun k m => h_law04_Few k m rs (rs.length : Int) 0 []) (few_l rs hrl rs.length 0 (by omega)))
  refine Ev1.step (fun k => f_law04_FrameScan k rs tail cut) (Ev1.bind awake_ev (Ev1.neg rfl (Ev1.bind hf ?_)))
  have h12 : (few rs).length ≤ 12 := by unfold few; rw [List.length_map, List.length_take]; omega
  have hx : ∀ x ∈ few rs, Byt x ∧ x.length ≤ 500 := by
    intro x hm
    unfold few at hm
    obtain ⟨y, hy, rfl⟩ := List.mem_map.1 hm
    exact ⟨(hrs y (List.mem_of_mem_take hy)).take 500, by rw [List.length_take]; omega⟩
  exact Ev2.diag (f := fun k m => h_law04_FrameScan k m (few rs) tail cut [] (few rs) ((few rs).length : Int) 0 []) (fs0 (few rs) tail cut hc h12 hx ht hl (few rs).length 0 (by omega))
theorem okBB_of (l : List (List Int)) (h : l.length * 24 ≤ 140737488351232 ∧ ∀ x ∈ l, x.length * 1 ≤ 140737488351232 ∧ ∀ y ∈ x, (Lit.int .u8 y).wf = true) : (∀ x ∈ l, Byt x) ∧ l.length ≤ 140737488351232 := ⟨fun x hx y hy => wf_u8 ((h.2 x hx).2 y hy), by omega⟩
end Go.Eng.Frm
