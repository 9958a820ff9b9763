/- Places in a box, and parts of a struct. -/
import Derived.Test.YtfkiapjkeopgfaaE7
set_option linter.all false
set_option linter.unusedVariables false
set_option linter.unusedSimpArgs false
set_option linter.deprecated false
namespace Go.Eng
open Go.RowKit
theorem allInt_some {k : IntKind} : ∀ {l : List S} {ns : List Int}, allInt k l = some ns → l = ns.map (.int k)
  | [], ns, h => by simp [allInt] at h; subst h; rfl
  | .int k' n :: r, ns, h => by
    simp only [allInt] at h
    by_cases e : k' = k
    · subst e
      simp only [decide_true, cond_true] at h
      split at h
      · rename_i l hl
        simp at h; subst h
        rw [allInt_some hl]; rfl
      · cases h
    · simp [e] at h
  | .undef :: _, _, h | .bool _ :: _, _, h | .str _ :: _, _, h | .err _ :: _, _, h | .fn _ :: _, _, h | .nilS :: _, _, h | .sl .. :: _, _, h | .vw .. :: _, _, h | .pv .. :: _, _, h | .ptr .. :: _, _, h | .mp _ :: _, _, h | .clo _ _ _ :: _, _, h | .ipt .. :: _, _, h | .mv .. :: _, _, h | .io .. :: _, _, h => by simp [allInt] at h
theorem allBool_some : ∀ {l : List S} {ns : List Bool}, allBool l = some ns → l = ns.map .bool
  | [], ns, h => by simp [allBool] at h; subst h; rfl
  | .bool n :: r, ns, h => by
    simp only [allBool] at h
    split at h
    · rename_i l hl
      simp at h; subst h
      rw [allBool_some hl]; rfl
    · cases h
  | .undef :: _, _, h | .int .. :: _, _, h | .str _ :: _, _, h | .err _ :: _, _, h | .fn _ :: _, _, h | .nilS :: _, _, h | .sl .. :: _, _, h | .vw .. :: _, _, h | .pv .. :: _, _, h | .ptr .. :: _, _, h | .mp _ :: _, _, h | .clo _ _ _ :: _, _, h | .ipt .. :: _, _, h | .mv .. :: _, _, h | .io .. :: _, _, h => by simp [allBool] at h
theorem selInt_get : ∀ (l : List Int) (i : Int), 0 ≤ i → i < (l.length : Int) → l[i.toNat]? = some (selInt i l)
  | [], i, h0, h1 => by simp at h1; omega
  | [n], i, h0, h1 => by
    have : i = 0 := by simp at h1; omega
    subst this; rfl
  | n :: m :: r, i, h0, h1 => by
    simp only [selInt]
    by_cases e : i = 0
    · subst e; rfl
    · have h2 := selInt_get (m :: r) (i - 1) (by omega) (by simp at h1 ⊢; omega)
      obtain ⟨j, hj⟩ : ∃ j, i.toNat = j + 1 := ⟨i.toNat - 1, by omega⟩
      rw [hj, show j = (i - 1).toNat by omega]
      simp only [e, decide_false, cond_false, List.getElem?_cons_succ]
      exact h2
theorem selBool_get : ∀ (l : List Bool) (i : Int), 0 ≤ i → i < (l.length : Int) → l[i.toNat]? = some (selBool i l)
  | [], i, h0, h1 => by simp at h1; omega
  | [n], i, h0, h1 => by
    have : i = 0 := by simp at h1; omega
    subst this; rfl
  | n :: m :: r, i, h0, h1 => by
    simp only [selBool]
    by_cases e : i = 0
    · subst e; rfl
    · have h2 := selBool_get (m :: r) (i - 1) (by omega) (by simp at h1 ⊢; omega)
      obtain ⟨j, hj⟩ : ∃ j, i.toNat = j + 1 := ⟨i.toNat - 1, by omega⟩
      rw [hj, show j = (i - 1).toNat by omega]
      simp only [e, decide_false, cond_false, List.getElem?_cons_succ]
      exact h2
theorem selS_get {i : Int} {l : List S} {s : S} (h : selS i l = some s) (h0 : 0 ≤ i) (h1 : i < (l.length : Int)) : l[i.toNat]? = some s := by
  unfold selS at h
  split at h
  · rename_i k n r
    split at h
    · rename_i ns hn
      simp only [Option.some.injEq] at h; subst h
      have e : (S.int k n :: r) = (n :: ns).map (.int k) := by rw [allInt_some hn]; rfl
      rw [e, List.getElem?_map, selInt_get _ i h0 (by rw [e] at h1; simpa using h1)]; rfl
    · cases h
  · rename_i n r
    split at h
    · rename_i ns hn
      simp only [Option.some.injEq] at h; subst h
      have e : (S.bool n :: r) = (n :: ns).map .bool := by rw [allBool_some hn]; rfl
      rw [e, List.getElem?_map, selBool_get _ i h0 (by rw [e] at h1; simpa using h1)]; rfl
    · cases h
  · cases h
theorem selS_ne {i : Int} {l : List S} {s : S} (h : selS i l = some s) : s ≠ .undef := by
  unfold selS at h
  split at h
  · split at h
    · simp only [Option.some.injEq] at h; subst h; simp
    · cases h
  · split at h
    · simp only [Option.some.injEq] at h; subst h; simp
    · cases h
  · cases h
theorem selC_get {i : Int} : ∀ (m : Nat) (cols : List (List S)) (r : List S), selC i m cols = some r → 0 ≤ i → i < (cols.length : Int) → r.length = m ∧ ∀ (p : Nat) s, r[p]? = some s → (cols[i.toNat]?).bind (·[p]?) = some s
  | 0, cols, r, h, _, _ => by simp [selC] at h; subst h; simp
  | m + 1, cols, r, h, h0, h1 => by
    simp only [selC] at h
    split at h
    · rename_i s q hs hq
      simp only [Option.some.injEq] at h; subst h
      obtain ⟨l1, l2⟩ := selC_get m _ q hq h0 (by simpa using h1)
      refine ⟨by simp [l1], fun p x hx => ?_⟩
      have hlt : i.toNat < cols.length := by omega
      rw [List.getElem?_eq_getElem hlt, Option.bind_some]
      cases p with
      | zero =>
        simp at hx; subst hx
        have := selS_get hs h0 (by simpa using h1)
        rw [List.getElem?_map, List.getElem?_eq_getElem hlt] at this
        simp only [Option.map_some, Option.some.injEq] at this
        have hne := selS_ne hs
        cases hcol : cols[i.toNat] with
        | nil => rw [hcol] at this; simp at this; exact (hne this.symm).elim
        | cons a b => rw [hcol] at this; simp at this; simp [this]
      | succ p =>
        have := l2 p x (by simpa using hx)
        rw [List.getElem?_map, List.getElem?_eq_getElem hlt] at this
        simp only [Option.map_some, Option.bind_some] at this
        simpa using this
    · cases h
theorem chunks_get (sz : Nat) : ∀ (n : Nat) (cs : List S) (i p : Nat), (((chunks sz n cs)[i]?).bind (·[p]?)) = if i < n ∧ p < sz then cs[i * sz + p]? else none
  | 0, cs, i, p => by simp [chunks]
  | n + 1, cs, 0, p => by
    simp only [chunks, List.getElem?_cons_zero, Option.bind_some, List.getElem?_take]
    by_cases h : p < sz <;> simp [h]
  | n + 1, cs, i + 1, p => by
    simp only [chunks, List.getElem?_cons_succ]
    rw [chunks_get sz n _ i p]
    by_cases h : i < n ∧ p < sz
    · rw [if_pos h, if_pos (by omega), List.getElem?_drop]
      congr 1; rw [Nat.add_mul]; omega
    · rw [if_neg h, if_neg (by omega)]
theorem chunks_length (sz : Nat) : ∀ (n : Nat) (cs : List S), (chunks sz n cs).length = n
  | 0, _ => rfl
  | n + 1, cs => by simp [chunks, chunks_length sz n]
theorem getP_get : ∀ (p : List PStep) (X cs : List S), getP p X = some cs → pathIn p → ∀ (j : Nat) s, cs[j]? = some s → X[pathOff p + j]? = some s
  | [], X, cs, h, _, j, s, hs => by
    simp [getP] at h; subst h; simpa [pathOff] using hs
  | .fld off :: p, X, cs, h, hp, j, s, hs => by
    simp only [getP] at h
    have := getP_get p _ cs h (fun s hs => hp s (by simp [hs])) j s hs
    rw [List.getElem?_drop] at this
    simp only [pathOff, List.foldr_cons, stepOff] at this ⊢
    rw [Nat.add_assoc]; exact this
  | .idx n sz i :: p, X, cs, h, hp, j, s, hs => by
    simp only [getP] at h
    split at h
    · rename_i cc hc
      have hi : stepIn (.idx n sz i) := hp _ (by simp)
      obtain ⟨h0, h1⟩ := hi
      obtain ⟨q1, q2⟩ := selC_get sz _ cc hc h0 (by rw [chunks_length]; exact h1)
      have := getP_get p _ cs h (fun s hs => hp s (by simp [hs])) j s hs
      have := q2 _ _ this
      rw [chunks_get] at this
      split at this
      · simp only [pathOff, List.foldr_cons, stepOff] at this ⊢
        rw [Nat.add_assoc]; exact this
      · cases this
    · cases h
/-- The real cells behind a list of them. -/
theorem LR.sub {c : Cx} {X : List S} {vx : List Value} (h : LR (RepS c) X vx) {cs : List S} {o : Nat} (hc : ∀ (j : Nat) s, cs[j]? = some s → X[o + j]? = some s) :
    ∃ vs, LR (RepS c) cs vs ∧ ∀ (j : Nat) v, vs[j]? = some v → vx[o + j]? = some v := by
  have hlen : cs ≠ [] → o + cs.length ≤ X.length := by
    intro hne
    have hl : 0 < cs.length := List.length_pos_iff.2 hne
    have := hc (cs.length - 1) (cs[cs.length - 1]) (by rw [List.getElem?_eq_getElem])
    obtain ⟨q, _⟩ := List.getElem?_eq_some_iff.1 this
    omega
  refine ⟨(vx.drop o).take cs.length, ?_, fun j v hv => ?_⟩
  · have e : cs = (X.drop o).take cs.length := by
      apply List.ext_getElem?
      intro j
      rw [List.getElem?_take]
      by_cases hj : j < cs.length
      · rw [if_pos hj, List.getElem?_drop, List.getElem?_eq_getElem hj]
        exact (hc j _ (List.getElem?_eq_getElem hj)).symm
      · rw [if_neg hj, List.getElem?_eq_none (by omega)]
    have := (h.drop o).take cs.length
    rw [← e] at this; exact this
  · rw [List.getElem?_take] at hv
    split at hv
    · rwa [List.getElem?_drop] at hv
    · cases hv
theorem mixL_true : ∀ {a b x : List S}, mixL true a b = some x → x = a
  | [], [], x, h => by simp [mixL] at h; exact h
  | a :: r, b :: s, x, h => by
    simp only [mixL] at h
    split at h
    · rename_i y z hy hz
      simp only [Option.some.injEq] at h; subst h
      rw [mixL_true hz]
      congr 1
      unfold mixS at hy
      split at hy
      · rename_i k n k' m
        by_cases e : k = k' <;> simp [e] at hy
        rw [← hy, e]
      · simp at hy; exact hy.symm
      · cases hy
    · cases h
  | [], _ :: _, _, h => by simp [mixL] at h
  | _ :: _, [], _, h => by simp [mixL] at h
theorem mixL_false : ∀ {a b x : List S}, mixL false a b = some x → x = b
  | [], [], x, h => by simp [mixL] at h; exact h
  | a :: r, b :: s, x, h => by
    simp only [mixL] at h
    split at h
    · rename_i y z hy hz
      simp only [Option.some.injEq] at h; subst h
      rw [mixL_false hz]
      congr 1
      unfold mixS at hy
      split at hy
      · rename_i k n k' m
        by_cases e : k = k' <;> simp [e] at hy
        rw [← hy]
      · simp at hy; exact hy.symm
      · cases hy
    · cases h
  | [], _ :: _, _, h => by simp [mixL] at h
  | _ :: _, [], _, h => by simp [mixL] at h
theorem over_eq : ∀ (new cs : List S), new.length ≤ cs.length → over new cs = new ++ cs.drop new.length
  | [], cs, _ => by simp [over]
  | x :: r, [], h => by simp at h
  | x :: r, _ :: cs, h => by simp [over, over_eq r cs (by simpa using h)]
theorem take_add' {α : Type} (l : List α) (i j : Nat) : l.take (i + j) = l.take i ++ (l.drop i).take j := by
  rw [List.take_add]
/-- Cells written over from o on. -/
def Wr (X new X' : List S) (o : Nat) : Prop := o + new.length ≤ X.length ∧ X' = X.take o ++ new ++ X.drop (o + new.length)
theorem Wr.shift {X new r : List S} {off o : Nat} (ho : off ≤ X.length) (h : Wr (X.drop off) new r o) : Wr X new (X.take off ++ r) (off + o) := by
  obtain ⟨h1, h2⟩ := h
  simp only [List.length_drop] at h1
  refine ⟨by omega, ?_⟩
  rw [h2, List.drop_drop, take_add']
  simp only [List.append_assoc, Nat.add_assoc]
theorem setCh_eq {f : List S → Option (List S)} {new : List S} {q : Nat} {i : Int} {sz : Nat} (hf : ∀ X X', f X = some X' → Wr X new X' q) :
    ∀ (n : Nat) (j : Int) (X X' : List S), setCh f i sz n j X = some X' → (i < j → X' = X) ∧ (j ≤ i → i < j + n → Wr X new X' ((i - j).toNat * sz + q))
  | 0, j, X, X', h => by
    simp [setCh] at h; subst h
    exact ⟨fun _ => rfl, fun h1 h2 => by omega⟩
  | n + 1, j, X, X', h => by
    simp only [setCh] at h
    cases hb : Nat.ble sz X.length with
    | false => rw [hb] at h; cases h
    | true =>
    rw [hb] at h
    simp only [cond_true] at h
    have hsz : sz ≤ X.length := Nat.le_of_ble_eq_true hb
    split at h
    · rename_i cc hc
      split at h
      · rename_i x y hx hy
        simp only [Option.some.injEq] at h; subst h
        obtain ⟨r1, r2⟩ := setCh_eq hf n (j + 1) _ y hy
        have hw := hf _ _ hc
        refine ⟨fun hij => ?_, fun h1 h2 => ?_⟩
        · have e : decide (i = j) = false := by simp; omega
          rw [e] at hx
          rw [mixL_false hx, r1 (by omega), List.take_append_drop]
        · by_cases e : i = j
          · subst e
            simp only [decide_true] at hx
            rw [mixL_true hx, r1 (by omega)]
            simp only [Int.sub_self, Int.toNat_zero, Nat.zero_mul, Nat.zero_add]
            obtain ⟨w1, w2⟩ := hw
            simp only [List.length_take] at w1
            refine ⟨by omega, ?_⟩
            rw [w2, List.take_take, Nat.min_eq_left (by omega), List.append_assoc, List.append_assoc, List.append_assoc]
            congr 2
            conv => rhs; rw [← List.take_append_drop sz X]
            rw [List.drop_append_of_le_length (by simp; omega)]
          · have e' : decide (i = j) = false := by simp [e]
            rw [e'] at hx
            rw [mixL_false hx]
            obtain ⟨w1, w2⟩ := r2 (by omega) (by omega)
            obtain ⟨m, hm⟩ : ∃ m, (i - j).toNat = m + 1 := ⟨(i - j).toNat - 1, by omega⟩
            have hm' : (i - (j + 1)).toNat = m := by omega
            rw [hm'] at w1 w2
            rw [hm]
            have := Wr.shift hsz ⟨w1, w2⟩
            rw [show (m + 1) * sz + q = sz + (m * sz + q) by rw [Nat.add_mul]; omega]
            exact this
      · cases h
    · cases h
theorem setP_eq : ∀ (p : List PStep) (new X X' : List S), setP p new X = some X' → pathIn p → Wr X new X' (pathOff p)
  | [], new, X, X', h, _ => by
    simp only [setP] at h
    cases hb : Nat.ble new.length X.length with
    | false => rw [hb] at h; cases h
    | true =>
      rw [hb] at h
      simp only [cond_true, Option.some.injEq] at h
      have := Nat.le_of_ble_eq_true hb
      subst h
      simp [Wr, pathOff, over_eq new X this, this]
  | .fld off :: p, new, X, X', h, hp => by
    simp only [setP] at h
    cases hb : Nat.ble off X.length with
    | false => rw [hb] at h; cases h
    | true =>
      rw [hb] at h
      simp only [cond_true] at h
      split at h
      · rename_i r hr
        simp only [Option.some.injEq] at h; subst h
        exact Wr.shift (Nat.le_of_ble_eq_true hb) (setP_eq p new _ r hr (fun s hs => hp s (by simp [hs])))
      · cases h
  | .idx n sz i :: p, new, X, X', h, hp => by
    have hi : stepIn (.idx n sz i) := hp _ (by simp)
    obtain ⟨h0, h1⟩ := hi
    simp only [setP] at h
    have := (setCh_eq (fun X X' hx => setP_eq p new X X' hx (fun s hs => hp s (by simp [hs]))) n 0 X X' h).2 h0 (by omega)
    simpa [pathOff, stepOff] using this
end Go.Eng
