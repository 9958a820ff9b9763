/- The real machine's steps, told one by one. -/
import Derived.Test.YtfkiapjkeopgfaaE3
set_option linter.all false
set_option linter.unusedVariables false
set_option linter.unusedSimpArgs false
set_option linter.deprecated false
namespace Go.Eng
open Go.RowKit
theorem run_bind {α β : Type} (P : Program) (e : Sem α) (f : α → Sem β) : ∀ w, (Sem.bind e f).run P w = match e.run P w with | .ok a w' => (f a).run P w' | .halt h w' => .halt h w' := by
  induction e with
  | pure a => intro w; rfl
  | load m a k ih =>
    intro w
    simp only [Sem.bind, Sem.run]
    split
    · exact ih _ w
    · split
      · exact ih _ w
      · rfl
  | store m a v k ih =>
    intro w
    cases v <;> simp only [Sem.bind, Sem.run] <;> (try rfl) <;> split <;> (try (split <;> first | rfl | exact ih _)) <;> (try (split <;> first | rfl | exact ih _))
  | new o k ih => intro w; exact ih _ _
  | shape r k ih => intro w; exact ih _ _
  | freeze a n k ih => intro w; exact ih _
  | frozen a k ih => intro w; exact ih _ _
  | getObj r k ih =>
    intro w
    simp only [Sem.bind, Sem.run]
    split
    · rfl
    · exact ih _ _
    · rfl
  | setObj r o k ih =>
    intro w
    simp only [Sem.bind, Sem.run]
    split
    · rfl
    · exact ih _
    · rfl
  | choose q k ih =>
    intro w
    simp only [Sem.bind, Sem.run]
    split <;> exact ih _ _
  | sys c k ih => intro w; exact ih _ _
  | program k ih => intro w; exact ih _ _
  | mark m k ih => intro w; exact ih _
  | halt h => intro w; rfl
theorem run_bind_ok {α β : Type} {P : Program} {e : Sem α} {f : α → Sem β} {w w' : World} {a : α} (h : e.run P w = .ok a w') : (Sem.bind e f).run P w = (f a).run P w' := by
  rw [run_bind, h]
theorem run_bind' {α β : Type} (P : Program) (e : Sem α) (f : α → Sem β) (w : World) : (e >>= f).run P w = match e.run P w with | .ok a w' => (f a).run P w' | .halt h w' => .halt h w' := run_bind P e f w
theorem run_ok {α β : Type} {P : Program} {e : Sem α} {f : α → Sem β} {w w' : World} {a : α} (h : e.run P w = .ok a w') : (e >>= f).run P w = (f a).run P w' := by
  rw [run_bind', h]
theorem run_pure {α : Type} (P : Program) (a : α) (w : World) : (pure a : Sem α).run P w = .ok a w := rfl
theorem run_underlying {P : Program} {t : TypeId} {d : TypeDesc} (h : P.underlying t = some d) (w : World) : (underlying t).run P w = .ok d w := by
  unfold underlying
  show (Sem.bind program _).run P w = _
  rw [run_bind]
  show Sem.run P (match P.underlying t with | some d => pure d | none => stuck "no such type") w = _
  rw [h]; rfl
theorem run_typeInfo {P : Program} {t : TypeId} {i : TypeInfo} (h : P.info? t = some i) (w : World) : (typeInfo t).run P w = .ok i w := by
  unfold typeInfo
  show (Sem.bind program _).run P w = _
  rw [run_bind]
  show Sem.run P (match P.info? t with | some d => pure d | none => stuck "no such type") w = _
  rw [h]; rfl
theorem sizeT_some {P : Program} {t : TypeId} {n : Nat} (h : sizeT P t = some n) : ∃ i, P.info? t = some i ∧ i.size = n := by
  unfold sizeT at h
  split at h
  · rename_i i hi; exact ⟨i, hi, by simpa using h⟩
  · cases h
theorem run_sizeOf {P : Program} {t : TypeId} {n : Nat} (h : sizeT P t = some n) (w : World) : (sizeOf t).run P w = .ok n w := by
  obtain ⟨i, hi, rfl⟩ := sizeT_some h
  unfold sizeOf
  rw [run_ok (run_typeInfo hi w)]; rfl
theorem zeroT_some {P : Program} {t : TypeId} {l : List Value} (h : zeroT P t = some l) : ∃ i v, P.info? t = some i ∧ i.zero = some v ∧ v.cells.toList = l ∧ l.all one = true := by
  unfold zeroT at h
  split at h
  · rename_i i hi
    split at h
    · rename_i v hv
      cases hc : v.cells.toList.all one with
      | true => rw [hc] at h; exact ⟨i, v, hi, hv, by simpa using h, by rw [← (by simpa using h : v.cells.toList = l)]; exact hc⟩
      | false => rw [hc] at h; cases h
    · cases h
  · cases h
theorem run_zeroValue {P : Program} {t : TypeId} {l : List Value} (h : zeroT P t = some l) (w : World) : ∃ v, (zeroValue t).run P w = .ok v w ∧ v.cells.toList = l ∧ l.all one = true := by
  obtain ⟨i, v, hi, hv, hl, ho⟩ := zeroT_some h
  refine ⟨v, ?_, hl, ho⟩
  unfold zeroValue
  rw [run_ok (run_typeInfo hi w)]
  simp only [hv]; rfl
theorem run_isAgg {P : Program} {t : TypeId} {b : Bool} (h : aggT P t = some b) (w : World) : (isAgg t).run P w = .ok b w := by
  unfold aggT at h
  cases hu : P.underlying t with
  | none => rw [hu] at h; cases h
  | some d =>
    rw [hu] at h
    unfold isAgg
    rw [run_ok (run_underlying hu w)]
    cases d <;> simp at h <;> subst h <;> rfl
theorem add_mk (b o n : Nat) : (⟨b, o, none⟩ : Addr).add n = ⟨b, o + n, none⟩ := by
  unfold Addr.add
  split
  · rename_i h; subst h; rfl
  · rfl
theorem run_load {P : Program} {w : World} {a : Addr} {v : Value} (h : w.cell? a = some v) : (load a).run P w = .ok v w := by
  simp [load, Sem.run, h]
theorem run_loadCellsFrom {P : Program} {w : World} {b o : Nat} : ∀ (vs : List Value) (i : Nat) (acc : Array Value), At w b (o + i) vs →
    (loadCellsFrom ⟨b, o, none⟩ i vs.length acc).run P w = .ok (acc ++ vs.toArray) w
  | [], i, acc, _ => by simp [loadCellsFrom]
  | v :: r, i, acc, h => by
    simp only [loadCellsFrom, List.length_cons]
    rw [add_mk, run_ok (run_load (by simpa using h 0 v rfl))]
    rw [run_loadCellsFrom r (i + 1) (acc.push v) (fun j u hj => by have := h (j + 1) u (by simpa using hj); rw [show o + (i + 1) + j = o + i + (j + 1) by omega]; exact this)]
    simp
theorem run_loadCells {P : Program} {w : World} {b o : Nat} {vs : List Value} (h : At w b o vs) : (loadCells ⟨b, o, none⟩ vs.length).run P w = .ok vs.toArray w := by
  unfold loadCells
  rw [run_loadCellsFrom vs 0 #[] (by simpa using h)]; simp
/-- A block's cells from o on written over. -/
def arrOver (arr : Array Value) : Nat → List Value → Array Value
  | _, [] => arr
  | o, v :: r => arrOver (arr.setIfInBounds o v) (o + 1) r
theorem arrOver_size : ∀ (vs : List Value) (arr : Array Value) (o : Nat), (arrOver arr o vs).size = arr.size
  | [], _, _ => rfl
  | v :: r, arr, o => by simp [arrOver, arrOver_size r]
theorem arrOver_get : ∀ (vs : List Value) (arr : Array Value) (o j : Nat), o + vs.length ≤ arr.size →
    (arrOver arr o vs)[j]? = if o ≤ j ∧ j < o + vs.length then vs[j - o]? else arr[j]?
  | [], arr, o, j, _ => by
    rw [if_neg (by simp)]; rfl
  | v :: r, arr, o, j, h => by
    simp only [List.length_cons] at h
    simp only [arrOver]
    rw [arrOver_get r _ (o + 1) j (by simp; omega)]
    by_cases h1 : j = o
    · subst h1
      rw [if_neg (by omega), if_pos (by simp)]
      simp [Array.getElem?_setIfInBounds]; omega
    · by_cases h2 : o + 1 ≤ j ∧ j < o + 1 + r.length
      · rw [if_pos h2, if_pos (by simp; omega)]
        obtain ⟨m, hm⟩ : ∃ m, j - o = m + 1 := ⟨j - o - 1, by omega⟩
        rw [hm, show j - (o + 1) = m by omega]; rfl
      · rw [if_neg h2, if_neg (by simp; omega)]
        rw [Array.getElem?_setIfInBounds_ne (by omega)]
/-- What stores leave. -/
structure Stored (w w' : World) (b : Nat) (arr' : Array Value) (T : TypeId) (fz : Nat × Nat) : Prop where
  os : w'.os = w.os
  tape : w'.tape = w.tape
  output : w'.output = w.output
  size : w'.heap.size = w.heap.size
  here : w'.heap[b]? = some (.cells arr' T fz)
  other : ∀ j, j ≠ b → w'.heap[j]? = w.heap[j]?
theorem run_store {P : Program} {w : World} {b o : Nat} {v : Value} {arr : Array Value} {T : TypeId} {fz : Nat × Nat} (hv : one v = true) (hb : w.heap[b]? = some (.cells arr T fz)) (ho : o < arr.size) (hf : ¬ (fz.1 ≤ o ∧ o < fz.2)) :
    ∃ w', (store ⟨b, o, none⟩ v).run P w = .ok () w' ∧ Stored w w' b (arr.setIfInBounds o v) T fz := by
  have hc : w.cell? ⟨b, o, none⟩ = some arr[o] := by simp [World.cell?, hb, ho]
  have hfr : w.frozen? ⟨b, o, none⟩ = false := by
    simp only [World.frozen?, hb]
    simp at hf ⊢
    intro h; have := hf h; omega
  refine ⟨w.setCell ⟨b, o, none⟩ v, ?_, rfl, rfl, rfl, by simp [World.setCell], ?_, fun j hj => ?_⟩
  · cases v <;> simp [one] at hv <;> simp [store, Sem.run, hc, hfr]
  · simp [World.setCell, Array.getElem?_modify, hb]
  · simp only [World.setCell, Array.getElem?_modify]; rw [if_neg (by simpa using fun e => hj e.symm)]
theorem run_storeCells {P : Program} {b o : Nat} {T : TypeId} {fz : Nat × Nat} : ∀ (vs : List Value) (i : Nat) (w : World) (arr : Array Value), (∀ v ∈ vs, one v = true) → w.heap[b]? = some (.cells arr T fz) → o + i + vs.length ≤ arr.size →
    (∀ j, o + i ≤ j → j < o + i + vs.length → ¬ (fz.1 ≤ j ∧ j < fz.2)) →
    ∃ w', (storeCells ⟨b, o, none⟩ vs i).run P w = .ok () w' ∧ Stored w w' b (arrOver arr (o + i) vs) T fz
  | [], i, w, arr, _, hb, _, _ => ⟨w, by simp [storeCells], rfl, rfl, rfl, rfl, by simpa [arrOver] using hb, fun _ _ => rfl⟩
  | v :: r, i, w, arr, h1, hb, hs, hf => by
    simp only [List.length_cons] at hs hf
    obtain ⟨w1, e1, s1⟩ := run_store (P := P) (o := o + i) (h1 v (by simp)) hb (by omega) (hf _ (by omega) (by omega))
    obtain ⟨w2, e2, s2⟩ := run_storeCells (P := P) (o := o) r (i + 1) w1 _ (fun u hu => h1 u (by simp [hu])) s1.here (by simp; omega) (fun j a1 a2 => hf j (by omega) (by omega))
    refine ⟨w2, ?_, s2.os.trans s1.os, s2.tape.trans s1.tape, s2.output.trans s1.output, s2.size.trans s1.size, s2.here, fun j hj => (s2.other j hj).trans (s1.other j hj)⟩
    simp only [storeCells]
    rw [add_mk, run_ok e1]; exact e2
end Go.Eng
