/- Small laws for pure proofs: wraps by name, binds, loops by rounds. -/
import Derived.Test.YtfkiapjkeopgfaaE29
set_option linter.all false
set_option linter.unusedVariables false
set_option linter.unusedSimpArgs false
set_option linter.deprecated false
namespace Go.Eng
abbrev w8 (n : Int) : Int := IntKind.u8.wrap n
abbrev w16 (n : Int) : Int := IntKind.u16.wrap n
abbrev w32 (n : Int) : Int := IntKind.u32.wrap n
abbrev wu64 (n : Int) : Int := IntKind.u64.wrap n
abbrev wi8 (n : Int) : Int := IntKind.i8.wrap n
abbrev wi16 (n : Int) : Int := IntKind.i16.wrap n
abbrev wi32 (n : Int) : Int := IntKind.i32.wrap n
theorem w16_eq {n : Int} (h1 : 0 ≤ n) (h2 : n < 65536) : w16 n = n := by
  unfold w16 IntKind.wrap
  simp only [IntKind.bits, IntKind.signed, Bool.false_and, Bool.false_eq_true, if_false]
  omega
theorem w32_eq {n : Int} (h1 : 0 ≤ n) (h2 : n < 4294967296) : w32 n = n := by
  unfold w32 IntKind.wrap
  simp only [IntKind.bits, IntKind.signed, Bool.false_and, Bool.false_eq_true, if_false]
  omega
theorem wu64_eq {n : Int} (h1 : 0 ≤ n) (h2 : n < 18446744073709551616) : wu64 n = n := by
  unfold wu64 IntKind.wrap
  simp only [IntKind.bits, IntKind.signed, Bool.false_and, Bool.false_eq_true, if_false]
  omega
theorem w8_mod (n : Int) : w8 n = n % 256 := by
  unfold w8 IntKind.wrap
  simp only [IntKind.bits, IntKind.signed, Bool.false_and, Bool.false_eq_true, if_false]
  rfl
theorem w32_mod (n : Int) : w32 n = n % 4294967296 := by
  unfold w32 IntKind.wrap
  simp only [IntKind.bits, IntKind.signed, Bool.false_and, Bool.false_eq_true, if_false]
  rfl
theorem wu64_mod (n : Int) : wu64 n = n % 18446744073709551616 := by
  unfold wu64 IntKind.wrap
  simp only [IntKind.bits, IntKind.signed, Bool.false_and, Bool.false_eq_true, if_false]
  rfl
theorem bindE {α β : Type} {o : Option α} {v : α} {F : α → Option β} {r : Option β} (h : o = some v) (h2 : F v = r) : o.bind F = r := by subst h; exact h2
/-! What holds from some number of rounds on. -/
def Ev1 {α : Type} (f : Nat → Option α) (r : α) : Prop := ∃ K : Nat, ∀ k : Nat, K ≤ k → f k = some r
theorem Ev1.now {α : Type} (r : α) : Ev1 (fun _ => some r) r := ⟨0, fun _ _ => rfl⟩
theorem Ev1.const {α : Type} {o : Option α} {r : α} (h : o = some r) : Ev1 (fun _ => o) r := ⟨0, fun _ _ => h⟩
theorem Ev1.of {α : Type} {f g : Nat → Option α} {r : α} (h : ∀ k, f k = g k) (hg : Ev1 g r) : Ev1 f r := by
  obtain ⟨K, hK⟩ := hg
  exact ⟨K, fun k hk => (h k).trans (hK k hk)⟩
theorem Ev1.iff {α : Type} {p : Prop} [Decidable p] {f g : Nat → Option α} {r : α} (h1 : p → Ev1 f r) (h2 : ¬ p → Ev1 g r) : Ev1 (fun k => bif decide p then f k else g k) r := by
  by_cases h : p
  · simp only [decide_eq_true h, cond_true]; exact h1 h
  · simp only [decide_eq_false h, cond_false]; exact h2 h
theorem Ev1.pos {α : Type} {b : Bool} {f g : Nat → Option α} {r : α} (h : b = true) (h1 : Ev1 f r) : Ev1 (fun k => bif b then f k else g k) r := by subst h; exact h1
theorem Ev1.neg {α : Type} {b : Bool} {f g : Nat → Option α} {r : α} (h : b = false) (h1 : Ev1 g r) : Ev1 (fun k => bif b then f k else g k) r := by subst h; exact h1
theorem Ev1.posD {α : Type} {p : Prop} [Decidable p] {f g : Nat → Option α} {r : α} (h : p) (h1 : Ev1 f r) : Ev1 (fun k => bif decide p then f k else g k) r := Ev1.pos (decide_eq_true h) h1
theorem Ev1.negD {α : Type} {p : Prop} [Decidable p] {f g : Nat → Option α} {r : α} (h : ¬ p) (h1 : Ev1 g r) : Ev1 (fun k => bif decide p then f k else g k) r := Ev1.neg (decide_eq_false h) h1
theorem Ev1.step {α : Type} {f g : Nat → Option α} {r : α} (h : ∀ k, f (k + 1) = g k) (hg : Ev1 g r) : Ev1 f r := by
  obtain ⟨K, hK⟩ := hg
  refine ⟨K + 1, fun k hk => ?_⟩
  obtain ⟨j, rfl⟩ : ∃ j, k = j + 1 := ⟨k - 1, by omega⟩
  exact (h j).trans (hK j (by omega))
theorem Ev1.bind {α β : Type} {a : Nat → Option α} {F : Nat → α → Option β} {x : α} {r : β} (h : Ev1 a x) (hg : Ev1 (fun k => F k x) r) : Ev1 (fun k => (a k).bind (F k)) r := by
  obtain ⟨K, hK⟩ := h
  obtain ⟨L, hL⟩ := hg
  refine ⟨max K L, fun k hk => ?_⟩
  show (a k).bind (F k) = some r
  rw [hK k (by omega)]
  exact hL k (by omega)
def Ev2 {α : Type} (f : Nat → Nat → Option α) (r : α) : Prop := ∃ K : Nat, ∀ k m : Nat, K ≤ k → K ≤ m → f k m = some r
theorem Ev2.now {α : Type} (r : α) : Ev2 (fun _ _ => some r) r := ⟨0, fun _ _ _ _ => rfl⟩
theorem Ev2.const {α : Type} {o : Option α} {r : α} (h : o = some r) : Ev2 (fun _ _ => o) r := ⟨0, fun _ _ _ _ => h⟩
theorem Ev2.of {α : Type} {f g : Nat → Nat → Option α} {r : α} (h : ∀ k m, f k m = g k m) (hg : Ev2 g r) : Ev2 f r := by
  obtain ⟨K, hK⟩ := hg
  exact ⟨K, fun k m hk hm => (h k m).trans (hK k m hk hm)⟩
theorem Ev2.iff {α : Type} {p : Prop} [Decidable p] {f g : Nat → Nat → Option α} {r : α} (h1 : p → Ev2 f r) (h2 : ¬ p → Ev2 g r) : Ev2 (fun k m => bif decide p then f k m else g k m) r := by
  by_cases h : p
  · simp only [decide_eq_true h, cond_true]; exact h1 h
  · simp only [decide_eq_false h, cond_false]; exact h2 h
theorem Ev2.pos {α : Type} {b : Bool} {f g : Nat → Nat → Option α} {r : α} (h : b = true) (h1 : Ev2 f r) : Ev2 (fun k m => bif b then f k m else g k m) r := by subst h; exact h1
theorem Ev2.neg {α : Type} {b : Bool} {f g : Nat → Nat → Option α} {r : α} (h : b = false) (h1 : Ev2 g r) : Ev2 (fun k m => bif b then f k m else g k m) r := by subst h; exact h1
theorem Ev2.posD {α : Type} {p : Prop} [Decidable p] {f g : Nat → Nat → Option α} {r : α} (h : p) (h1 : Ev2 f r) : Ev2 (fun k m => bif decide p then f k m else g k m) r := Ev2.pos (decide_eq_true h) h1
theorem Ev2.negD {α : Type} {p : Prop} [Decidable p] {f g : Nat → Nat → Option α} {r : α} (h : ¬ p) (h1 : Ev2 g r) : Ev2 (fun k m => bif decide p then f k m else g k m) r := Ev2.neg (decide_eq_false h) h1
theorem Ev2.step {α : Type} {f g : Nat → Nat → Option α} {r : α} (h : ∀ k m, f k (m + 1) = g k m) (hg : Ev2 g r) : Ev2 f r := by
  obtain ⟨K, hK⟩ := hg
  refine ⟨K + 1, fun k m hk hm => ?_⟩
  obtain ⟨j, rfl⟩ : ∃ j, m = j + 1 := ⟨m - 1, by omega⟩
  exact (h k j).trans (hK k j (by omega) (by omega))
theorem Ev2.bind {α β : Type} {a : Nat → Option α} {F : Nat → Nat → α → Option β} {x : α} {r : β} (h : Ev1 a x) (hg : Ev2 (fun k m => F k m x) r) : Ev2 (fun k m => (a k).bind (F k m)) r := by
  obtain ⟨K, hK⟩ := h
  obtain ⟨L, hL⟩ := hg
  refine ⟨max K L, fun k m hk hm => ?_⟩
  show (a k).bind (F k m) = some r
  rw [hK k (by omega)]
  exact hL k m (by omega) (by omega)
def Ev3 {α : Type} (f : Nat → Nat → Nat → Option α) (r : α) : Prop := ∃ K : Nat, ∀ k m m2 : Nat, K ≤ k → K ≤ m → K ≤ m2 → f k m m2 = some r
theorem Ev3.now {α : Type} (r : α) : Ev3 (fun _ _ _ => some r) r := ⟨0, fun _ _ _ _ _ _ => rfl⟩
theorem Ev3.const {α : Type} {o : Option α} {r : α} (h : o = some r) : Ev3 (fun _ _ _ => o) r := ⟨0, fun _ _ _ _ _ _ => h⟩
theorem Ev3.of {α : Type} {f g : Nat → Nat → Nat → Option α} {r : α} (h : ∀ k m m2, f k m m2 = g k m m2) (hg : Ev3 g r) : Ev3 f r := by
  obtain ⟨K, hK⟩ := hg
  exact ⟨K, fun k m m2 hk hm hm2 => (h k m m2).trans (hK k m m2 hk hm hm2)⟩
theorem Ev3.iff {α : Type} {p : Prop} [Decidable p] {f g : Nat → Nat → Nat → Option α} {r : α} (h1 : p → Ev3 f r) (h2 : ¬ p → Ev3 g r) : Ev3 (fun k m m2 => bif decide p then f k m m2 else g k m m2) r := by
  by_cases h : p
  · simp only [decide_eq_true h, cond_true]; exact h1 h
  · simp only [decide_eq_false h, cond_false]; exact h2 h
theorem Ev3.pos {α : Type} {b : Bool} {f g : Nat → Nat → Nat → Option α} {r : α} (h : b = true) (h1 : Ev3 f r) : Ev3 (fun k m m2 => bif b then f k m m2 else g k m m2) r := by subst h; exact h1
theorem Ev3.neg {α : Type} {b : Bool} {f g : Nat → Nat → Nat → Option α} {r : α} (h : b = false) (h1 : Ev3 g r) : Ev3 (fun k m m2 => bif b then f k m m2 else g k m m2) r := by subst h; exact h1
theorem Ev3.posD {α : Type} {p : Prop} [Decidable p] {f g : Nat → Nat → Nat → Option α} {r : α} (h : p) (h1 : Ev3 f r) : Ev3 (fun k m m2 => bif decide p then f k m m2 else g k m m2) r := Ev3.pos (decide_eq_true h) h1
theorem Ev3.negD {α : Type} {p : Prop} [Decidable p] {f g : Nat → Nat → Nat → Option α} {r : α} (h : ¬ p) (h1 : Ev3 g r) : Ev3 (fun k m m2 => bif decide p then f k m m2 else g k m m2) r := Ev3.neg (decide_eq_false h) h1
theorem Ev3.step {α : Type} {f g : Nat → Nat → Nat → Option α} {r : α} (h : ∀ k m m2, f k m (m2 + 1) = g k m m2) (hg : Ev3 g r) : Ev3 f r := by
  obtain ⟨K, hK⟩ := hg
  refine ⟨K + 1, fun k m m2 hk hm hm2 => ?_⟩
  obtain ⟨j, rfl⟩ : ∃ j, m2 = j + 1 := ⟨m2 - 1, by omega⟩
  exact (h k m j).trans (hK k m j (by omega) (by omega) (by omega))
theorem Ev3.bind {α β : Type} {a : Nat → Option α} {F : Nat → Nat → Nat → α → Option β} {x : α} {r : β} (h : Ev1 a x) (hg : Ev3 (fun k m m2 => F k m m2 x) r) : Ev3 (fun k m m2 => (a k).bind (F k m m2)) r := by
  obtain ⟨K, hK⟩ := h
  obtain ⟨L, hL⟩ := hg
  refine ⟨max K L, fun k m m2 hk hm hm2 => ?_⟩
  show (a k).bind (F k m m2) = some r
  rw [hK k (by omega)]
  exact hL k m m2 (by omega) (by omega) (by omega)
theorem Ev2.diag {α : Type} {f : Nat → Nat → Option α} {r : α} (h : Ev2 f r) : Ev1 (fun k => f k k) r := by
  obtain ⟨K, hK⟩ := h
  exact ⟨K, fun k hk => hK k k hk hk⟩
theorem Ev3.diag {α : Type} {f : Nat → Nat → Nat → Option α} {r : α} (h : Ev3 f r) : Ev2 (fun k m => f k m k) r := by
  obtain ⟨K, hK⟩ := h
  exact ⟨K, fun k m hk hm => hK k m k hk hm hk⟩
theorem Ev2.drop {α : Type} {f : Nat → Nat → Option α} {r : α} (h : Ev2 f r) : Ev3 (fun k m _ => f k m) r := by
  obtain ⟨K, hK⟩ := h
  exact ⟨K, fun k m _ hk hm _ => hK k m hk hm⟩
theorem Ev1.drop {α : Type} {f : Nat → Option α} {r : α} (h : Ev1 f r) : Ev2 (fun k _ => f k) r := by
  obtain ⟨K, hK⟩ := h
  exact ⟨K, fun k _ hk _ => hK k hk⟩
theorem Ev1.of_rfl {α : Type} {f : Nat → Option α} {r : α} (K : Nat) (h : ∀ k, f (k + K) = some r) : Ev1 f r := ⟨K, fun k hk => by
  obtain ⟨j, rfl⟩ : ∃ j, k = j + K := ⟨k - K, by omega⟩
  exact h j⟩
theorem Ev1.uniq {α : Type} {f : Nat → Option α} {r q : α} (h : Ev1 f r) (h' : Ev1 f q) : r = q := by
  obtain ⟨K, hK⟩ := h; obtain ⟨L, hL⟩ := h'
  have h1 := hK (max K L) (Nat.le_max_left _ _); have h2 := hL (max K L) (Nat.le_max_right _ _)
  rw [h1] at h2; exact Option.some.inj h2
theorem inb_true {i : Int} {n : Nat} (h0 : 0 ≤ i) (h1 : i < n) : inb i n = true := by simp only [inb, Bool.and_eq_true, decide_eq_true_eq]; exact ⟨h0, h1⟩
theorem and2 {p q : Prop} [Decidable p] [Decidable q] (h1 : p) (h2 : q) : (decide p && decide q) = true := by rw [decide_eq_true h1, decide_eq_true h2]; rfl
theorem wnat {i : Nat} (h : i < 9223372036854775807) : w64 ((i : Int) + 1) = ((i + 1 : Nat) : Int) := by rw [w64_eq (by omega) (by omega)]; omega
theorem getD_nat (l : List Int) (i : Nat) (d : Int) (h : i < l.length) : l.getD (Int.toNat (i : Int)) d = l[i] := by
  rw [Int.toNat_natCast, List.getD_eq_getElem?_getD, List.getElem?_eq_getElem h]; rfl
theorem getD_at {α : Type} (l : List α) (i : Nat) (d : α) (h : i < l.length) : l.getD i d = l[i] := by
  rw [List.getD_eq_getElem?_getD, List.getElem?_eq_getElem h]; rfl
theorem w64_id {x : Int} (h : -9223372036854775808 ≤ x ∧ x ≤ 9223372036854775807) : w64 x = x := w64_eq h.1 (by omega)
/-! Bounds of a kind's numbers. -/
theorem wf_u8 {a : Int} (h : (Lit.int .u8 a).wf = true) : 0 ≤ a ∧ a ≤ 255 := by
  have h1 : IntKind.u8.min ≤ a ∧ a ≤ IntKind.u8.max := by simpa [Lit.wf] using h
  rwa [show IntKind.u8.min = 0 from rfl, show IntKind.u8.max = 255 from rfl] at h1
theorem wf_u16 {a : Int} (h : (Lit.int .u16 a).wf = true) : 0 ≤ a ∧ a ≤ 65535 := by
  have h1 : IntKind.u16.min ≤ a ∧ a ≤ IntKind.u16.max := by simpa [Lit.wf] using h
  rwa [show IntKind.u16.min = 0 from rfl, show IntKind.u16.max = 65535 from rfl] at h1
theorem wf_u32 {a : Int} (h : (Lit.int .u32 a).wf = true) : 0 ≤ a ∧ a ≤ 4294967295 := by
  have h1 : IntKind.u32.min ≤ a ∧ a ≤ IntKind.u32.max := by simpa [Lit.wf] using h
  rwa [show IntKind.u32.min = 0 from rfl, show IntKind.u32.max = 4294967295 from rfl] at h1
theorem wf_u64 {a : Int} (h : (Lit.int .u64 a).wf = true) : 0 ≤ a ∧ a ≤ 18446744073709551615 := by
  have h1 : IntKind.u64.min ≤ a ∧ a ≤ IntKind.u64.max := by simpa [Lit.wf] using h
  rwa [show IntKind.u64.min = 0 from rfl, show IntKind.u64.max = 18446744073709551615 from rfl] at h1
theorem wf_i8 {a : Int} (h : (Lit.int .i8 a).wf = true) : -128 ≤ a ∧ a ≤ 127 := by
  have h1 : IntKind.i8.min ≤ a ∧ a ≤ IntKind.i8.max := by simpa [Lit.wf] using h
  rwa [show IntKind.i8.min = -128 from rfl, show IntKind.i8.max = 127 from rfl] at h1
theorem wf_i16 {a : Int} (h : (Lit.int .i16 a).wf = true) : -32768 ≤ a ∧ a ≤ 32767 := by
  have h1 : IntKind.i16.min ≤ a ∧ a ≤ IntKind.i16.max := by simpa [Lit.wf] using h
  rwa [show IntKind.i16.min = -32768 from rfl, show IntKind.i16.max = 32767 from rfl] at h1
theorem wf_i32 {a : Int} (h : (Lit.int .i32 a).wf = true) : -2147483648 ≤ a ∧ a ≤ 2147483647 := by
  have h1 : IntKind.i32.min ≤ a ∧ a ≤ IntKind.i32.max := by simpa [Lit.wf] using h
  rwa [show IntKind.i32.min = -2147483648 from rfl, show IntKind.i32.max = 2147483647 from rfl] at h1
theorem wf_i64 {a : Int} (h : (Lit.int .i64 a).wf = true) : -9223372036854775808 ≤ a ∧ a ≤ 9223372036854775807 := by
  have h1 : IntKind.i64.min ≤ a ∧ a ≤ IntKind.i64.max := by simpa [Lit.wf] using h
  rwa [show IntKind.i64.min = -9223372036854775808 from rfl, show IntKind.i64.max = 9223372036854775807 from rfl] at h1
/-! Bytes. -/
def Byt (l : List Int) : Prop := ∀ x ∈ l, 0 ≤ x ∧ x ≤ 255
theorem Byt.nil : Byt [] := fun _ h => by cases h
theorem Byt.cons {x : Int} {l : List Int} (h : 0 ≤ x ∧ x ≤ 255) (hl : Byt l) : Byt (x :: l) := fun y hy => by
  rcases List.mem_cons.1 hy with rfl | hy
  · exact h
  · exact hl y hy
theorem Byt.append {a b : List Int} (ha : Byt a) (hb : Byt b) : Byt (a ++ b) := fun y hy => (List.mem_append.1 hy).elim (ha y) (hb y)
theorem Byt.tail {x : Int} {l : List Int} (h : Byt (x :: l)) : Byt l := fun y hy => h y (List.mem_cons_of_mem _ hy)
theorem Byt.head {x : Int} {l : List Int} (h : Byt (x :: l)) : 0 ≤ x ∧ x ≤ 255 := h x List.mem_cons_self
theorem Byt.left {a b : List Int} (h : Byt (a ++ b)) : Byt a := fun y hy => h y (List.mem_append_left _ hy)
theorem Byt.right {a b : List Int} (h : Byt (a ++ b)) : Byt b := fun y hy => h y (List.mem_append_right _ hy)
theorem Byt.take {l : List Int} (h : Byt l) (n : Nat) : Byt (l.take n) := fun y hy => h y (List.mem_of_mem_take hy)
theorem Byt.drop {l : List Int} (h : Byt l) (n : Nat) : Byt (l.drop n) := fun y hy => h y (List.mem_of_mem_drop hy)
def I64 (ns : List Int) : Prop := ∀ x ∈ ns, -9223372036854775808 ≤ x ∧ x ≤ 9223372036854775807
/-! Nested tests of truths, as one proposition. -/
theorem cond_some {α : Type} (b : Bool) (x y : α) : (bif b then some x else some y) = some (bif b then x else y) := by cases b <;> rfl
theorem cond_iff (b x y : Bool) : ((bif b then x else y) = true) = ((b = true ∧ x = true) ∨ (b = false ∧ y = true)) := by cases b <;> simp
theorem some_iff {x y : Bool} (h : x = true ↔ y = true) : some x = some y := congrArg some (Bool.eq_iff_iff.2 h)
end Go.Eng
