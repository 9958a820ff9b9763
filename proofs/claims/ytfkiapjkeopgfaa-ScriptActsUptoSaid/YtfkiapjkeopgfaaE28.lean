/- A law: what is handed in reads as data; what the small machine says of it is what the program does. -/
import Derived.Test.YtfkiapjkeopgfaaE27
import Derived.Deep.Slices
import Derived.SizedLaws
import Derived.ChangeArms
import Derived.Below
set_option linter.all false
set_option linter.unusedVariables false
set_option linter.unusedSimpArgs false
set_option linter.deprecated false
namespace Go.Eng
open Go.RowKit Go.Deep Go.ChangeShapes
section
variable {P : Program} {te : TypeId} {Gl : Nat → Option Go.Obj} {C : CallF}
def allB (w : World) : Nat → Prop := fun b => b < w.heap.size
/-- An argument that is handed by its value. -/
def plainA (k : K) (x : k.T) : AV := inj k x
theorem argRel_of_plain {w : World} {Sb : Nat → Prop} {a : AV} {v : Value} (h1 : ∀ k xs, a = .val false [.mv k xs] → False) (h2 : ∀ k x, a = .val false [.io k x] → False) (h : RepV (clC te w Sb) a v) : ArgRel te w Sb a v none := by
  unfold ArgRel
  split
  · exact (h1 _ _ rfl).elim
  · exact (h2 _ _ rfl).elim
  · exact ⟨rfl, h⟩
theorem lr3_plain {w : World} {Sb : Nat → Prop} : ∀ (args : List AV) (vs : List Value), (∀ a ∈ args, (∀ k xs, a = .val false [.mv k xs] → False) ∧ (∀ k x, a = .val false [.io k x] → False)) → LR (RepV (clC te w Sb)) args vs → LR3 (ArgRel te w Sb) args vs (args.map fun _ => none)
  | [], [], _, _ => trivial
  | a :: r, v :: vs, h, hl => ⟨argRel_of_plain (h a (by simp)).1 (h a (by simp)).2 hl.1, lr3_plain r vs (fun a ha => h a (by simp [ha])) hl.2⟩
  | [], _ :: _, _, h => h.elim
  | _ :: _, [], _, h => h.elim
/-- A law that gives true. -/
theorem law_calls (hC : SoundC P te Gl C) {f : Nat} {args : List AV} {vs : Array Value} {w : World} (h : C ⟨[(false, .bool)], []⟩ f args = some true)
    (hp : ∀ a ∈ args, (∀ k xs, a = .val false [.mv k xs] → False) ∧ (∀ k x, a = .val false [.io k x] → False)) (hG : ∀ b o, Gl b = some o → w.heap[b]? = some o) (hA : LR (RepV (clC te w (allB w))) args vs.toList) :
    Calls P f vs w (fun e w' => e = .returned (.bool true) ∧ Below w.heap.size w w') := by
  obtain ⟨_, hc⟩ := hC _ _ _ _ h
  have hnone : ∀ (j b : Nat), (args.map fun _ => (none : Option Nat))[j]? = some (some b) → False := by
    intro j b hj
    rw [List.getElem?_map] at hj
    cases hq : args[j]? with
    | none => rw [hq] at hj; cases hj
    | some a => rw [hq] at hj; cases hj
  refine (hc w (allB w) vs (args.map fun _ => none) (fun b o hb => ⟨lt_of_some (hG b o hb), hG b o hb⟩) (fun b hb => hb) (lr3_plain args vs.toList hp hA) (fun j b hj => (hnone j b hj).elim) (fun j j' b hj => (hnone j b hj).elim)).mono ?_
  rintro e w' ⟨v, rfl, S', arr, rfl, hfr, _, _, hrv, _⟩
  have hM : ∀ b, ¬ some b ∈ (args.map fun _ => (none : Option Nat)) := by
    intro b hb
    obtain ⟨a, _, ha⟩ := List.mem_map.1 hb
    cases ha
  refine ⟨?_, hfr.os, hfr.tape, hfr.output, hfr.size, fun b hb => hfr.block b hb (hM b)⟩
  have hrv : ResV te w' S' _ [(false, .bool)] [(false, [.bool true])] arr.toList := hrv
  match hl : arr.toList, hrv with
  | [u], hrv =>
    obtain ⟨h1, _⟩ := hrv
    have hu : u = .bool true := by
      have := repV_inv h1
      exact this
    have : arr = #[u] := by apply Array.ext'; simp [hl]
    subst this
    rw [hu]; rfl
/-- Whatever reads at type t, and is within reach, is a datum of kind k, and right (ok). -/
def OpnT (P : Program) (te : TypeId) (w : World) (t : TypeId) (k : K) (ok : k.T → Prop) : Prop :=
  ∀ (H : Type) (enc : TypeId × Value → H) (fuel : Nat) (cs : List Value) (x : DataW H × List MemPlace),
    DataW.trod enc P w 0 (fun _ => true) true fuel t cs = some x → (∀ n ∈ x.1.weights P t, n ≤ reachBytes) → ∃ y : k.T, RepT te w (allB w) k y cs ∧ ok y
variable {w : World} {t : TypeId}
theorem okI_wf {k : IntKind} {n : Int} (h : (Lit.int k n).wf = true) : okI k n := by
  unfold okI okB
  cases k <;> first | rfl | (simp [Lit.wf, IntKind.min, IntKind.max, IntKind.signed, IntKind.bits] at h; simp; omega)
theorem opnT_int {k : IntKind} (hu : P.underlying t = some (.int k)) : OpnT P te w t (.int k) (fun n => (Lit.int k n).wf = true) := by
  intro H enc fuel cs x h _
  obtain ⟨n, rfl, _, hw⟩ := DataW.trod_int hu h
  exact ⟨n, ⟨rfl, okI_wf hw⟩, hw⟩
theorem opnT_bool (hu : P.underlying t = some .bool) : OpnT P te w t .bool (fun _ => True) := by
  intro H enc fuel cs x h _
  obtain ⟨b, rfl, _⟩ := DataW.trod_bool hu h
  exact ⟨b, rfl, trivial⟩
/-- A text's bytes. -/
def okBytes (s : List Int) : Prop := s.length ≤ 140737488351232 ∧ ∀ b ∈ s, 0 ≤ b ∧ b < 256
theorem okBytes_of (s : ByteArray) (h : s.size ≤ 140737488351232) : okBytes (bytesOf s) := by
  refine ⟨by simpa [bytesOf] using h, fun b hb => ?_⟩
  obtain ⟨c, _, rfl⟩ := List.mem_map.1 hb
  have := c.toNat_lt
  exact ⟨by omega, by omega⟩
theorem opnT_string (hu : P.underlying t = some .string) : OpnT P te w t .str okBytes := by
  intro H enc fuel cs x h hw
  obtain ⟨s, rfl, rfl, _⟩ := DataW.trod_string hu h
  refine ⟨bytesOf s, ⟨s, rfl, rfl⟩, okBytes_of s ?_⟩
  have := hw s.data.toList.length (by simp [DataW.weights])
  rw [Array.length_toList] at this
  exact this
theorem exists_listT {α : Type} {Q : Nat → α → Prop} : ∀ n, (∀ i, i < n → ∃ y, Q i y) → ∃ xs : List α, xs.length = n ∧ ∀ (i : Nat) y, xs[i]? = some y → Q i y
  | 0, _ => ⟨[], rfl, fun i y h => by simp at h⟩
  | n + 1, h => by
    obtain ⟨xs, hl, hx⟩ := exists_listT n (fun i hi => h i (by omega))
    obtain ⟨y, hy⟩ := h n (by omega)
    refine ⟨xs ++ [y], by simp [hl], fun i z hz => ?_⟩
    rcases Nat.lt_or_ge i n with hi | hi
    · rw [List.getElem?_append_left (by omega)] at hz
      exact hx i z hz
    · rw [List.getElem?_append_right (by omega), hl] at hz
      obtain rfl : i = n := by
        rcases Nat.lt_or_ge (i - n) 1 with h1 | h1
        · omega
        · rw [List.getElem?_eq_none (by simpa using h1)] at hz
          cases hz
      simp at hz
      subst hz
      exact hy
theorem weightsAll_memT {H : Type} {e : TypeId} {n : Nat} : ∀ {ds : List (DataW H)} {d : DataW H}, d ∈ ds → n ∈ d.weights P e → n ∈ DataW.weightsAll P e ds
  | d0 :: ds, d, hd, hn => by
    simp only [DataW.weightsAll, List.mem_append]
    rcases List.mem_cons.1 hd with rfl | hd
    · exact .inl hn
    · exact .inr (weightsAll_memT hd hn)
theorem cell_spot {w : World} {a : Addr} {v : Value} (h : w.cell? a = some v) : a.spot = none ∧ a.block < w.heap.size := by
  unfold World.cell? at h
  split at h
  · rename_i hq
    cases hs : a.spot with
    | none => exact ⟨rfl, lt_of_some hq⟩
    | some x => rw [hs] at h; simp at h
  · cases h
theorem add_none {a : Addr} (h : a.spot = none) (k : Nat) : a.add k = ⟨a.block, a.off + k, none⟩ := by
  obtain ⟨b, o, s⟩ := a
  cases h
  simp [Addr.add]
theorem opnT_slice {e : TypeId} {d : K} {ok : d.T → Prop} {b : Nat} (hu : P.underlying t = some (.slice e)) (he : OpnT P te w e d ok) (hC : P.cellsOf e = d.size) (hd : 0 < d.size) (hb : P.bytesOf e = b) :
    OpnT P te w t (.slice d) (fun (xs : List d.T) => xs.length * b ≤ 140737488351232 ∧ ∀ x ∈ xs, ok x) := by
  intro H enc fuel cs x h hw
  rcases open_slice hu h with ⟨rfl, rfl⟩ | ⟨a, len, cap, m, n, D, Pl, rfl, _, hl, hc, hm, rfl, hi⟩
  · exact ⟨([] : List d.T), repT_nil _ _ _ _, by simp, fun x hx => by cases hx⟩
  · simp only [if_true] at hm
    subst hm
    have h1 : (len + (m - len)) * b ≤ reachBytes := by
      have := hw ((((List.range len).map D).length + ((List.range (m - len)).map fun j => D (len + j)).length) * P.bytesOf e) (by simp [DataW.weights, hu])
      rw [hb] at this
      simpa using this
    have hb1 : len * b ≤ 140737488351232 := by
      have h2 : len * b ≤ (len + (m - len)) * b := Nat.mul_le_mul_right _ (by omega)
      have h3 : reachBytes = 140737488351232 := by decide
      omega
    obtain ⟨xs, hxl, hx⟩ := exists_listT (Q := fun i (y : d.T) => (∃ cs', w.cells? 0 (a.add (i * P.cellsOf e)) (P.cellsOf e) = some cs' ∧ RepT te w (allB w) d y cs') ∧ ok y) len (fun i hlt => by
      obtain ⟨cs', hcs, ht⟩ := hi i (by omega)
      obtain ⟨y, hy, hok⟩ := he H enc n cs' _ ht (fun q hq => hw q (by
        simp only [DataW.weights, hu]
        refine List.mem_cons_of_mem _ (List.mem_append_left _ (weightsAll_memT (List.mem_map.2 ⟨i, List.mem_range.2 hlt, rfl⟩) hq))))
      exact ⟨y, ⟨cs', hcs, hy⟩, hok⟩)
    have hcell : ∀ (i : Nat) (y : d.T), xs[i]? = some y → ∃ vs, RepT te w (allB w) d y vs ∧ ∀ (j : Nat) v, vs[j]? = some v → w.cell? (a.add (i * d.size + j)) = some v := by
      intro i y hy
      obtain ⟨⟨cs', hcs, hk⟩, _⟩ := hx i y hy
      obtain ⟨_, hcl, hat⟩ := World.cells?_some hcs
      refine ⟨cs', hk, fun j v hj => ?_⟩
      have hil : j < P.cellsOf e := by
        have := (List.getElem?_eq_some_iff.1 hj).1
        omega
      have := hat j hil
      rw [Go.Deep.add_add, hC] at this
      rw [this, hj]
    have hsp : xs ≠ [] → a.spot = none ∧ a.block < w.heap.size := by
      intro hne
      match xs, hne with
      | y :: _, _ =>
        obtain ⟨vs, h1, h2⟩ := hcell 0 y rfl
        have hl := h1.len
        match vs, hl with
        | [], hl => simp at hl; omega
        | v :: _, _ =>
          have := cell_spot (h2 0 v rfl)
          simpa [Addr.add] using this
    refine ⟨xs, ⟨some a, m, by rw [hxl], by omega, fun hn => ⟨a, rfl, (hsp hn).1, (hsp hn).2, fun i y hy => ?_⟩⟩, by rw [hxl]; exact hb1, fun y hy => ?_⟩
    · obtain ⟨vs, h1, h2⟩ := hcell i y hy
      refine ⟨vs, h1, fun j v hj => ?_⟩
      have := h2 j v hj
      rw [add_none (hsp hn).1] at this
      rw [← Nat.add_assoc] at this
      exact this
    · obtain ⟨i, hi', rfl⟩ := List.getElem_of_mem hy
      exact (hx i _ (List.getElem?_eq_getElem hi')).2
/-- A struct's fields, one behind the other. -/
def FlT (P : Program) (te : TypeId) (w : World) (fs : List Field) (off : Nat) (d : K) (ok : d.T → Prop) : Prop :=
  ∀ (H : Type) (enc : TypeId × Value → H) (n : Nat) (cs : List Value) (ys : List (DataW H × List MemPlace)), cs.length = off + d.size → ys.length = fs.length →
    (∀ (i : Nat) (f : Field), fs[i]? = some f → DataW.trod enc P w 0 (fun _ => true) true n f.type ((cs.drop f.offset).take (P.cellsOf f.type)) = ys[i]?) →
    (∀ q ∈ DataW.weightsEach P (fs.map (·.type)) (ys.map (·.1)), q ≤ reachBytes) → ∃ y : d.T, RepT te w (allB w) d y (cs.drop off) ∧ ok y
theorem flT_one {f : Field} {off : Nat} {d : K} {ok : d.T → Prop} (ho : f.offset = off) (hC : P.cellsOf f.type = d.size) (h : OpnT P te w f.type d ok) : FlT P te w [f] off d ok := by
  intro H enc n cs ys hl hy ht hw
  match ys, hy with
  | [y], _ =>
    have h0 := ht 0 f rfl
    rw [ho, hC, List.take_of_length_le (by rw [List.length_drop]; omega)] at h0
    refine h H enc n _ y h0 (fun q hq => hw q ?_)
    simp [DataW.weightsEach, hq]
theorem flT_cons {f : Field} {fs : List Field} {off : Nat} {d d' : K} {ok : d.T → Prop} {ok' : d'.T → Prop} (ho : f.offset = off) (hC : P.cellsOf f.type = d.size) (h : OpnT P te w f.type d ok) (h' : FlT P te w fs (off + d.size) d' ok') :
    FlT P te w (f :: fs) off (.prod d d') (fun (p : d.T × d'.T) => ok p.1 ∧ ok' p.2) := by
  intro H enc n cs ys hl hy ht hw
  have hl' : cs.length = off + (d.size + d'.size) := hl
  match ys, hy with
  | y :: ys, hy =>
    have h0 := ht 0 f rfl
    rw [ho, hC] at h0
    obtain ⟨a, ha, hoka⟩ := h H enc n _ y h0 (fun q hq => hw q (by simp [DataW.weightsEach, hq]))
    obtain ⟨b, hb, hokb⟩ := h' H enc n cs ys (by omega) (by simpa using hy) (fun i g hg => by simpa using ht (i + 1) g (by simpa using hg)) (fun q hq => hw q (by
      simp only [List.map_cons, DataW.weightsEach, List.mem_append]
      exact .inr hq))
    refine ⟨((a, b) : d.T × d'.T), ⟨_, _, ?_, ha, hb⟩, hoka, hokb⟩
    rw [← List.drop_drop, List.take_append_drop]
theorem opnT_struct {fs : Array Field} {l : List Field} {d : K} {ok : d.T → Prop} (hu : P.underlying t = some (.struct fs)) (hl : fs.toList = l) (hC : P.cellsOf t = d.size) (h : FlT P te w l 0 d ok) : OpnT P te w t (.strct d) ok := by
  subst hl
  intro H enc fuel cs x hx hw
  obtain ⟨ys, n, _, rfl, hcl, hyl, hf⟩ := DataW.trod_struct hu hx
  obtain ⟨y, h1, h2⟩ := h H enc n cs ys (by omega) (by simpa using hyl) (fun i f hi => hf i f (by simpa using hi)) (fun q hq => hw q (by simpa [DataW.weights, hu] using hq))
  exact ⟨y, by show RepT te w (allB w) d y cs; simpa using h1, h2⟩
/-- An argument of a kind. -/
theorem repV_arg {Sb : Nat → Prop} {k : K} {x : k.T} {v : Value} (h : RepT te w Sb k x v.cells.toList) (hg : k.isAgg = true → ∃ cs, v = .agg cs) (hs : k.isAgg = false → one v = true) : RepV (clC te w Sb) (inj k x) v := by
  have hl := (leaves_rep (c := clC te w Sb) k x v.cells.toList).2 h
  unfold inj
  cases hk : k.isAgg with
  | true =>
    obtain ⟨cs, rfl⟩ := hg hk
    exact ⟨cs, rfl, hl⟩
  | false =>
    have := one_cells (hs hk)
    rw [this] at hl
    have hn := hl.length
    match hlv : leaves k x, hn with
    | [s], _ =>
      rw [hlv] at hl
      exact ⟨s, rfl, hl.1⟩
    | [], h => simp at h
    | _ :: _ :: _, h => simp at h
end
end Go.Eng
