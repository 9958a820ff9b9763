/- Lemmas of this session: an argument that reads as data is a value of a kind: whole numbers, truths, texts, rows, structs by their fields. -/
import Derived.Test.YtfbbcdkbgnmmcaaWMore
import Derived.Deep.Slices
import Derived.SizedLaws
import Derived.ChangeArms
import Derived.Lib.SlBytesConst
namespace Go.Proofs.YtfbbcdkbgnmmcaaW.Opn
set_option linter.unusedVariables false
set_option linter.unusedSimpArgs false
open Go.RowKit Go.Proofs.YtfbbcdkbgnmmcaaW.PrintWords Go.ChangeShapes Go.Deep

/-- Whatever reads at type t, and is within reach, is a value of kind d, and right (ok). -/
def Opn {α : Type} (P : Program) (w : World) (t : TypeId) (d : Kd α) (ok : α → Prop) : Prop :=
  ∀ (H : Type) (enc : TypeId × Value → H) (fuel : Nat) (cs : List Value) (x : DataW H × List MemPlace),
    DataW.trod enc P w 0 (fun _ => true) true fuel t cs = some x → (∀ n ∈ x.1.weights P t, n ≤ reachBytes) → ∃ y, d.K w y cs ∧ ok y

section
variable {P : Program} {w : World} {t : TypeId}

theorem opn_int {k : IntKind} (hu : P.underlying t = some (.int k)) : Opn P w t (Kd.int k) (fun n => (Lit.int k n).wf = true) := by
  intro H enc fuel cs x h _
  obtain ⟨n, rfl, _, hw⟩ := DataW.trod_int hu h
  exact ⟨n, rfl, hw⟩
theorem opn_bool (hu : P.underlying t = some .bool) : Opn P w t Kd.bool (fun _ => True) := by
  intro H enc fuel cs x h _
  obtain ⟨b, rfl, _⟩ := DataW.trod_bool hu h
  exact ⟨b, rfl, trivial⟩
theorem opn_string (hu : P.underlying t = some .string) : Opn P w t Kd.string (fun s => s.size ≤ 140737488351232) := by
  intro H enc fuel cs x h hw
  obtain ⟨s, rfl, rfl, _⟩ := DataW.trod_string hu h
  refine ⟨s, rfl, ?_⟩
  have := hw s.data.toList.length (by simp [DataW.weights])
  rw [Array.length_toList] at this
  exact this

theorem exists_list {α : Type} {Q : Nat → α → Prop} : ∀ n, (∀ i, i < n → ∃ y, Q i y) → ∃ xs : List α, xs.length = n ∧ ∀ i y, xs[i]? = some y → Q i y
  | 0, _ => ⟨[], rfl, fun i y h => by simp at h⟩
  | n + 1, h => by
    obtain ⟨xs, hl, hx⟩ := exists_list n (fun i hi => h i (by omega))
    obtain ⟨y, hy⟩ := h n (by omega)
    refine ⟨xs ++ [y], by simp [hl], fun i z hz => ?_⟩
    rcases Nat.lt_or_ge i n with hi | hi
    · rw [List.getElem?_append_left (by omega)] at hz
      exact hx i z hz
    · rw [List.getElem?_append_right (by omega), hl] at hz
      obtain rfl : i = n := by
        rcases Nat.lt_or_ge (i - n) 1 with h1 | h1
        · omega
        · rw [List.getElem?_eq_none (by simpa using h1)] at hz
          cases hz
      simp at hz
      subst hz
      exact hy

theorem weightsAll_mem {H : Type} {e : TypeId} {n : Nat} : ∀ {ds : List (DataW H)} {d : DataW H}, d ∈ ds → n ∈ d.weights P e → n ∈ DataW.weightsAll P e ds
  | d0 :: ds, d, hd, hn => by
    simp only [DataW.weightsAll, List.mem_append]
    rcases List.mem_cons.1 hd with rfl | hd
    · exact .inl hn
    · exact .inr (weightsAll_mem hd hn)

theorem opn_slice {α : Type} {e : TypeId} {d : Kd α} {ok : α → Prop} {b : Nat} (hu : P.underlying t = some (.slice e)) (he : Opn P w e d ok) (hC : P.cellsOf e = d.sz) (hb : P.bytesOf e = b) :
    Opn P w t (Kd.slice e d) (fun xs => xs.length ≤ maxLen ∧ xs.length * b ≤ 140737488351232 ∧ ∀ x ∈ xs, ok x) := by
  intro H enc fuel cs x h hw
  rcases open_slice hu h with ⟨rfl, rfl⟩ | ⟨a, len, cap, m, n, D, Pl, rfl, _, hl, hc, hm, rfl, hi⟩
  · exact ⟨[], ⟨none, 0, rfl, Nat.le_refl _, Kd.C_nil d w⟩, by simp, by simp, fun x hx => by cases hx⟩
  · simp only [if_true] at hm
    subst hm
    have h1 : (len + (m - len)) * b ≤ reachBytes := by
      have := hw ((((List.range len).map D).length + ((List.range (m - len)).map fun j => D (len + j)).length) * P.bytesOf e) (by simp [DataW.weights, hu])
      rw [hb] at this
      simpa using this
    have hb1 : len * b ≤ 140737488351232 := by
      have h2 : len * b ≤ (len + (m - len)) * b := Nat.mul_le_mul_right _ (by omega)
      have h3 : reachBytes = 140737488351232 := by decide
      omega
    obtain ⟨xs, hxl, hx⟩ := exists_list (Q := fun i y => (∃ cs', w.cells? 0 (a.add (i * P.cellsOf e)) (P.cellsOf e) = some cs' ∧ d.K w y cs') ∧ ok y) len (fun i hlt => by
      obtain ⟨cs', hcs, ht⟩ := hi i (by omega)
      obtain ⟨y, hy, hok⟩ := he H enc n cs' _ ht (fun q hq => hw q (by
        simp only [DataW.weights, hu]
        refine List.mem_cons_of_mem _ (List.mem_append_left _ (weightsAll_mem (List.mem_map.2 ⟨i, List.mem_range.2 hlt, rfl⟩) hq))))
      exact ⟨y, ⟨cs', hcs, hy⟩, hok⟩)
    refine ⟨xs, ⟨some a, m, by rw [hxl], by omega, rfl, by simp only [maxLen] at hc; omega, fun hn => ⟨a, rfl, fun j p hj => ?_⟩⟩, by omega, by rw [hxl]; exact hb1, fun y hy => ?_⟩
    · obtain ⟨⟨cs', hcs, hk⟩, _⟩ := hx j p hj
      obtain ⟨_, hcl, hat⟩ := World.cells?_some hcs
      refine ⟨cs', d.K_len hk, hk, fun i u hu' => ?_⟩
      have hil : i < P.cellsOf e := by
        have := (List.getElem?_eq_some_iff.1 hu').1
        omega
      have := hat i hil
      rw [Go.Deep.add_add, hC] at this
      rw [this, hu']
    · obtain ⟨i, hi', rfl⟩ := List.getElem_of_mem hy
      exact (hx i _ (List.getElem?_eq_getElem hi')).2

/-- A struct's fields, one behind the other. -/
def Fl {α : Type} (P : Program) (w : World) (fs : List Field) (off : Nat) (d : Kd α) (ok : α → Prop) : Prop :=
  ∀ (H : Type) (enc : TypeId × Value → H) (n : Nat) (cs : List Value) (ys : List (DataW H × List MemPlace)), cs.length = off + d.sz → ys.length = fs.length →
    (∀ (i : Nat) (f : Field), fs[i]? = some f → DataW.trod enc P w 0 (fun _ => true) true n f.type ((cs.drop f.offset).take (P.cellsOf f.type)) = ys[i]?) →
    (∀ q ∈ DataW.weightsEach P (fs.map (·.type)) (ys.map (·.1)), q ≤ reachBytes) → ∃ y, d.K w y (cs.drop off) ∧ ok y

theorem fl_one {α : Type} {f : Field} {off : Nat} {d : Kd α} {ok : α → Prop} (ho : f.offset = off) (hC : P.cellsOf f.type = d.sz) (h : Opn P w f.type d ok) : Fl P w [f] off d ok := by
  intro H enc n cs ys hl hy ht hw
  match ys, hy with
  | [y], _ =>
    have h0 := ht 0 f rfl
    rw [ho, hC, List.take_of_length_le (by rw [List.length_drop]; omega)] at h0
    refine h H enc n _ y h0 (fun q hq => hw q ?_)
    simp [DataW.weightsEach, hq]

theorem fl_cons {α β : Type} {f : Field} {fs : List Field} {off : Nat} {d : Kd α} {d' : Kd β} {ok : α → Prop} {ok' : β → Prop} (ho : f.offset = off) (hC : P.cellsOf f.type = d.sz) (h : Opn P w f.type d ok) (h' : Fl P w fs (off + d.sz) d' ok') :
    Fl P w (f :: fs) off (Kd.pair d d') (fun p => ok p.1 ∧ ok' p.2) := by
  intro H enc n cs ys hl hy ht hw
  have hl' : cs.length = off + (d.sz + d'.sz) := hl
  match ys, hy with
  | y :: ys, hy =>
    have h0 := ht 0 f rfl
    rw [ho, hC] at h0
    obtain ⟨a, ha, hoka⟩ := h H enc n _ y h0 (fun q hq => hw q (by simp [DataW.weightsEach, hq]))
    obtain ⟨b, hb, hokb⟩ := h' H enc n cs ys (by omega) (by simpa using hy) (fun i g hg => by simpa using ht (i + 1) g (by simpa using hg)) (fun q hq => hw q (by
      simp only [List.map_cons, DataW.weightsEach, List.mem_append]
      exact .inr hq))
    refine ⟨(a, b), ⟨_, _, ?_, ha, hb⟩, hoka, hokb⟩
    rw [← List.drop_drop, List.take_append_drop]

theorem opn_struct {α : Type} {fs : Array Field} {l : List Field} {d : Kd α} {ok : α → Prop} (hu : P.underlying t = some (.struct fs)) (hl : fs.toList = l) (hC : P.cellsOf t = d.sz) (h : Fl P w l 0 d ok) : Opn P w t d ok := by
  subst hl
  intro H enc fuel cs x hx hw
  obtain ⟨ys, n, _, rfl, hcl, hyl, hf⟩ := DataW.trod_struct hu hx
  have := h H enc n cs ys (by omega) (by simpa using hyl) (fun i f hi => hf i f (by simpa using hi)) (fun q hq => hw q (by simpa [DataW.weights, hu] using hq))
  simpa using this

/-- By a Lean structure. -/
theorem opn_iso {α β : Type} {d : Kd α} {ok : α → Prop} {f : β → α} (g : α → β) (hfg : ∀ a, f (g a) = a) (h : Opn P w t d ok) : Opn P w t (Kd.iso d f) (fun b => ok (f b)) := by
  intro H enc fuel cs x hx hw
  obtain ⟨y, hy, hok⟩ := h H enc fuel cs x hx hw
  exact ⟨g y, by show d.K w (f (g y)) cs; rw [hfg]; exact hy, by show ok (f (g y)); rw [hfg]; exact hok⟩
end

/-- A literal's block reads as its numbers. -/
theorem C_lit {ik : IntKind} {W : World} {g e : Nat} {C : Array Value} {fr : Nat × Nat} {xs : List Int} (hb : W.heap[g]? = some (.cells C e fr)) (hx : C.toList = nums ik xs) (hl : xs.length ≤ 9223372036854775807) : Kd.C (Kd.int ik) W (some ⟨g, 0, none⟩) xs.length xs := by
  refine ⟨rfl, hl, fun _ => ⟨_, rfl, fun j p hj => ⟨[.int ik p], rfl, rfl, fun i u hu => ?_⟩⟩⟩
  obtain rfl : i = 0 := by
    rcases i with _ | i
    · rfl
    · simp at hu
  obtain rfl : u = .int ik p := by simpa using hu.symm
  have hc : C[j]? = some (.int ik p) := by
    rw [← Array.getElem?_toList, hx, nums, List.getElem?_map, hj]
    rfl
  have hj' : j < C.size := (Array.getElem?_eq_some_iff.1 hc).1
  rw [show j * (Kd.int ik).sz + 0 = j from by show j * 1 + 0 = j; omega, add_plain]
  unfold World.cell?
  simp only [hb]
  simpa using hc
theorem R_string {P : Program} {w : World} {base : Nat} {ok : Nat → Prop} {e' src dst e : TypeId} {v : Value} {xs : List Int} (hs : P.underlying src = some (.slice e)) (he : P.underlying e = some (.int .u8)) (hd : P.underlying dst = some .string)
    (h : Kd.R (Kd.int .u8) e' w base ok v xs) : (convert src dst v).run P w = .ok (.string (strOfNums xs)) w := by
  obtain ⟨A, c, rfl, _, hC⟩ := Kd.R_reads h
  exact Kd.C_string hs he hd hC
theorem V_string {P : Program} {w : World} {base : Nat} {ok : Nat → Prop} {e' : Nat} {src dst e : TypeId} {v : Value} {xs : List Int} (hs : P.underlying src = some (.slice e)) (he : P.underlying e = some (.int .u8)) (hd : P.underlying dst = some .string)
    (h : Kd.V (Kd.int .u8) e' w base ok v xs) : (convert src dst v).run P w = .ok (.string (strOfNums xs)) w := by
  obtain ⟨A, c, rfl, _, hF⟩ := h
  exact Kd.C_string hs he hd (Kd.F_now hF)

end Go.Proofs.YtfbbcdkbgnmmcaaW.Opn
