/- Rows made with a length; append. -/
import Derived.Test.YtfkiapjkeopgfaaE15
set_option linter.all false
set_option linter.unusedVariables false
set_option linter.unusedSimpArgs false
set_option linter.deprecated false
namespace Go.Eng
open Go.RowKit
theorem wrap_small {n : Int} (h0 : 0 ≤ n) (h1 : n < 9223372036854775808) : IntKind.i64.wrap n = n := by
  have e : n % (2 ^ 64 : Int) = n := Int.emod_eq_of_lt h0 (by omega)
  show (if (true && decide (n % (2 ^ 64 : Int) ≥ (2 ^ 63 : Int))) = true then n % (2 ^ 64 : Int) - (2 ^ 64 : Int) else n % (2 ^ 64 : Int)) = n
  rw [e, if_neg]
  simp only [Bool.true_and, decide_eq_true_eq]
  omega
theorem cl_zeros (c : Cx) {k : K} {z : List Value} (hz : zeroOk k z = true) (ho : z.all one = true) (n : Nat) : Cl c k (List.replicate n k.dflt) (List.replicate n z).flatten := by
  unfold zeroOk at hz
  split at hz
  · rename_i h
    obtain ⟨pre, e, hr⟩ := zeroOf_rep c.te c.w c.S k z [] h
    simp at e; subst e
    have hlen := RepT.len hr
    refine ⟨by simp [hlen], fun v hv => ?_, fun i x hx => ?_⟩
    · obtain ⟨l, hl, hv⟩ := List.mem_flatten.1 hv
      rw [(List.mem_replicate.1 hl).2] at hv
      exact List.all_eq_true.1 ho v hv
    · have hx' : x = k.dflt ∧ i < n := by
        rw [List.getElem?_replicate] at hx
        split at hx
        · simp at hx; exact ⟨hx.symm, by assumption⟩
        · cases hx
      obtain ⟨rfl, hi⟩ := hx'
      refine ⟨z, hr, fun j v hv => ?_⟩
      have hj : j < z.length := by obtain ⟨q, _⟩ := List.getElem?_eq_some_iff.1 hv; exact q
      rw [← hlen]
      clear hx
      induction n generalizing i with
      | zero => omega
      | succ n ih =>
        rw [List.replicate_succ, List.flatten_cons]
        cases i with
        | zero => rw [Nat.zero_mul, Nat.zero_add, List.getElem?_append_left hj]; exact hv
        | succ i =>
          rw [List.getElem?_append_right (by rw [Nat.add_mul]; omega)]
          rw [show (i + 1) * z.length + j - z.length = i * z.length + j by rw [Nat.add_mul]; omega]
          exact ih i (by omega)
  · cases hz
section
variable {P : Program} {A : Ann} {fid : Nat} {w0 : World} {M : MS} {c : Cx} {ρ : Operand → AV} {r : Operand → Value} {hp : Nat → Option Obj} {o : Oper} {v : AV} {u : Upd}
theorem core_makeSlice (hm : Mem w0 M c) (hf : ∀ d, o.dst = some d → hp d = none → c.hp d = none) (hr : ∀ x, RepV c (ρ x) (r x)) {t : TypeId} {l cc : Operand} (ho : o.op = .makeSlice t l cc) (h : core P A fid ρ hp o = .ok true v u) :
    StepOk w0 M c ((execOp r o).run P c.w) v u := by
  simp only [core, ho] at h
  simp only [execOp, ho]
  split at h
  · rename_i n m e d hl hc hel hfr
    obtain ⟨el, _⟩ := slot_rep hr hl
    obtain ⟨ec, _⟩ := slot_rep hr hc
    obtain ⟨hd, hd2⟩ := fresh_some hfr
    have hu := elemT_some hel
    split at h
    · rename_i k z hk hz
      cases hb : (zeroOk k z && elemOk P e k) with
      | false => rw [hb] at h; cases h
      | true =>
        rw [hb] at h
        simp only [Bool.and_eq_true] at hb
        simp only [cond_true, Out.ok.injEq, Bool.and_eq_true, decide_eq_true_eq] at h
        obtain ⟨⟨⟨rfl, h0⟩, hlim⟩, rfl, rfl⟩ := h
        obtain ⟨i, z', hi, hs, hz', hzl, hbt, hb1, hb2⟩ := elemOk_some hb.2
        rw [hz] at hz'; cases hz'
        rw [hbt] at hlim
        obtain ⟨zv, h1, h2, h3⟩ := run_zeroValue hz c.w
        have hzarr : zv.cells = z.toArray := by apply Array.ext'; simp [h2]
        have hle : n ≤ 140737488355328 := by
          have : n * 1 ≤ n * (i.bytes : Int) := Int.mul_le_mul_of_nonneg_left (by omega) h0
          omega
        have hw : IntKind.i64.wrap n = n := wrap_small h0 (by omega)
        let arr : Array Value := (Array.range (n.toNat * k.size)).map (fun j => zv.cells[j % zv.cells.size]!)
        have harr : arr.toList = (List.replicate n.toNat z).flatten := by
          simp only [arr]
          rw [hzarr, ← hzl, flat_zero]
        have hcl := cl_zeros c hb.1 h3 n.toNat
        have hrun : (do pure (Next.value (← Instr.makeSlice t (r l) (r cc))) : Sem Next).run P c.w = .ok (.value (.slice (some ⟨c.w.heap.size, 0, none⟩) (List.replicate n.toNat k.dflt).length n.toNat)) (pushW c.w (.cells arr e (0, 0))) := by
          refine run_val ?_
          rw [el, ec]
          unfold Instr.makeSlice
          rw [run_ok (run_underlying hu c.w)]
          simp only []
          rw [run_ok (show (asInt (.int .i64 n)).run P c.w = .ok n c.w from rfl), run_ok (show (asInt (.int .i64 n)).run P c.w = .ok n c.w from rfl), run_ok (run_typeInfo hi c.w)]
          simp only [hw]
          rw [if_neg (by
            simp only [Bool.or_eq_true, decide_eq_true_eq]
            have hm2 : (i.bytes : Int) * n = n * i.bytes := Int.mul_comm _ _
            omega)]
          rw [run_ok (run_askRoom _), run_ok (run_sizeOf hs c.w)]
          by_cases h00 : n.toNat * k.size = 0
          · rw [if_pos h00]
            have e0 : (Array.range (n.toNat * k.size)).map (fun j => (#[] : Array Value)[j % (#[] : Array Value).size]!) = arr := by
              simp only [arr]; rw [h00]; exact Array.ext' (by simp [Array.toList_range])
            rw [run_pb]
            rw [e0, run_ok (run_newRow e arr)]
            simp
          · rw [if_neg h00]
            rw [run_ok h1, run_pb]
            rw [run_ok (run_newRow e arr)]
            simp
        refine new_row hm (hf d hd hd2) hcl (grew_push _ _) (Nat.le_refl _) (blkFree_push _ arr e) (fun j v hv => by rw [← Array.getElem?_toList, harr]; exact hv) (by simp) ?_ hrun
        simp [arr]
    · cases h
  · cases h

/-! Append. -/
theorem vis_cl {c : Cx} {ids : List Nat} {k : K} : ∀ (ys : List k.T) {b o : Nat}, (∀ (i : Nat) (x : k.T), ys[i]? = some x → ∃ vs, RepT c.te c.w c.S k x vs ∧ At c.w b (o + i * k.size) vs) → ∃ cl, Cl c k ys cl ∧ At c.w b o cl
  | [], b, o, _ => ⟨[], ⟨by simp, by simp, by simp⟩, fun j v hv => by simp at hv⟩
  | y :: ys, b, o, h => by
    obtain ⟨v1, h1, h2⟩ := h 0 y rfl
    obtain ⟨cl, ⟨q1, q2, q3⟩, q4⟩ := vis_cl (ids := ids) ys (b := b) (o := o + k.size) (fun i x hx => by
      obtain ⟨vs, t1, t2⟩ := h (i + 1) x (by simpa using hx)
      exact ⟨vs, t1, by rw [show o + k.size + i * k.size = o + (i + 1) * k.size by rw [Nat.add_mul]; omega]; exact t2⟩)
    have hlen := RepT.len h1
    refine ⟨v1 ++ cl, ⟨by simp [hlen, q1, Nat.add_mul]; omega, fun v hv => ?_, fun i x hx => ?_⟩, fun j v hv => ?_⟩
    · rcases List.mem_append.1 hv with hv | hv
      · exact LR.ones ((leaves_rep k y v1).2 h1) v hv
      · exact q2 v hv
    · cases i with
      | zero =>
        simp at hx; subst hx
        refine ⟨v1, h1, fun j v hv => ?_⟩
        have hj : j < v1.length := by obtain ⟨q, _⟩ := List.getElem?_eq_some_iff.1 hv; exact q
        rw [Nat.zero_mul, Nat.zero_add, List.getElem?_append_left hj]; exact hv
      | succ i =>
        obtain ⟨vs, t1, t2⟩ := q3 i x (by simpa using hx)
        refine ⟨vs, t1, fun j v hv => ?_⟩
        rw [List.getElem?_append_right (by rw [hlen, Nat.add_mul]; omega)]
        rw [hlen, show (i + 1) * k.size + j - k.size = i * k.size + j by rw [Nat.add_mul]; omega]
        exact t2 j v hv
    · by_cases hj : j < v1.length
      · rw [List.getElem?_append_left hj] at hv
        have := h2 j v hv
        simpa using this
      · rw [List.getElem?_append_right (by omega)] at hv
        have := q4 _ v hv
        rw [hlen] at this hj
        rw [show o + k.size + (j - k.size) = o + j by omega] at this; exact this
/-- What is appended: how many, and its cells. -/
def More (P : Program) (c : Cx) (k : K) (ys : List k.T) (x : Value) : Prop :=
  (Builtin.lenOf x).run P c.w = .ok ys.length c.w ∧ ∃ cl, Cl c k ys cl ∧ ∀ w', Grew c.w w' → (Builtin.firstCells k.size ys.length x).run P w' = .ok cl.toArray w'
theorem At.grew {w w' : World} {b o : Nat} {vs : List Value} (h : At w b o vs) (g : Grew w w') : At w' b o vs := by
  intro j v hv
  have := h j v hv
  refine (World.cell?_of_block (a := ⟨b, o + j, none⟩) (g.2.2.2.2 b ?_)).trans this
  simp only [World.cell?] at this
  split at this
  · rename_i q; exact lt_of_some q
  · cases this
theorem vis_more {P : Program} {c : Cx} {ids : List Nat} {k : K} {ys : List k.T} {x : Value} (h : Vis c ids k ys x) : More P c k ys x := by
  obtain ⟨a, cap, rfl, h1, h2⟩ := h
  refine ⟨rfl, ?_⟩
  by_cases hne : ys = []
  · subst hne
    refine ⟨[], ⟨by simp, by simp, by simp⟩, fun w' _ => ?_⟩
    cases a with
    | none => rfl
    | some ad =>
      show (loadCells ad (([] : List k.T).length * k.size)).run P w' = _
      simp only [List.length_nil, Nat.zero_mul]; rfl
  · obtain ⟨ad, rfl, hsp, hS, hel⟩ := h2 hne
    obtain ⟨cl, q1, q2⟩ := vis_cl (c := c) (ids := ids) ys hel
    refine ⟨cl, q1, fun w' hg => ?_⟩
    obtain ⟨b, o, sp⟩ := ad
    simp at hsp; subst hsp
    show (loadCells ⟨b, o, none⟩ (ys.length * k.size)).run P w' = _
    rw [← q1.1]
    exact run_loadCells (q2.grew hg)
theorem nil_more {P : Program} {c : Cx} {k : K} : More P c k ([] : List k.T) (.slice none 0 0) :=
  ⟨rfl, [], ⟨by simp, by simp, by simp⟩, fun _ _ => rfl⟩
theorem str_more {P : Program} {c : Cx} (sb : ByteArray) : More P c (.int .u8) (bytesOf sb) (.string sb) := by
  refine ⟨by rw [bytesOf_length]; rfl, _, cl_bytes c sb, fun w' _ => ?_⟩
  show Result.ok ((sb.extract 0 (bytesOf sb).length).data.map fun b => Value.int .u8 b.toNat) w' = _
  congr 1
  rw [bytesOf_length]
  apply Array.ext'
  simp
theorem moreOf_more {P : Program} {w0 : World} {M : MS} {c : Cx} (hm : Mem w0 M c) {hp : Nat → Option Obj} (hh : ∀ id o, hp id = some o → c.hp id = some o) {k : K} {s : S} {x : Value} (hr : RepS c s x) {ys : List k.T} (h : moreOf hp k s = some ys) : More P c k ys x := by
  have other : (∀ q, s ≠ .str q) → More P c k ys x := by
    intro hs
    have h' : (match rowOf hp s with
      | .nil => some []
      | .some k' xs => cst k' k xs
      | .none => none) = some ys := by
      cases s <;> first | exact h | exact (hs _ rfl).elim
    split at h'
    · rename_i hro
      simp only [Option.some.injEq] at h'; subst h'
      rw [view_nil hro hr]; exact nil_more
    · rename_i k' xs hro
      obtain ⟨rfl, rfl⟩ := cst_some h'
      exact vis_more (view_vis hm hh hro hr)
    · cases h'
  cases s with
  | str q =>
    simp only [moreOf] at h
    obtain ⟨e, rfl⟩ := cst_some h
    subst e
    obtain ⟨sb, rfl, rfl⟩ := hr
    exact str_more sb
  | _ => exact other (fun q h => by cases h)
theorem growBy_le (newLen : Nat) : ∀ (r c : Nat), c ≤ newLen + (newLen + 768) / 4 → Builtin.growBy newLen r c ≤ newLen + (newLen + 768) / 4
  | 0, c, h => h
  | r + 1, c, h => by
    simp only [Builtin.growBy]
    split
    · exact h
    · exact growBy_le newLen r _ (by omega)
theorem nextcap_le (need old : Nat) (h : old < need) : Builtin.nextslicecap need old ≤ need + need / 4 + 704 := by
  unfold Builtin.nextslicecap
  split
  · omega
  · split
    · omega
    · have := growBy_le need 4 old (by omega); omega
theorem nextcap_bytes {need old bytes : Nat} (h : old < need) (hl : need * bytes ≤ lim) (hb : bytes ≤ 1000000) : ¬ Builtin.nextslicecap need old * bytes > 2 ^ 48 := by
  have h1 := nextcap_le need old h
  have h2 : Builtin.nextslicecap need old * bytes ≤ (need + need / 4 + 704) * bytes := Nat.mul_le_mul_right _ h1
  have h3 : (need + need / 4 + 704) * bytes = need * bytes + need / 4 * bytes + 704 * bytes := by rw [Nat.add_mul, Nat.add_mul]
  have h4 : 4 * (need / 4 * bytes) ≤ need * bytes := by
    rw [← Nat.mul_assoc]; exact Nat.mul_le_mul_right _ (by omega)
  simp only [lim] at hl
  omega
theorem Cl.append {c : Cx} {k : K} {xs ys : List k.T} {c1 c2 : List Value} (h1 : Cl c k xs c1) (h2 : Cl c k ys c2) : Cl c k (xs ++ ys) (c1 ++ c2) := by
  obtain ⟨a1, a2, a3⟩ := h1
  obtain ⟨b1, b2, b3⟩ := h2
  refine ⟨by simp [a1, b1, Nat.add_mul], fun v hv => ?_, fun i x hx => ?_⟩
  · rcases List.mem_append.1 hv with hv | hv
    · exact a2 v hv
    · exact b2 v hv
  · by_cases hi : i < xs.length
    · rw [List.getElem?_append_left hi] at hx
      obtain ⟨vs, t1, t2⟩ := a3 i x hx
      refine ⟨vs, t1, fun j v hv => ?_⟩
      have := t2 j v hv
      obtain ⟨q, _⟩ := List.getElem?_eq_some_iff.1 this
      rw [List.getElem?_append_left q]; exact this
    · rw [List.getElem?_append_right (by omega)] at hx
      obtain ⟨vs, t1, t2⟩ := b3 _ x hx
      refine ⟨vs, t1, fun j v hv => ?_⟩
      have := t2 j v hv
      have e : i * k.size = (i - xs.length) * k.size + xs.length * k.size := by rw [← Nat.add_mul]; congr 1; omega
      rw [List.getElem?_append_right (by rw [a1]; omega), a1, e]
      rw [show (i - xs.length) * k.size + xs.length * k.size + j - xs.length * k.size = (i - xs.length) * k.size + j by omega]
      exact this
end
end Go.Eng
