/- Rows that are made of strings, of zeros; rows that grow. -/
import Derived.Test.YtfkiapjkeopgfaaE14
set_option linter.all false
set_option linter.unusedVariables false
set_option linter.unusedSimpArgs false
set_option linter.deprecated false
namespace Go.Eng
open Go.RowKit
theorem size_pos : ∀ (k : K), 0 < k.size
  | .int _ | .bool | .str | .err | .fn | .slice _ => by simp [K.size]
  | .prod a b => by have := size_pos a; simp [K.size]; omega
  | .strct a => size_pos a
def drewW (w : World) : World := { w with drawn := w.drawn + 1 }
theorem run_choose {P : Program} {w : World} {need old : Nat} {e : TypeId} : ∃ cap, need ≤ cap ∧ (choose (.appendCap need old e)).run P w = .ok cap (drewW w) := by
  refine ⟨(Question.appendCap need old e).cut (w.tape w.drawn (.appendCap need old e)), by simp [Question.cut], ?_⟩
  simp [choose, Sem.run, Question.forced, drewW]
theorem grew_drew (w : World) : Grew w (drewW w) := ⟨rfl, rfl, rfl, Nat.le_refl _, fun _ _ => rfl⟩
theorem run_askRoom {P : Program} {w : World} (n : Nat) : (askRoom n).run P w = .ok () w := by
  unfold askRoom; split <;> rfl
theorem elemT_some {P : Program} {t e : TypeId} (h : elemT P t = some e) : P.underlying t = some (.slice e) := by
  unfold elemT at h
  split at h
  · rename_i e' he'; simp only [Option.some.injEq] at h; subst h; exact he'
  · cases h
theorem elemOk_some {P : Program} {e : TypeId} {k : K} (h : elemOk P e k = true) : ∃ i z, P.info? e = some i ∧ sizeT P e = some k.size ∧ zeroT P e = some z ∧ z.length = k.size ∧ bytesT P e = i.bytes ∧ i.bytes ≤ 1000000 ∧ 1 ≤ i.bytes := by
  unfold elemOk at h
  split at h
  · rename_i s z hs hz
    simp only [Bool.and_eq_true] at h
    obtain ⟨i, hi, _⟩ := sizeT_some hs
    have hb : bytesT P e = i.bytes := by unfold bytesT; rw [hi]
    have h1 := Nat.eq_of_beq_eq_true h.1.1.1
    have h2 := Nat.eq_of_beq_eq_true h.1.1.2
    have h3 := Nat.le_of_ble_eq_true h.1.2
    have h4 := Nat.le_of_ble_eq_true h.2
    rw [hb] at h3 h4
    exact ⟨i, z, hi, by rw [hs, h1], hz, h2, hb, h3, h4⟩
  · cases h
theorem cl_bytes (c : Cx) (s : ByteArray) : Cl c (.int .u8) (bytesOf s) (s.data.toList.map fun b => Value.int .u8 b.toNat) := by
  refine ⟨by simp [bytesOf, K.size], fun v hv => ?_, fun i x hx => ?_⟩
  · obtain ⟨b, _, rfl⟩ := List.mem_map.1 hv; rfl
  · rw [bytesOf_get] at hx
    cases hb : s.data.toList[i]? with
    | none => rw [hb] at hx; cases hx
    | some b =>
      rw [hb] at hx
      simp at hx; subst hx
      refine ⟨[.int .u8 b.toNat], ⟨rfl, by have := b.toNat_lt; simp [okI, okB]; omega⟩, fun j v hv => ?_⟩
      cases j with
      | zero => simp at hv; subst hv; simp only [K.size, Nat.mul_one, Nat.add_zero, List.getElem?_map, hb]; rfl
      | succ j => simp at hv
def freezeW (w : World) (b n : Nat) : World := w.freeze { block := b, off := n } 1
section
variable {P : Program} {A : Ann} {fid : Nat} {w0 : World} {M : MS} {c : Cx} {ρ : Operand → AV} {r : Operand → Value} {hp : Nat → Option Obj} {o : Oper} {v : AV} {u : Upd}
theorem core_convert (hm : Mem w0 M c) (hh : ∀ id o, hp id = some o → c.hp id = some o) (hf : ∀ d, o.dst = some d → hp d = none → c.hp d = none) (hr : ∀ x, RepV c (ρ x) (r x)) {st dt : TypeId} {x : Operand} (ho : o.op = .convert st dt x) (hs2 : ∀ id g e0 e, ¬ (slot x ρ = some (.vw id g) ∧ P.underlying st = some (.slice e0) ∧ P.underlying dt = some (.slice e))) (h : core P A fid ρ hp o = .ok true v u) :
    StepOk w0 M c ((execOp r o).run P c.w) v u := by
  by_cases hs : ∃ s e, slot x ρ = some (.str s) ∧ P.underlying dt = some (.slice e)
  · obtain ⟨s, e, hx, hdu⟩ := hs
    simp only [core, ho, hx, hdu] at h
    simp only [execOp, ho]
    split at h
    · rename_i heq; cases heq
    · rename_i heq; cases heq
    · rename_i s' td e' heq1 hsu heq2
      cases heq1; cases heq2
      split at h
      · rename_i d heu hfr
        simp only [Out.ok.injEq, decide_eq_true_eq] at h
        obtain ⟨_, rfl, rfl⟩ := h
        obtain ⟨hd, hd2⟩ := fresh_some hfr
        obtain ⟨sb, e1, rfl⟩ := slot_rep hr hx
        obtain ⟨cap, hcap, hch⟩ := run_choose (P := P) (w := c.w) (need := sb.size) (old := 0) (e := e)
        let arr : Array Value := sb.data.map (fun b => Value.int .u8 b.toNat) ++ Array.replicate (cap - sb.size) (.int .u8 0)
        have hsz : arr.size = cap := by
          have : sb.data.size = sb.size := rfl
          simp [arr]; omega
        let w1 := pushW (drewW c.w) (.cells arr e (0, 0))
        have hw1 : w1.heap.size = c.w.heap.size + 1 := by simp [w1, pushW, drewW]
        have hhere : w1.heap[c.w.heap.size]? = some (.cells arr e (0, 0)) := push_here (drewW c.w) _
        have hgr : Grew c.w (freezeW w1 c.w.heap.size cap) := by
          have g1 : Grew c.w w1 := (grew_drew c.w).trans (grew_push _ _)
          refine ⟨g1.1, g1.2.1, g1.2.2.1, by simp [freezeW, World.freeze, hw1], fun b hb => ?_⟩
          have := g1.2.2.2.2 b hb
          rw [← this]
          unfold freezeW World.freeze
          rw [if_neg (by decide)]
          simp only [Array.getElem?_modify]
          rw [if_neg (by show ¬ (c.w.heap.size = b); omega)]
        have hbf : BlkFree (freezeW w1 c.w.heap.size cap) c.w.heap.size arr := by
          refine ⟨e, (cap, cap + 1), ?_, fun o ho => (by show ¬ (cap ≤ o ∧ o < cap + 1); omega), Nat.le_succ _⟩
          unfold freezeW World.freeze
          rw [if_neg (by decide)]
          simp only [Array.getElem?_modify]
          rw [if_pos trivial]
          rw [hhere]; rfl
        have hrun : (do pure (Next.value (← convert st dt (r x))) : Sem Next).run P c.w = .ok (.value (.slice (some ⟨c.w.heap.size, 0, none⟩) (bytesOf sb).length cap)) (freezeW w1 c.w.heap.size cap) := by
          refine run_val ?_
          rw [e1]
          unfold convert
          rw [run_ok (run_underlying hsu c.w), run_ok (run_underlying hdu c.w)]
          have : ∀ td : TypeDesc, (match td, TypeDesc.slice e, Value.string sb with
            | _, .slice e, .string s => (do match ← underlying e with
              | .int .u8 => Conv.stringToBytes e s
              | .int .i32 => Conv.stringToRunes e s
              | _ => stuck "Convert: string to a slice of what?" : Sem Value)
            | _, _, _ => stuck "") = (do match ← underlying e with
              | .int .u8 => Conv.stringToBytes e sb
              | .int .i32 => Conv.stringToRunes e sb
              | _ => stuck "Convert: string to a slice of what?" : Sem Value) := fun td => rfl
          have main : ((do match ← underlying e with
              | .int .u8 => Conv.stringToBytes e sb
              | .int .i32 => Conv.stringToRunes e sb
              | _ => stuck "Convert: string to a slice of what?" : Sem Value)).run P c.w = .ok (.slice (some ⟨c.w.heap.size, 0, none⟩) (bytesOf sb).length cap) (freezeW w1 c.w.heap.size cap) := by
            rw [run_ok (run_underlying heu c.w)]
            simp only []
            unfold Conv.stringToBytes
            rw [run_ok hch]
            rw [run_ok (run_newRow e arr)]
            have hmk : (markStringish ⟨(drewW c.w).heap.size, 0, none⟩).run P w1 = .ok () (freezeW w1 c.w.heap.size cap) := by
              unfold markStringish
              have hshape : (shape (drewW c.w).heap.size).run P w1 = .ok (some (e, cap)) w1 := by
                show Result.ok (w1.shape? c.w.heap.size) w1 = _
                simp only [World.shape?, hhere, hsz]
              rw [run_ok hshape]; rfl
            rw [run_ok hmk, bytesOf_length]; rfl
          cases td <;> exact main
        have := new_row hm (hf d hd hd2) (cl_bytes c sb) hgr (Nat.le_refl _) hbf (fun j v hv => by
          show (sb.data.map (fun b => Value.int .u8 b.toNat) ++ Array.replicate (cap - sb.size) (.int .u8 0))[j]? = some v
          have hj : j < sb.data.size := by
            obtain ⟨q, _⟩ := List.getElem?_eq_some_iff.1 hv; simpa using q
          rw [Array.getElem?_append_left (by simpa using hj), ← Array.getElem?_toList, Array.toList_map]; exact hv) (cap := cap) (by rw [bytesOf_length]; exact hcap) (by rw [hsz]; simp [K.size]) hrun
        exact this
      · cases h
    · rename_i hn _ _ _ heq; cases heq
    · rename_i heq _ _; cases heq
    · cases h
  · exact core_convert_quiet hm hh hr ho (fun s e hse => hs ⟨s, e, hse⟩) hs2 h
theorem zeroOf_rep (te : TypeId) (w : World) (Sb : Nat → Prop) : ∀ (k : K) (cs r : List Value), zeroOf k cs = some r → ∃ pre, cs = pre ++ r ∧ RepT te w Sb k k.dflt pre := by
  intro k
  induction k with
  | int k =>
    intro cs r h
    unfold zeroOf at h
    split at h <;> rename_i heq <;> try (cases heq; done)
    · rename_i k0 k' n r'
      cases heq
      by_cases e : k' = k <;> by_cases e2 : n = 0 <;> simp [e, e2] at h
      subst h
      refine ⟨[_], rfl, by rw [e, e2]; rfl, ?_⟩
      cases k <;> rfl
    all_goals (try cases h)
  | bool =>
    intro cs r h
    unfold zeroOf at h
    split at h <;> rename_i heq <;> try (cases heq; done)
    · rename_i b r'
      cases b <;> simp at h
      subst h
      exact ⟨[_], rfl, rfl⟩
    all_goals (try cases h)
  | str =>
    intro cs r h
    unfold zeroOf at h
    split at h <;> rename_i heq <;> try (cases heq; done)
    · rename_i s r'
      by_cases e : s.data.toList.length = 0
      · simp [e] at h
        subst h
        have : s.data.toList = [] := List.length_eq_zero_iff.1 e
        exact ⟨[_], rfl, s, rfl, by simp [bytesOf, this]; rfl⟩
      · simp at e; simp [e] at h
    all_goals (try cases h)
  | err =>
    intro cs r h
    unfold zeroOf at h
    split at h <;> rename_i heq <;> try (cases heq; done)
    · simp at h; subst h; exact ⟨[_], rfl, rfl⟩
    all_goals (try cases h)
  | fn =>
    intro cs r h
    unfold zeroOf at h
    split at h <;> rename_i heq <;> try (cases heq; done)
    · simp at h; subst h; exact ⟨[_], rfl, rfl⟩
    all_goals (try cases h)
  | slice e ih =>
    intro cs r h
    unfold zeroOf at h
    split at h <;> rename_i heq <;> try (cases heq; done)
    · simp at h; subst h; exact ⟨[_], rfl, repT_nil _ _ _ _⟩
    all_goals (try cases h)
  | prod a b iha ihb =>
    intro cs r h
    simp only [zeroOf] at h
    split at h
    · rename_i r' h1
      obtain ⟨p1, rfl, q1⟩ := iha cs r' h1
      obtain ⟨p2, rfl, q2⟩ := ihb r' r h
      exact ⟨p1 ++ p2, by simp, p1, p2, rfl, q1, q2⟩
    · cases h
  | strct a ih =>
    intro cs r h
    simp only [zeroOf] at h
    exact ih cs r h
end
end Go.Eng
