/- Structs and rows built out of parts. -/
import Derived.Test.YtfkiapjkeopgfaaE13
set_option linter.all false
set_option linter.unusedVariables false
set_option linter.unusedSimpArgs false
set_option linter.deprecated false
namespace Go.Eng
open Go.RowKit
theorem sem_bind_pure {α : Type} : ∀ (e : Sem α), Sem.bind e Sem.pure = e := by
  intro e
  induction e with
  | pure a => rfl
  | load m a k ih => simp only [Sem.bind]; congr 1; funext x; exact ih x
  | store m a v k ih => simp only [Sem.bind, ih]
  | new o k ih => simp only [Sem.bind]; congr 1; funext x; exact ih x
  | shape r k ih => simp only [Sem.bind]; congr 1; funext x; exact ih x
  | freeze a n k ih => simp only [Sem.bind, ih]
  | frozen a k ih => simp only [Sem.bind]; congr 1; funext x; exact ih x
  | getObj r k ih => simp only [Sem.bind]; congr 1; funext x; exact ih x
  | setObj r o k ih => simp only [Sem.bind, ih]
  | choose q k ih => simp only [Sem.bind]; congr 1; funext x; exact ih x
  | sys c k ih => simp only [Sem.bind]; congr 1; funext x; exact ih x
  | program k ih => simp only [Sem.bind]; congr 1; funext x; exact ih x
  | mark m k ih => simp only [Sem.bind, ih]
  | halt h => rfl
theorem sem_assoc {α β γ : Type} : ∀ (e : Sem α) (f : α → Sem β) (g : β → Sem γ), Sem.bind (Sem.bind e f) g = Sem.bind e (fun a => Sem.bind (f a) g) := by
  intro e f g
  induction e with
  | pure a => rfl
  | load m a k ih => simp only [Sem.bind]; congr 1; funext x; exact ih x
  | store m a v k ih => simp only [Sem.bind, ih]
  | new o k ih => simp only [Sem.bind]; congr 1; funext x; exact ih x
  | shape r k ih => simp only [Sem.bind]; congr 1; funext x; exact ih x
  | freeze a n k ih => simp only [Sem.bind, ih]
  | frozen a k ih => simp only [Sem.bind]; congr 1; funext x; exact ih x
  | getObj r k ih => simp only [Sem.bind]; congr 1; funext x; exact ih x
  | setObj r o k ih => simp only [Sem.bind, ih]
  | choose q k ih => simp only [Sem.bind]; congr 1; funext x; exact ih x
  | sys c k ih => simp only [Sem.bind]; congr 1; funext x; exact ih x
  | program k ih => simp only [Sem.bind]; congr 1; funext x; exact ih x
  | mark m k ih => simp only [Sem.bind, ih]
  | halt h => rfl
theorem lawful : LawfulMonad Sem := LawfulMonad.mk' (m := Sem) (id_map := fun x => sem_bind_pure x) (pure_bind := fun _ _ => rfl) (bind_assoc := fun x f g => sem_assoc x f g)
theorem run_listMapM {α β : Type} {P : Program} {w : World} {f : α → Sem β} {g : α → β} : ∀ (l : List α), (∀ a ∈ l, (f a).run P w = .ok (g a) w) → (l.mapM f).run P w = .ok (l.map g) w
  | [], _ => rfl
  | a :: r, h => by
    haveI := lawful
    rw [List.mapM_cons, run_ok (h a (by simp)), run_ok (run_listMapM r (fun b hb => h b (by simp [hb])))]; rfl
theorem run_mapM {α β : Type} {P : Program} {w : World} {f : α → Sem β} {g : α → β} (arr : Array α) (h : ∀ a ∈ arr.toList, (f a).run P w = .ok (g a) w) : (arr.mapM f).run P w = .ok (arr.map g) w := by
  haveI := lawful
  rw [Array.mapM_eq_mapM_toList]
  show (Sem.bind (arr.toList.mapM f) (fun x => Sem.pure x.toArray)).run P w = _
  rw [run_bind, run_listMapM arr.toList h]
  show Result.ok _ _ = _
  congr 1
  apply Array.ext'; simp
theorem arrOver_toList (vs : List Value) (arr : Array Value) (o : Nat) (h : o + vs.length ≤ arr.size) : (arrOver arr o vs).toList = arr.toList.take o ++ vs ++ arr.toList.drop (o + vs.length) := by
  apply List.ext_getElem?
  intro j
  rw [Array.getElem?_toList, arrOver_get vs arr o j h]
  have ht : (arr.toList.take o).length = o := by simp; omega
  by_cases h1 : j < o
  · rw [if_neg (by omega), List.append_assoc, List.getElem?_append_left (by omega), List.getElem?_take, if_pos h1, Array.getElem?_toList]
  · rw [List.append_assoc, List.getElem?_append_right (by omega), ht]
    by_cases h2 : j < o + vs.length
    · rw [if_pos ⟨by omega, h2⟩, List.getElem?_append_left (by omega)]
    · rw [if_neg (by omega), List.getElem?_append_right (by omega), List.getElem?_drop, Array.getElem?_toList]
      congr 1; omega
theorem LR.wr {α β : Type} {R : α → β → Prop} {X new X' : List α} {vx vn : List β} {o : Nat} (h : LR R X vx) (hn : LR R new vn) (e : X' = X.take o ++ new ++ X.drop (o + new.length)) : LR R X' (vx.take o ++ vn ++ vx.drop (o + vn.length)) := by
  rw [e, ← hn.length]
  exact ((h.take o).append hn).append (h.drop _)
theorem zip_over (off : Nat) : ∀ (l : List Value) (k : Nat) (arr : Array Value), (l.zipIdx k).foldl (fun cs p => cs.setIfInBounds (off + p.2) p.1) arr = arrOver arr (off + k) l
  | [], _, _ => rfl
  | v :: r, k, arr => by
    simp only [List.zipIdx_cons, List.foldl_cons, arrOver]
    exact zip_over off r (k + 1) _
theorem fill_ok {c : Cx} {ρ : Operand → AV} {r : Operand → Value} (hr : ∀ x, RepV c (ρ x) (r x)) {size place : Nat → Option (Nat × Nat)} (hp : ∀ i p, size i = some p → place i = some p) :
    ∀ (parts : List (Nat × Operand)) (cs cs' : List S) (arr : Array Value), fillP size ρ parts cs = some cs' → LR (RepS c) cs arr.toList →
      ∃ arr', Instr.fill place arr (parts.map fun (i, x) => (i, r x)) = some arr' ∧ LR (RepS c) cs' arr'.toList ∧ arr'.size = arr.size
  | [], cs, cs', arr, h, hl => by
    simp [fillP] at h; subst h
    exact ⟨arr, rfl, hl, rfl⟩
  | (i, x) :: ps, cs, cs', arr, h, hl => by
    simp only [fillP] at h
    have hx := hr x
    split at h
    · rename_i off sz g new hs ex
      rw [ex] at hx
      cases hb : Nat.beq new.length sz with
      | false => rw [hb] at h; cases h
      | true =>
        rw [hb] at h
        simp only [cond_true] at h
        have hn := Nat.eq_of_beq_eq_true hb
        split at h
        · rename_i cs2 h2
          obtain ⟨w1, w2⟩ := setP_eq _ _ _ _ h2 (by intro s hs; simp at hs; subst hs; trivial)
          have e0 : pathOff [PStep.fld off] = off := by simp [pathOff, stepOff]
          rw [e0] at w1 w2
          have hc := repV_cells hx
          have hlen := hc.length
          have hlen2 := hl.length
          have hsz : off + (r x).cells.toList.length ≤ arr.size := by simp at hlen2; omega
          have hl2 : LR (RepS c) cs2 (arrOver arr off (r x).cells.toList).toList := by
            rw [arrOver_toList _ _ _ hsz]
            exact hl.wr hc w2
          obtain ⟨arr', q1, q2, q3⟩ := fill_ok hr hp ps cs2 cs' _ h hl2
          refine ⟨arr', ?_, q2, by rw [q3, arrOver_size]⟩
          simp only [List.map_cons, Instr.fill]
          rw [hp i _ hs]
          simp only []
          have hsize : (r x).cells.size = sz := by rw [← hn, hlen]; simp
          rw [if_neg (by simp at hsz; simp [hsize]; omega)]
          have ez : ((r x).cells.zipIdx.foldl (fun cs (p : Value × Nat) => cs.setIfInBounds (off + p.2) p.1) arr) = arrOver arr off (r x).cells.toList := by
            rw [← Array.foldl_toList, Array.toList_zipIdx]
            exact zip_over off _ 0 arr
          rw [← q1]
          congr 1
        · cases h
    · cases h
section
variable {P : Program} {A : Ann} {fid : Nat} {w0 : World} {M : MS} {c : Cx} {ρ : Operand → AV} {r : Operand → Value} {hp : Nat → Option Obj} {o : Oper} {v : AV} {u : Upd}
theorem core_build (hm : Mem w0 M c) (hr : ∀ x, RepV c (ρ x) (r x)) {t : TypeId} {parts : Array (Nat × Operand)} (ho : o.op = .build t parts) (h : core P A fid ρ hp o = .ok true v u) :
    StepOk w0 M c ((execOp r o).run P c.w) v u := by
  simp only [core, ho] at h
  simp only [execOp, ho]
  split at h
  · rename_i z fs hz hu
    cases hall : fs.toList.all (fun f => (sizeT P f.type).isSome) with
    | false => rw [hall] at h; cases h
    | true =>
      rw [hall] at h
      simp only [cond_true] at h
      split at h
      · rename_i cs hcs
        simp only [Out.ok.injEq, true_and] at h
        obtain ⟨rfl, rfl⟩ := h
        obtain ⟨zv, h1, h2, h3⟩ := run_zeroValue hz c.w
        have hplaces : (fs.mapM fun f => (do pure (f.offset, ← sizeOf f.type) : Sem (Nat × Nat))).run P c.w = .ok (fs.map fun f => (f.offset, (sizeT P f.type).getD 0)) c.w := by
          refine run_mapM fs fun f hf => ?_
          have := List.all_eq_true.1 hall f hf
          cases hs : sizeT P f.type with
          | none => rw [hs] at this; cases this
          | some n => rw [run_ok (run_sizeOf hs c.w)]; rfl
        obtain ⟨arr', q1, q2, _⟩ := fill_ok (c := c) hr (size := fieldAt P fs) (place := fun i => (fs.map fun f => (f.offset, (sizeT P f.type).getD 0))[i]?) (fun i p hi => by
          obtain ⟨off, sz⟩ := p
          obtain ⟨fl, t1, t2, t3⟩ := fieldAt_some hi
          simp [t1, t2, t3]) parts.toList _ cs zv.cells hcs (by rw [h2]; exact rep_ofVs c z h3)
        refine .quiet hm (run_val (v := .agg arr') ?_) ⟨arr', rfl, q2⟩
        unfold Instr.build
        rw [run_ok h1, run_ok (run_underlying hu c.w)]
        simp only []
        rw [run_ok hplaces]
        have : Instr.fill (fun i => (fs.map fun f => (f.offset, (sizeT P f.type).getD 0))[i]?) zv.cells (parts.map fun (i, x) => (i, r x)).toList = some arr' := by
          rw [Array.toList_map]; exact q1
        simp only [this]; rfl
      · cases h
  · rename_i z n e hz hu
    split at h
    · rename_i s hs
      split at h
      · rename_i cs hcs
        simp only [Out.ok.injEq, true_and] at h
        obtain ⟨rfl, rfl⟩ := h
        obtain ⟨zv, h1, h2, h3⟩ := run_zeroValue hz c.w
        obtain ⟨arr', q1, q2, _⟩ := fill_ok (c := c) hr (size := fun i => some (i * s, s)) (place := fun i => some (i * s, s)) (fun i p hi => hi) parts.toList _ cs zv.cells hcs (by rw [h2]; exact rep_ofVs c z h3)
        refine .quiet hm (run_val (v := .agg arr') ?_) ⟨arr', rfl, q2⟩
        unfold Instr.build
        rw [run_ok h1, run_ok (run_underlying hu c.w)]
        simp only []
        rw [run_ok (run_sizeOf hs c.w)]
        have : Instr.fill (fun i => some (i * s, s)) zv.cells (parts.map fun (i, x) => (i, r x)).toList = some arr' := by
          rw [Array.toList_map]; exact q1
        simp only [this]; rfl
      · cases h
    · cases h
  · cases h
theorem flat_zero {α : Type} [Inhabited α] (z : List α) (n : Nat) : ((Array.range (n * z.length)).map fun i => z.toArray[i % z.toArray.size]!).toList = (List.replicate n z).flatten := by
  apply List.ext_getElem?
  intro j
  simp only [Array.toList_map, Array.toList_range, List.getElem?_map, List.size_toArray]
  by_cases hj : j < n * z.length
  · rw [List.getElem?_range hj]
    simp only [Option.map_some]
    induction n generalizing j with
    | zero => simp at hj
    | succ n ih =>
      rw [List.replicate_succ, List.flatten_cons]
      have hz : 0 < z.length := by
        rcases Nat.eq_zero_or_pos z.length with q | q
        · rw [q] at hj; simp at hj
        · exact q
      by_cases h1 : j < z.length
      · rw [List.getElem?_append_left h1, Nat.mod_eq_of_lt h1, List.getElem?_eq_getElem h1]
        simp [h1]
      · rw [List.getElem?_append_right (by omega)]
        have e := ih (j - z.length) (by rw [Nat.add_mul] at hj; omega)
        rw [← e, Nat.mod_eq_sub_mod (by omega)]
  · rw [List.getElem?_eq_none (by simp; omega)]
    rw [List.getElem?_eq_none]; rfl
    simp; omega
theorem reiN_cl {c c1 : Cx} {w0 : World} {M : MS} (hm : Mem w0 M c) (hw : c1.w = c.w) (he : Ext c c1) {hp : Nat → Option Obj} (hh : ∀ id o, hp id = some o → c.hp id = some o) {k : K} :
    ∀ (n : Nat) (cs : List S) (vs : List Value) (xs : List k.T), (∀ id ∈ idsOf cs, ∀ b, c.β id = some b → c1.S b) → LR (RepS c) cs vs → reiN hp k n cs = some xs → Cl c1 k xs vs ∧ xs.length = n
  | 0, cs, vs, xs, _, hl, h => by
    match cs, vs, hl, h with
    | [], [], _, h =>
      simp [reiN] at h; subst h
      exact ⟨⟨by simp, by simp, by simp⟩, rfl⟩
    | _ :: _, _, _, h => simp [reiN] at h
  | n + 1, cs, vs, xs, hi, hl, h => by
    simp only [reiN] at h
    split at h
    · rename_i x rest hx
      split at h
      · rename_i l hl2
        simp only [Option.some.injEq] at h; subst h
        obtain ⟨v1, v2, rfl, p1, p2, p3⟩ := rei_rep hm hh he.sub k cs vs x rest hi hl hx
        obtain ⟨⟨q1, q2, q3⟩, q4⟩ := reiN_cl hm hw he hh n rest v2 l (fun id hid => hi id (p3 id hid)) p2 hl2
        have hlen := RepT.len p1
        have p1' : RepT c1.te c1.w c1.S k x v1 := by rw [he.te, hw]; exact p1
        refine ⟨⟨by simp [q1, hlen, Nat.add_mul]; omega, ?_, ?_⟩, by simp [q4]⟩
        · intro v hv
          exact LR.ones hl v hv
        · intro i y hy
          cases i with
          | zero =>
            simp at hy; subst hy
            refine ⟨v1, p1', fun j v hv => ?_⟩
            have hj : j < v1.length := by
              obtain ⟨hj, _⟩ := List.getElem?_eq_some_iff.1 hv; exact hj
            rw [Nat.zero_mul, Nat.zero_add, List.getElem?_append_left hj]; exact hv
          | succ i =>
            obtain ⟨vs', t1, t2⟩ := q3 i y (by simpa using hy)
            refine ⟨vs', t1, fun j v hv => ?_⟩
            rw [List.getElem?_append_right (by rw [hlen, Nat.add_mul]; omega)]
            have := t2 j v hv
            rw [hlen, show (i + 1) * k.size + j - k.size = i * k.size + j by rw [Nat.add_mul]; omega]
            exact this
      · cases h
    · cases h
/-- Steps one behind the other: first names are told anew, then one more. -/
theorem StepOk.after {w0 : World} {M : MS} {c c1 : Cx} {nx : Result Next} {v : AV} {u u1 : Upd} (he : Ext c c1) (hp : c1.hp = hpU u1 c.hp) (h : StepOk w0 M c1 nx v u) (hu : ∀ id, hpU u (hpU u1 c.hp) id = hpU (u ++ u1) c.hp id) : StepOk w0 M c nx v (u ++ u1) := by
  obtain ⟨nv, c2, h1, h2, h3, h4, h5⟩ := h
  exact ⟨nv, c2, h1, h2, he.trans h3, by rw [h4, hp]; funext id; exact hu id, h5⟩
theorem hget_append (u u1 : Upd) (id : Nat) : hget (u ++ u1) id = match hget u id with | some o => some o | none => hget u1 id := by
  induction u with
  | nil => rfl
  | cons p r ih =>
    simp only [List.cons_append, hget]
    cases Nat.beq p.1 id <;> simp [ih]
theorem hpU_append (u u1 : Upd) (hp : Nat → Option Obj) (id : Nat) : hpU u (hpU u1 hp) id = hpU (u ++ u1) hp id := by
  unfold hpU
  rw [hget_append]
  cases hget u id <;> simp
theorem core_buildSlice (hm : Mem w0 M c) (hh : ∀ id o, hp id = some o → c.hp id = some o) (hf : ∀ d, o.dst = some d → hp d = none → c.hp d = none) (hr : ∀ x, RepV c (ρ x) (r x)) {t : TypeId} {n : Nat} {parts : Array (Nat × Operand)} (ho : o.op = .buildSlice t n parts) (h : core P A fid ρ hp o = .ok true v u) :
    StepOk w0 M c ((execOp r o).run P c.w) v u := by
  simp only [core, ho] at h
  simp only [execOp, ho]
  split at h
  · rename_i e d hel hfr
    obtain ⟨hd, hd2⟩ := fresh_some hfr
    have hu : P.underlying t = some (.slice e) := by
      unfold elemT at hel
      split at hel
      · rename_i e' he'; simp only [Option.some.injEq] at hel; subst hel; exact he'
      · cases hel
    split at h
    · rename_i k z s hk hz hs
      cases hb : (Nat.ble (n * s) 16777216 && Nat.beq z.length s && Nat.beq s k.size) with
      | false => rw [hb] at h; cases h
      | true =>
        rw [hb] at h
        simp only [cond_true] at h
        simp only [Bool.and_eq_true] at hb
        have hlim := Nat.le_of_ble_eq_true hb.1.1
        have hzl := Nat.eq_of_beq_eq_true hb.1.2
        have hsk := Nat.eq_of_beq_eq_true hb.2
        split at h
        · rename_i cs hcs
          split at h
          · rename_i xs uf hxs huf
            simp only [Out.ok.injEq, true_and] at h
            obtain ⟨rfl, rfl⟩ := h
            obtain ⟨zv, h1, h2, h3⟩ := run_zeroValue hz c.w
            have hzarr : zv.cells = z.toArray := by apply Array.ext'; simp [h2]
            have hflat : ∀ l : List (List Value), (∀ x ∈ l, x.all one = true) → l.flatten.all one = true := by
              intro l hl; rw [List.all_flatten]; exact List.all_eq_true.2 hl
            have hinit : LR (RepS c) (List.replicate n (z.map ofV)).flatten ((Array.range (n * s)).map (fun i => zv.cells[i % zv.cells.size]!)).toList := by
              rw [← hzl, hzarr, flat_zero]
              rw [show (List.replicate n (z.map ofV)).flatten = (List.replicate n z).flatten.map ofV by simp [List.map_flatten, List.map_replicate]]
              exact rep_ofVs c _ (hflat _ fun x hx => by rw [(List.mem_replicate.1 hx).2]; exact h3)
            obtain ⟨arr', q1, q2, q3⟩ := fill_ok (c := c) hr (size := fun i => some (i * s, s)) (place := fun i => some (i * s, s)) (fun i p hi => hi) parts.toList _ cs _ hcs hinit
            obtain ⟨c1, e1, e2, m1, x1, p1, p2⟩ := frz_ok hm hh huf
            obtain ⟨hcl, hln⟩ := reiN_cl hm e1 x1 hh n cs arr'.toList xs p2 q2 hxs
            have hd1 : c1.hp d = none := by
              rw [p1]
              unfold hpU
              split
              · rename_i o' ho'
                obtain ⟨k', xs', gen', hist', frz', t1, _⟩ := frzU_get huf ho'
                rw [hd2] at t1; cases t1
              · exact hf d hd hd2
            have hrun : (do pure (Next.value (← Instr.buildSlice t n (parts.map fun (i, x) => (i, r x)))) : Sem Next).run P c.w = .ok (.value (.slice (some ⟨c1.w.heap.size, 0, none⟩) xs.length n)) (pushW c1.w (.cells arr' e (0, 0))) := by
              refine run_val ?_
              rw [e1, hln]
              unfold Instr.buildSlice
              rw [run_ok (run_underlying hu c.w)]
              simp only []
              rw [run_ok (run_sizeOf hs c.w)]
              rw [if_neg (by omega)]
              have hfill : Instr.fill (fun i => some (i * s, s)) ((Array.range (n * s)).map (fun i => zv.cells[i % zv.cells.size]!)) (parts.map fun (i, x) => (i, r x)).toList = some arr' := by
                rw [Array.toList_map]; exact q1
              by_cases h0 : n * s = 0
              · rw [if_pos h0]
                have : Instr.fill (fun i => some (i * s, s)) ((Array.range (n * s)).map (fun i => (#[] : Array Value)[i % (#[] : Array Value).size]!)) (parts.map fun (i, x) => (i, r x)).toList = some arr' := by
                  have e0 : ∀ f : Nat → Value, (Array.range 0).map f = #[] := fun f => Array.ext' (by simp [Array.toList_range])
                  rw [← hfill, h0, e0, e0]
                show ((pure (#[] : Array Value) : Sem (Array Value)) >>= _).run P c.w = _
                rw [run_pb]
                simp only [this]
                rw [run_ok (run_newRow e arr')]; rfl
              · rw [if_neg h0]
                rw [run_ok h1, run_pb]
                simp only [hfill]
                rw [run_ok (run_newRow e arr')]; rfl
            have hstep := new_row m1 hd1 hcl (grew_push c1.w (.cells arr' e (0, 0))) (Nat.le_refl _) (blkFree_push c1.w arr' e) (fun j v hv => by rw [← Array.getElem?_toList]; exact hv) (cap := n) (by omega)
              (by have := hcl.1; simp at this; rw [this, hln]; exact Nat.le_refl _) hrun
            exact hstep.after x1 p1 (fun id => hpU_append _ _ _ id)
          · cases h
        · cases h
    · cases h
  · cases h
end
end Go.Eng
