/- Operations that read, and that make values. -/
import Derived.Test.YtfkiapjkeopgfaaE8
set_option linter.all false
set_option linter.unusedVariables false
set_option linter.unusedSimpArgs false
set_option linter.deprecated false
namespace Go.Eng
open Go.RowKit
theorem repV_cells {c : Cx} {g : Bool} {cs : List S} {v : Value} (h : RepV c (.val g cs) v) : LR (RepS c) cs v.cells.toList := by
  cases g with
  | true => obtain ⟨arr, rfl, h⟩ := h; exact h
  | false => obtain ⟨s, rfl, h⟩ := h; rw [one_cells (one_ofRep h)]; exact ⟨h, trivial⟩
/-- A value of a type, where its cells lie. -/
theorem run_loadVar {P : Program} {c : Cx} {t : TypeId} {cs : List S} {v : AV} {b o : Nat} {vs : List Value} (hv : valT P t cs = some v) (hl : LR (RepS c) cs vs) (ha : At c.w b o vs) :
    ∃ v', (loadVar t ⟨b, o, none⟩).run P c.w = .ok v' c.w ∧ RepV c v v' := by
  unfold valT at hv
  split at hv
  · rename_i n hg hn
    cases hb : Nat.ble n cs.length with
    | false => rw [hb] at hv; cases hv
    | true =>
      rw [hb] at hv
      simp only [cond_true, Option.some.injEq] at hv; subst hv
      have hle := Nat.le_of_ble_eq_true hb
      have hlen := hl.length
      refine ⟨.agg (vs.take n).toArray, ?_, _, rfl, by simpa using hl.take n⟩
      unfold loadVar
      rw [run_ok (run_isAgg hg c.w), if_pos rfl, run_ok (run_sizeOf hn c.w)]
      have hat : At c.w b o (vs.take n) := fun j u hj => by
        rw [List.getElem?_take] at hj
        split at hj
        · exact ha j u hj
        · cases hj
      have := run_loadCells (P := P) hat
      rw [List.length_take, Nat.min_eq_left (by omega)] at this
      rw [run_ok this]; rfl
  · rename_i n hg hn
    split at hv
    · rename_i s r
      cases hb : Nat.beq n 1 with
      | false => rw [hb] at hv; cases hv
      | true =>
        rw [hb] at hv
        simp only [cond_true, Option.some.injEq] at hv; subst hv
        match vs, hl with
        | u :: us, hl =>
          refine ⟨u, ?_, _, rfl, hl.1⟩
          unfold loadVar
          rw [run_ok (run_isAgg hg c.w), if_neg (by decide)]
          exact run_load (by simpa using ha 0 u rfl)
    · cases hv
  · cases hv
/-- Where an address leads. -/
theorem loadAt_rep {c : Cx} {w0 : World} {M : MS} (hm : Mem w0 M c) {hp : Nat → Option Obj} (hh : ∀ id o, hp id = some o → c.hp id = some o) {s : S} {v : Value} {cs : List S} (hr : RepS c s v) (h : loadAt hp s = some cs) :
    ∃ b o vs, v = .pointer (some ⟨b, o, none⟩) ∧ LR (RepS c) cs vs ∧ At c.w b o vs := by
  cases s with
  | ptr id g i p =>
    simp only [loadAt] at h
    obtain ⟨_, o, h1, hpi, h2, h3⟩ := hr
    split at h
    · rename_i bs ho
      have e := hh id _ ho
      rw [e] at h1; cases h1
      cases hb : (Nat.beq g 0 && Nat.beq i 0 && !bs.isEmpty) with
      | false => rw [hb] at h; cases h
      | true =>
        rw [hb] at h
        simp only [cond_true] at h
        have hget := getP_get p _ _ h hpi
        have hne : bs ≠ [] := by
          rintro rfl
          simp at hb
        · obtain ⟨b, hb1, hv, _⟩ := h2 bs rfl hne
          obtain ⟨b', arr, q1, q2, q3⟩ := hm.obj id _ e hne
          rw [hb1] at q1; cases q1
          obtain ⟨vs, r1, r2⟩ := q3.sub hget
          refine ⟨b, pathOff p, vs, hv, r1, at_of_arr q2.blk fun j u hu => ?_⟩
          have := r2 j u hu
          rw [List.getElem?_take] at this
          split at this
          · simpa using this
          · cases this
    · rename_i k xs gen hist frz ho
      have e := hh id _ ho
      rw [e] at h1; cases h1
      cases hb : Nat.beq g gen with
      | false => rw [hb] at h; cases h
      | true =>
        rw [hb] at h
        simp only [cond_true] at h
        obtain ⟨hlt, b, hb1, hv⟩ := (h3 _ _ _ _ _ rfl).2 (Nat.eq_of_beq_eq_true hb)
        have hro := hm.obj id _ e
        simp only [RepO, hb1] at hro
        obtain ⟨⟨arr, q1, q2, q3⟩, _⟩ := hro
        have hx : xs[i]? = some (xs.getD i k.dflt) := by
          rw [List.getElem?_eq_getElem hlt, List.getD_eq_getElem?_getD, List.getElem?_eq_getElem hlt]; rfl
        obtain ⟨vs0, r1, r2⟩ := q3 i _ hx
        have hget := getP_get p _ _ h hpi
        obtain ⟨vs, t1, t2⟩ := ((leaves_rep k _ vs0).2 r1).sub hget
        refine ⟨b, _, vs, hv, t1, at_of_arr q1 fun j u hu => ?_⟩
        have := r2 _ _ (t2 j u hu)
        rw [Nat.add_assoc]; exact this
    · cases h
  | ipt k x p =>
    simp only [loadAt] at h
    obtain ⟨hpi, b, o, vs0, hS, hv, ht, ha⟩ := hr
    obtain ⟨vs, t1, t2⟩ := ((leaves_rep k x vs0).2 ht).sub (getP_get p _ _ h hpi)
    exact ⟨b, _, vs, hv, t1, fun j u hu => by rw [Nat.add_assoc]; exact ha _ _ (t2 j u hu)⟩
  | _ => simp [loadAt] at h
section
variable {P : Program} {A : Ann} {fid : Nat} {w0 : World} {M : MS} {c : Cx} {ρ : Operand → AV} {r : Operand → Value} {hp : Nat → Option Obj} {o : Oper} {v : AV} {u : Upd}
theorem core_binOp (hm : Mem w0 M c) (hr : ∀ x, RepV c (ρ x) (r x)) (hcv : ∀ v, r (.const v) = v) {op : BinOp} {t ty : TypeId} {x y : Operand} (ho : o.op = .binOp op t x y ty) (h : core P A fid ρ hp o = .ok true v u) :
    StepOk w0 M c ((execOp r o).run P c.w) v u := by
  simp only [core, ho] at h
  have hnc : ∀ z, isNilConst z = true → (∃ v, z = .const v) ∧ (r z = .nilIface ∨ r z = .nilFunc) := by
    intro z hz
    unfold isNilConst at hz
    split at hz
    · exact ⟨⟨_, rfl⟩, .inl (hcv _)⟩
    · exact ⟨⟨_, rfl⟩, .inr (hcv _)⟩
    · cases hz
  have hx := hr x
  have hy := hr y
  split at h
  · rename_i a b ea eb
    rw [ea] at hx; rw [eb] at hy
    have := binS_ok (P := P) hm (repV_inv hx) (repV_inv hy) (hnc x) (hnc y) h
    simpa only [execOp, ho] using this
  · rename_i a b ea eb
    rw [ea] at hx; rw [eb] at hy
    obtain ⟨ax, ex, lx⟩ := hx
    obtain ⟨ay, ey, ly⟩ := hy
    unfold binA at h
    cases hg : P.eqGuardType P.depth t with
    | true => rw [hg] at h; cases h
    | false =>
      rw [hg] at h
      simp only [cond_false] at h
      split at h
      · rename_i ks hks hat
        split at h
        · rename_i q hq
          obtain ⟨g, hgg, hrun⟩ := eq_run (P := P) (c := c) (w := c.w) 8 t ks hks Op.maxDepth (by decide) a b _ _ q lx ly hq
          have hgt : g = true := by rw [hat] at hgg; simpa using hgg.symm
          subst hgt
          have hgd : (eqGuard op t x y (.agg ax) (.agg ay)).run P c.w = .ok () c.w := by
            cases op <;> first | rfl | (
              simp only [eqGuard]
              show ((program >>= fun p => _ : Sem Unit)).run P c.w = _
              rw [run_ok (show (program).run P c.w = .ok P c.w from rfl)]
              rw [run_ok (show (program).run P c.w = .ok P c.w from rfl)]; rw [hg]; rfl)
          have hrun' : (Op.equal t (.agg ax) (.agg ay)).run P c.w = .ok q c.w := hrun
          simp only [execOp, ho]
          rw [ex, ey]
          cases op <;> simp only [okv, Out.ok.injEq, true_and, reduceCtorEq] at h
          · obtain ⟨rfl, rfl⟩ := h
            exact .quiet hm (run_bin hgd (v := .bool q) (by simp only [binOp]; rw [run_ok hrun']; rfl)) (repV_one rfl)
          · obtain ⟨rfl, rfl⟩ := h
            exact .quiet hm (run_bin hgd (v := .bool (!q)) (by simp only [binOp]; rw [run_ok hrun']; rfl)) (repV_one rfl)
        · cases h
      · cases h
  · cases h
theorem core_unOp (hm : Mem w0 M c) (hr : ∀ x, RepV c (ρ x) (r x)) {op : UnOp} {t : TypeId} {x : Operand} (ho : o.op = .unOp op t x) (h : core P A fid ρ hp o = .ok true v u) :
    StepOk w0 M c ((execOp r o).run P c.w) v u := by
  simp only [core, ho] at h
  simp only [execOp, ho]
  split at h
  · rename_i k n hs
    obtain ⟨e, h1⟩ := slot_rep hr hs
    simp only [okv, Out.ok.injEq, true_and] at h
    obtain ⟨rfl, rfl⟩ := h
    rw [e]
    exact .quiet hm (run_val (v := .int k (k.wrap (0 - n))) rfl) (repV_one ⟨rfl, okI_wrap _ _⟩)
  · rename_i k n hs
    obtain ⟨e, h1⟩ := slot_rep hr hs
    simp only [okv, Out.ok.injEq, true_and] at h
    obtain ⟨rfl, rfl⟩ := h
    rw [e]
    refine .quiet hm (run_val (v := .int k (wrapb k .xor (bif k.signed then -1 else k.max) n)) ?_) (repV_one ⟨rfl, okI_wrap _ _⟩)
    cases k <;> rfl
  · rename_i b hs
    have e := slot_rep hr hs
    simp only [RepS] at e
    simp only [okv, Out.ok.injEq, true_and] at h
    obtain ⟨rfl, rfl⟩ := h
    rw [e]
    exact .quiet hm (run_val (v := .bool (!b)) rfl) (repV_one rfl)
  · cases h
theorem core_makeInterface (hm : Mem w0 M c) (hte : c.te = A.te) (hr : ∀ x, RepV c (ρ x) (r x)) {t : TypeId} {x : Operand} (ho : o.op = .makeInterface t x) (h : core P A fid ρ hp o = .ok true v u) :
    StepOk w0 M c ((execOp r o).run P c.w) v u := by
  simp only [core, ho] at h
  simp only [execOp, ho]
  split at h
  · rename_i n k hs hu
    obtain ⟨e, h1⟩ := slot_rep hr hs
    cases hb : Nat.beq t A.te with
    | false => rw [hb] at h; cases h
    | true =>
      rw [hb] at h
      simp only [cond_true, okv, Out.ok.injEq, true_and] at h
      obtain ⟨rfl, rfl⟩ := h
      have ht := Nat.eq_of_beq_eq_true hb
      refine .quiet hm (run_val (v := .iface t (.int .i64 n)) ?_) (repV_one (by simp only [RepS, errV, hte, ht]))
      rw [e]
      unfold Instr.makeInterface
      rw [run_ok (run_underlying hu c.w)]; rfl
  · cases h
theorem core_extract (hm : Mem w0 M c) (hr : ∀ x, RepV c (ρ x) (r x)) {t : Operand} {ix : Nat} (ho : o.op = .extract t ix) (h : core P A fid ρ hp o = .ok true v u) :
    StepOk w0 M c ((execOp r o).run P c.w) v u := by
  simp only [core, ho] at h
  simp only [execOp, ho]
  have ht := hr t
  split at h
  · rename_i vs et
    rw [et] at ht
    split at h
    · rename_i g cs hg
      simp only [Out.ok.injEq, true_and] at h
      obtain ⟨rfl, rfl⟩ := h
      obtain ⟨arr, e, hl⟩ := ht
      obtain ⟨b, hb, hq⟩ := hl.get ix _ hg
      rw [e]
      refine .quiet hm (run_val (v := b) ?_) ?_
      · unfold Instr.extract
        simp only []
        rw [← Array.getElem?_toList, hb]; rfl
      · cases g with
        | true => simp only [if_true] at hq; obtain ⟨a, rfl, hh⟩ := hq; exact ⟨a, rfl, hh⟩
        | false => simp only [Bool.false_eq_true, if_false] at hq; exact hq
    · cases h
  · cases h
theorem core_load (hm : Mem w0 M c) (hh : ∀ id o, hp id = some o → c.hp id = some o) (hr : ∀ x, RepV c (ρ x) (r x)) {t : TypeId} {a : Operand} (ho : o.op = .load t a) (h : core P A fid ρ hp o = .ok true v u) :
    StepOk w0 M c ((execOp r o).run P c.w) v u := by
  simp only [core, ho] at h
  simp only [execOp, ho]
  split at h
  · rename_i s hs
    split at h
    · rename_i cs hc
      split at h
      · rename_i v' hv
        simp only [Out.ok.injEq, true_and] at h
        obtain ⟨rfl, rfl⟩ := h
        obtain ⟨b, off, vs, e, hl, hat⟩ := loadAt_rep hm hh (slot_rep hr hs) hc
        obtain ⟨x, hx, hrx⟩ := run_loadVar (P := P) hv hl hat
        refine .quiet hm (run_val (v := x) ?_) hrx
        rw [e]
        unfold Instr.loadAt
        rw [run_ok (show (Instr.sureAddr (.pointer (some ⟨b, off, none⟩))).run P c.w = .ok ⟨b, off, none⟩ c.w from rfl)]
        exact hx
      · cases h
    · cases h
  · cases h
theorem core_field (hm : Mem w0 M c) (hr : ∀ x, RepV c (ρ x) (r x)) {t : TypeId} {x : Operand} {f : Nat} (ho : o.op = .field t x f) (h : core P A fid ρ hp o = .ok true v u) :
    StepOk w0 M c ((execOp r o).run P c.w) v u := by
  simp only [core, ho] at h
  simp only [execOp, ho]
  have hx := hr x
  split at h
  · rename_i fs cs hu ex
    rw [ex] at hx
    obtain ⟨arr, e, hl⟩ := hx
    split at h
    · rename_i fl hf
      split at h
      · rename_i v' hv
        simp only [Out.ok.injEq, true_and] at h
        obtain ⟨rfl, rfl⟩ := h
        rw [e]
        have hlen := hl.length
        have main : ∃ q, (part fl.type arr fl.offset).run P c.w = .ok q c.w ∧ RepV c v' q := by
          have hd := hl.drop fl.offset
          unfold valT at hv
          split at hv
          · rename_i n hg hn
            cases hb : Nat.ble n (cs.drop fl.offset).length with
            | false => rw [hb] at hv; cases hv
            | true =>
              rw [hb] at hv
              simp only [cond_true, Option.some.injEq] at hv; subst hv
              have hle := Nat.le_of_ble_eq_true hb
              simp only [List.length_drop] at hle
              rcases Nat.eq_zero_or_pos n with hn0 | hn0
              · subst hn0
                refine ⟨.agg (arr.extract fl.offset (fl.offset + 0)), ?_, _, rfl, by simp [LR]⟩
                unfold part
                rw [run_ok (run_isAgg hg c.w), if_pos rfl, run_ok (run_sizeOf hn c.w)]; rfl
              · refine ⟨_, run_part hn hg arr fl.offset (by simp) (by simp at hlen; omega), _, rfl, ?_⟩
                simpa using hd.take n
          · rename_i n hg hn
            split at hv
            · rename_i s q hcs
              cases hb : Nat.beq n 1 with
              | false => rw [hb] at hv; cases hv
              | true =>
                rw [hb] at hv
                simp only [cond_true, Option.some.injEq] at hv; subst hv
                have hn1 := Nat.eq_of_beq_eq_true hb
                subst hn1
                have hlt : fl.offset < cs.length := by
                  rcases Nat.lt_or_ge fl.offset cs.length with q | q
                  · exact q
                  · rw [List.drop_eq_nil_of_le q] at hcs; cases hcs
                refine ⟨_, run_part hn hg arr fl.offset (by simp) (by simp at hlen; omega), ?_⟩
                rw [hcs] at hd
                match hq : arr.toList.drop fl.offset, hd with
                | y :: ys, hd => exact ⟨_, rfl, by simpa [vOf, hq] using hd.1⟩
            · cases hv
          · cases hv
        obtain ⟨q, q1, q2⟩ := main
        refine .quiet hm (run_val (v := q) ?_) q2
        unfold Instr.field
        rw [run_ok (run_underlying hu c.w)]
        simp only [hf]
        rw [run_ok (show (asAgg (.agg arr)).run P c.w = .ok arr c.w from rfl)]
        exact q1
      · cases h
    · cases h
  · cases h
end
end Go.Eng
