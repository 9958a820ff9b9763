/- Addresses, indices, parts of slices; conversions. -/
import Derived.Test.YtfkiapjkeopgfaaE9
set_option linter.all false
set_option linter.unusedVariables false
set_option linter.unusedSimpArgs false
set_option linter.deprecated false
namespace Go.Eng
open Go.RowKit
theorem run_pb {α β : Type} {P : Program} {a : α} {f : α → Sem β} {w : World} : ((pure a : Sem α) >>= f).run P w = (f a).run P w := rfl
theorem run_partV {P : Program} {c : Cx} {t : TypeId} {cs : List S} {v : AV} {arr : Array Value} {off : Nat} {vs : List Value} (hv : valT P t cs = some v) (hl : LR (RepS c) cs vs) (ha : ∀ (j : Nat) v, vs[j]? = some v → arr[off + j]? = some v) :
    ∃ v', (part t arr off).run P c.w = .ok v' c.w ∧ RepV c v v' := by
  unfold valT at hv
  split at hv
  · rename_i n hg hn
    cases hb : Nat.ble n cs.length with
    | false => rw [hb] at hv; cases hv
    | true =>
      rw [hb] at hv
      simp only [cond_true, Option.some.injEq] at hv; subst hv
      have hle := Nat.le_of_ble_eq_true hb
      have hlen := hl.length
      refine ⟨.agg (arr.extract off (off + n)), ?_, _, rfl, ?_⟩
      · unfold part
        rw [run_ok (run_isAgg hg c.w), if_pos rfl, run_ok (run_sizeOf hn c.w)]; rfl
      · have e : (arr.extract off (off + n)).toList = vs.take n := by
          apply List.ext_getElem?
          intro j
          rw [Array.getElem?_toList, Array.getElem?_extract, List.getElem?_take]
          by_cases hj : j < n
          · rw [if_pos hj]
            have h1 : j < vs.length := by omega
            have := ha j vs[j] (List.getElem?_eq_getElem h1)
            rw [List.getElem?_eq_getElem h1]
            have hb2 : off + j < arr.size := by
              rcases Nat.lt_or_ge (off + j) arr.size with q | q
              · exact q
              · rw [Array.getElem?_eq_none q] at this; cases this
            rw [if_pos (by omega)]; exact this
          · rw [if_neg hj, if_neg (by omega)]
        rw [e]; exact hl.take n
  · rename_i n hg hn
    split at hv
    · rename_i s q
      cases hb : Nat.beq n 1 with
      | false => rw [hb] at hv; cases hv
      | true =>
        rw [hb] at hv
        simp only [cond_true, Option.some.injEq] at hv; subst hv
        match vs, hl with
        | u :: us, hl =>
          refine ⟨u, ?_, _, rfl, hl.1⟩
          unfold part
          rw [run_ok (run_isAgg hg c.w), if_neg (by decide)]
          have := ha 0 u rfl
          simp only [Nat.add_zero] at this
          rw [this]; rfl
    · cases hv
  · cases hv
theorem inb_iff {i : Int} {n : Nat} : inb i n = true ↔ 0 ≤ i ∧ i < (n : Int) := by simp [inb]
theorem bytesOf_get (s : ByteArray) (i : Nat) : (bytesOf s)[i]? = (s.data.toList[i]?).map (fun c => (c.toNat : Int)) := by simp [bytesOf]
theorem pathOff_append (p : List PStep) (s : PStep) : pathOff (p ++ [s]) = pathOff p + stepOff s := by
  induction p with
  | nil => simp [pathOff]
  | cons a r ih => simp only [pathOff, List.cons_append, List.foldr_cons] at ih ⊢; rw [ih]; omega
theorem pathIn_append {p : List PStep} {s : PStep} (h : pathIn p) (hs : stepIn s) : pathIn (p ++ [s]) := by
  intro x hx
  rcases List.mem_append.1 hx with hx | hx
  · exact h x hx
  · simp at hx; subst hx; exact hs
/-- One step on. -/
theorem addStep_rep {c : Cx} {hp : Nat → Option Obj} (hh : ∀ id o, hp id = some o → c.hp id = some o) {s s' : S} {st : PStep} {v : Value} (hr : RepS c s v) (hk : ptrOk hp s = true) (ha : addStep st s = some s') (hs : stepIn st) :
    ∃ b o, v = .pointer (some ⟨b, o, none⟩) ∧ RepS c s' (.pointer (some ⟨b, o + stepOff st, none⟩)) := by
  cases s with
  | ptr id g i p =>
    simp only [addStep, Option.some.injEq] at ha; subst ha
    obtain ⟨_, o, h1, hpi, h2, h3⟩ := hr
    simp only [ptrOk] at hk
    split at hk
    · rename_i bs ho
      have e := hh id _ ho
      rw [e] at h1; cases h1
      simp only [Bool.and_eq_true, Bool.not_eq_true', List.isEmpty_eq_false_iff] at hk
      obtain ⟨⟨hg, hi⟩, hne⟩ := hk
      obtain ⟨b, hb, rfl, hg0, hi0⟩ := h2 bs rfl hne
      refine ⟨b, pathOff p, rfl, rfl, _, e, pathIn_append hpi hs, fun cs' e' hne' => ?_, fun k xs gen hist frz e' => by cases e'⟩
      exact ⟨b, hb, by rw [pathOff_append], hg0, hi0⟩
    · rename_i k xs gen hist frz ho
      have e := hh id _ ho
      rw [e] at h1; cases h1
      obtain ⟨hle, hx⟩ := h3 _ _ _ _ _ rfl
      obtain ⟨hlt, b, hb, rfl⟩ := hx (Nat.eq_of_beq_eq_true hk)
      refine ⟨b, _, rfl, rfl, _, e, pathIn_append hpi hs, fun cs' e' => by (cases e'), fun k' xs' gen' hist' frz' e' => ?_⟩
      cases e'
      exact ⟨hle, fun _ => ⟨hlt, b, hb, by rw [pathOff_append, Nat.add_assoc]⟩⟩
    · cases hk
  | ipt k x p =>
    simp only [addStep, Option.some.injEq] at ha; subst ha
    obtain ⟨hpi, b, o, vs, h1, rfl, h3, h4⟩ := hr
    exact ⟨b, _, rfl, pathIn_append hpi hs, b, o, vs, h1, by rw [pathOff_append, Nat.add_assoc], h3, h4⟩
  | _ => simp [addStep] at ha
theorem ptrOk_rep {c : Cx} {hp : Nat → Option Obj} (hh : ∀ id o, hp id = some o → c.hp id = some o) {s : S} {v : Value} (hr : RepS c s v) (hk : ptrOk hp s = true) : ∃ b o, v = .pointer (some ⟨b, o, none⟩) := by
  cases s with
  | ptr id g i p =>
    obtain ⟨b, o, e, _⟩ := addStep_rep (st := .fld 0) hh hr hk rfl trivial
    exact ⟨b, o, e⟩
  | ipt k x p =>
    obtain ⟨b, o, e, _⟩ := addStep_rep (st := .fld 0) hh hr hk rfl trivial
    exact ⟨b, o, e⟩
  | _ => simp [ptrOk] at hk
theorem slice_sl {te : TypeId} {w : World} {Sb : Nat → Prop} {k : K} {xs : List k.T} {a : Option Addr} {cap : Nat} (h : RepT te w Sb (.slice k) xs [.slice a xs.length cap]) {l hi : Nat} (h1 : l ≤ hi) (h2 : hi ≤ xs.length) :
    RepT te w Sb (.slice k) ((xs.drop l).take (hi - l)) [.slice (if cap = l then a else a.map (·.add (l * k.size))) (hi - l) (cap - l)] := by
  obtain ⟨a', cap', e, hc, hx⟩ := h
  cases e
  have hlen : ((xs.drop l).take (hi - l)).length = hi - l := by simp; omega
  refine ⟨_, _, by rw [hlen], by rw [hlen]; omega, fun hne => ?_⟩
  have hlt : l < hi := by
    rcases Nat.lt_or_ge l hi with q | q
    · exact q
    · rw [show hi - l = 0 by omega] at hne; simp at hne
  obtain ⟨ad, rfl, q2, q3, q4⟩ := hx (by rintro rfl; simp at h2; omega)
  rw [if_neg (by omega)]
  have ea : ad.add (l * k.size) = ⟨ad.block, ad.off + l * k.size, none⟩ := by
    obtain ⟨b, o, sp⟩ := ad
    simp at q2; subst q2
    exact add_mk b o _
  refine ⟨⟨ad.block, ad.off + l * k.size, none⟩, by simp [ea], rfl, q3, fun i x hix => ?_⟩
  rw [List.getElem?_take] at hix
  split at hix
  · rw [List.getElem?_drop] at hix
    obtain ⟨vs, r1, r2⟩ := q4 (l + i) x hix
    refine ⟨vs, r1, ?_⟩
    rw [Nat.add_mul] at r2
    rw [Nat.add_assoc]; exact r2
  · cases hix
section
variable {P : Program} {A : Ann} {fid : Nat} {w0 : World} {M : MS} {c : Cx} {ρ : Operand → AV} {r : Operand → Value} {hp : Nat → Option Obj} {o : Oper} {v : AV} {u : Upd}
theorem fieldAt_some {fs : Array Field} {f off sz : Nat} (h : fieldAt P fs f = some (off, sz)) : ∃ fl, fs[f]? = some fl ∧ sizeT P fl.type = some sz ∧ fl.offset = off := by
  unfold fieldAt at h
  split at h
  · rename_i fl hf
    split at h
    · rename_i s hs
      simp only [Option.some.injEq, Prod.mk.injEq] at h
      exact ⟨fl, hf, by rw [hs, h.2], h.1⟩
    · cases h
  · cases h
theorem core_nilCheck (hm : Mem w0 M c) (hh : ∀ id o, hp id = some o → c.hp id = some o) (hr : ∀ x, RepV c (ρ x) (r x)) {x : Operand} (ho : o.op = .nilCheck x) (h : core P A fid ρ hp o = .ok true v u) :
    StepOk w0 M c ((execOp r o).run P c.w) v u := by
  simp only [core, ho] at h
  simp only [execOp, ho]
  split at h
  · rename_i a hs
    cases hb : ptrOk hp a with
    | false => rw [hb] at h; cases h
    | true =>
      rw [hb] at h
      simp only [cond_true, okv, Out.ok.injEq, true_and] at h
      obtain ⟨rfl, rfl⟩ := h
      have hra := slot_rep hr hs
      obtain ⟨bb, oo, e⟩ := ptrOk_rep hh hra hb
      refine .quiet hm ?_ (repV_one hra)
      rw [e]; rfl
  · cases h
theorem core_fieldAddr (hm : Mem w0 M c) (hh : ∀ id o, hp id = some o → c.hp id = some o) (hr : ∀ x, RepV c (ρ x) (r x)) {t : TypeId} {x : Operand} {f : Nat} (ho : o.op = .fieldAddr t x f) (h : core P A fid ρ hp o = .ok true v u) :
    StepOk w0 M c ((execOp r o).run P c.w) v u := by
  simp only [core, ho] at h
  simp only [execOp, ho]
  split at h
  · rename_i fs hu
    split at h
    · rename_i off sz a hf hs
      cases hb : (Nat.beq sz 0 || !ptrOk hp a) with
      | true => rw [hb] at h; cases h
      | false =>
        rw [hb] at h
        simp only [cond_false] at h
        simp only [Bool.or_eq_false_iff, Bool.not_eq_false'] at hb
        split at h
        · rename_i b ha
          simp only [okv, Out.ok.injEq, true_and] at h
          obtain ⟨rfl, rfl⟩ := h
          obtain ⟨fl, q1, q2, q3⟩ := fieldAt_some hf
          obtain ⟨bb, oo, e, hb2⟩ := addStep_rep hh (slot_rep hr hs) hb.2 ha trivial
          rw [e]
          refine .quiet hm (run_val (v := .pointer (some ⟨bb, oo + off, none⟩)) ?_) (repV_one hb2)
          unfold Instr.fieldAt
          rw [run_ok (run_underlying hu c.w)]
          simp only [q1]
          rw [run_ok (show (Instr.sureAddr (.pointer (some ⟨bb, oo, none⟩))).run P c.w = .ok ⟨bb, oo, none⟩ c.w from rfl)]
          have hsz : sz ≠ 0 := by rintro rfl; simp at hb
          have : (fieldPlace ⟨bb, oo, none⟩ fl).run P c.w = .ok ⟨bb, oo + off, none⟩ c.w := by
            unfold fieldPlace
            rw [run_ok (run_sizeOf q2 c.w), if_neg hsz, q3, add_mk]; rfl
          rw [run_ok this]; rfl
        · cases h
    · cases h
  · cases h
theorem core_indexAddr (hm : Mem w0 M c) (hh : ∀ id o, hp id = some o → c.hp id = some o) (hr : ∀ x, RepV c (ρ x) (r x)) {t : TypeId} {x ix : Operand} (ho : o.op = .indexAddr t x ix) (h : core P A fid ρ hp o = .ok true v u) :
    StepOk w0 M c ((execOp r o).run P c.w) v u := by
  simp only [core, ho] at h
  simp only [execOp, ho]
  split at h
  · rename_i n e a ki i hu hs hi
    obtain ⟨ei, _⟩ := slot_rep hr hi
    split at h
    · rename_i sz hsz
      cases hb : ptrOk hp a with
      | false => rw [hb] at h; cases h
      | true =>
        rw [hb] at h
        simp only [Bool.not_true, cond_false] at h
        split at h
        · rename_i b ha
          simp only [Out.ok.injEq] at h
          obtain ⟨hin, rfl, rfl⟩ := h
          have hin := inb_iff.1 hin
          obtain ⟨bb, oo, e1, hb2⟩ := addStep_rep hh (slot_rep hr hs) hb ha hin
          rw [e1, ei]
          refine .quiet hm (run_val (v := .pointer (some ⟨bb, oo + i.toNat * sz, none⟩)) ?_) (repV_one hb2)
          unfold Instr.indexAt
          rw [run_ok (show (asIntOf (.int ki i)).run P c.w = .ok (ki, i) c.w from rfl)]
          simp only []
          rw [run_ok (run_underlying hu c.w)]
          simp only []
          rw [run_ok (show (Instr.sureAddr (.pointer (some ⟨bb, oo, none⟩))).run P c.w = .ok ⟨bb, oo, none⟩ c.w from rfl), run_pb, run_ok (run_underlying hu c.w)]
          simp only []
          rw [if_pos hin, run_ok (run_sizeOf hsz c.w), add_mk]; rfl
        · cases h
    · cases h
  · rename_i e s ki i hu hs hi
    obtain ⟨ei, _⟩ := slot_rep hr hi
    have hrs := slot_rep hr hs
    -- the slice's own form
    have fin : ∀ (a : Addr) (len cap sz : Nat) (sv : S), r x = .slice (some a) len cap → a.spot = none → sizeT P e = some sz → 0 ≤ i ∧ i < (len : Int) → RepS c sv (.pointer (some ⟨a.block, a.off + i.toNat * sz, none⟩)) →
        StepOk w0 M c ((do pure (Next.value (← Instr.indexAt t (r x) (r ix))) : Sem Next).run P c.w) (.val false [sv]) [] := by
      intro a len cap sz sv hx hsp hsz hin hrep
      refine .quiet hm (run_val (v := .pointer (some ⟨a.block, a.off + i.toNat * sz, none⟩)) ?_) (repV_one hrep)
      rw [hx, ei]
      unfold Instr.indexAt
      rw [run_ok (show (asIntOf (.int ki i)).run P c.w = .ok (ki, i) c.w from rfl)]
      simp only []
      rw [run_ok (run_underlying hu c.w)]
      simp only []
      rw [run_pb, run_ok (run_underlying hu c.w)]
      simp only []
      rw [if_pos hin, run_ok (run_sizeOf hsz c.w)]
      obtain ⟨b, o, sp⟩ := a
      simp at hsp; subst hsp
      rw [add_mk]; rfl
    split at h
    · rename_i sz hsz
      split at h
      · rename_i id g
        split at h
        · rename_i k xs gen hist frz hid
          cases hb : (Nat.beq g gen && Nat.beq sz k.size) with
          | false => rw [hb] at h; cases h
          | true =>
            rw [hb] at h
            simp only [cond_true, Out.ok.injEq] at h
            obtain ⟨hin, rfl, rfl⟩ := h
            have hin := inb_iff.1 hin
            simp only [Bool.and_eq_true] at hb
            have hg := Nat.eq_of_beq_eq_true hb.1
            have hk := Nat.eq_of_beq_eq_true hb.2
            obtain ⟨_, ob, h1, h2⟩ := hrs
            have e1 := hh id _ hid
            rw [e1] at h1; cases h1
            have hvn := (h2 _ _ _ _ _ rfl).2.1 hg
            simp only [VwNow] at hvn
            cases hbb : c.β id with
            | none => rw [hbb] at hvn; omega
            | some b =>
              rw [hbb] at hvn
              obtain ⟨cap, arr, a, q1, q2, q3, q4, q5⟩ := hvn
              obtain ⟨rfl, q6⟩ := q5 (by omega)
              refine fin _ _ _ sz _ q1 rfl hsz hin ⟨rfl, _, e1, by simp [pathIn], fun cs e' => by (cases e'), fun k' xs' gen' hist' frz' e' => ?_⟩
              cases e'
              refine ⟨by omega, fun _ => ⟨by omega, b, hbb, ?_⟩⟩
              simp [pathOff, hk]
        · cases h
      · rename_i id g off len
        split at h
        · rename_i k xs gen hist frz hid
          cases hb : (Nat.beq g gen && Nat.beq sz k.size) with
          | false => rw [hb] at h; cases h
          | true =>
            rw [hb] at h
            simp only [cond_true, Out.ok.injEq] at h
            obtain ⟨hin, rfl, rfl⟩ := h
            have hin := inb_iff.1 hin
            simp only [Bool.and_eq_true] at hb
            have hg := Nat.eq_of_beq_eq_true hb.1
            have hk := Nat.eq_of_beq_eq_true hb.2
            obtain ⟨_, ob, h1, h2⟩ := hrs
            have e1 := hh id _ hid
            rw [e1] at h1; cases h1
            have hvn := (h2 _ _ _ _ _ rfl).2 hg
            simp only [VwNow] at hvn
            cases hbb : c.β id with
            | none => rw [hbb] at hvn; omega
            | some b =>
              rw [hbb] at hvn
              obtain ⟨cap, arr, a, q1, q2, q3, q4, q5⟩ := hvn
              obtain ⟨rfl, q6⟩ := q5 (by omega)
              refine fin _ _ _ sz _ q1 rfl hsz hin ⟨rfl, _, e1, by simp [pathIn], fun cs e' => by (cases e'), fun k' xs' gen' hist' frz' e' => ?_⟩
              cases e'
              refine ⟨by omega, fun _ => ⟨by omega, b, hbb, ?_⟩⟩
              simp [pathOff, hk, Nat.add_mul, Nat.add_comm]
        · cases h
      · rename_i k xs
        cases hb : Nat.beq sz k.size with
        | false => rw [hb] at h; cases h
        | true =>
          rw [hb] at h
          simp only [cond_true, Out.ok.injEq] at h
          obtain ⟨hin, rfl, rfl⟩ := h
          have hin := inb_iff.1 hin
          have hk := Nat.eq_of_beq_eq_true hb
          obtain ⟨a, cap, q1, q2, q3⟩ := hrs
          have hlt : i.toNat < xs.length := by omega
          obtain ⟨ad, rfl, q4, q5, q6⟩ := q3 (by rintro rfl; simp at hlt)
          have hx : xs[i.toNat]? = some (xs.getD i.toNat k.dflt) := by
            rw [List.getElem?_eq_getElem hlt, List.getD_eq_getElem?_getD, List.getElem?_eq_getElem hlt]; rfl
          obtain ⟨vs, t1, t2⟩ := q6 _ _ hx
          refine fin ad _ _ sz _ (by simpa using q1) q4 hsz hin ⟨by simp [pathIn], ad.block, ad.off + i.toNat * k.size, vs, q5, by simp [pathOff, hk], t1, t2⟩
      · cases h
    · cases h
  · cases h
end
end Go.Eng
