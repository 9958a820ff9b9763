/- Stores. -/
import Derived.Test.YtfkiapjkeopgfaaE17
set_option linter.all false
set_option linter.unusedVariables false
set_option linter.unusedSimpArgs false
set_option linter.deprecated false
namespace Go.Eng
open Go.RowKit
theorem wr_get {α : Type} (X new : List α) (o j : Nat) (h : o + new.length ≤ X.length) : (X.take o ++ new ++ X.drop (o + new.length))[j]? = if o ≤ j ∧ j < o + new.length then new[j - o]? else X[j]? := by
  have ht : (X.take o).length = o := by simp; omega
  rw [List.append_assoc]
  by_cases h1 : j < o
  · rw [if_neg (by omega), List.getElem?_append_left (by omega), List.getElem?_take, if_pos h1]
  · rw [List.getElem?_append_right (by omega), ht]
    by_cases h2 : j < o + new.length
    · rw [if_pos ⟨by omega, h2⟩, List.getElem?_append_left (by omega)]
    · rw [if_neg (by omega), List.getElem?_append_right (by omega), List.getElem?_drop]
      congr 1; omega
theorem mem_idsOf {id : Nat} : ∀ {l : List S}, id ∈ idsOf l ↔ ∃ s ∈ l, id ∈ s.ids
  | [] => by simp [idsOf]
  | s :: r => by simp [idsOf, mem_idsOf (l := r)]
theorem idsOf_leaves : ∀ (k : K) (x : k.T) (s : S), s ∈ leaves k x → s.ids = []
  | .int _, _, s, h => by simp [leaves] at h; subst h; rfl
  | .bool, _, s, h => by simp [leaves] at h; subst h; rfl
  | .str, _, s, h => by simp [leaves] at h; subst h; rfl
  | .err, _, s, h => by simp [leaves] at h; subst h; rfl
  | .fn, _, s, h => by simp [leaves] at h; subst h; rfl
  | .slice _, _, s, h => by simp [leaves] at h; subst h; rfl
  | .prod a b, x, s, h => by
    simp only [leaves, List.mem_append] at h
    rcases h with h | h
    · exact idsOf_leaves a x.1 s h
    · exact idsOf_leaves b x.2 s h
  | .strct a, x, s, h => idsOf_leaves a x s h
theorem ext_turn {w0 : World} {M : MS} {c : Cx} (hm : Mem w0 M c) {id : Nat} {w' : World} {S' : Nat → Prop} {β' : Option Nat} {o' : Obj} (hblk : ∀ b, b < c.w.heap.size → ¬ Live c id b → w'.heap[b]? = c.w.heap[b]?) (hsub : ∀ b, c.S b → S' b)
    (hids : ∀ s v, s.ids = [id] → RepS c s v → RepS (c.turn id w' S' β' o') s v) : Ext c (c.turn id w' S' β' o') := by
  have hstab : ∀ b, c.S b → w'.heap[b]? = c.w.heap[b]? := fun b hb => hblk b (hm.below b hb) fun hl => (hm.live id b hl).2.1 hb
  refine ⟨rfl, hstab, hsub, fun j s v hs hr => ?_⟩
  by_cases hj : j = id
  · subst hj; exact hids s v hs hr
  · refine RepS.same (id := j) (c := c) rfl hstab hsub (by simp [Cx.turn, hj]) (fun b o hb ho hrow => ?_) (fun o ho => by simp [Cx.turn, upd, hj, ho]) hs hr
    obtain ⟨x, hx⟩ := blk_of_repO (hm.obj j o ho) (.inr hrow) hb
    refine hblk b (lt_of_some hx) fun hid => ?_
    by_cases hv : o.live = true
    · exact hj (hm.one j id b ⟨hb, o, ho, hv⟩ hid)
    · cases o with
      | box cs => cases hrow
      | mp k es => cases hrow
      | row k xs gen hist frz =>
        have hf : frz = true := by simpa [Obj.live] using hv
        have := hm.obj j _ ho
        simp only [RepO, hb] at this
        exact (hm.live id b hid).2.1 (this.2.2 hf)
theorem frzU_keys {hp : Nat → Option Obj} : ∀ {ids : List Nat} {u : Upd}, frzU hp ids = some u → ∀ {id : Nat}, id ∉ ids → hget u id = none
  | [], u, h, id, _ => by simp [frzU] at h; subst h; rfl
  | i :: r, u, h, id, hid => by
    simp only [frzU] at h
    split at h
    · simp only [Option.some.injEq] at h; subst h
      simp only [List.mem_cons, not_or] at hid
      simp only [hget]
      cases hb : Nat.beq i id with
      | true => exact (hid.1 (Nat.eq_of_beq_eq_true hb).symm).elim
      | false => exact frzU_keys (by assumption) hid.2
    · cases h
theorem run_storeAt {P : Program} {c : Cx} {t : TypeId} {b o : Nat} {T : TypeId} {fz : Nat × Nat} {arr : Array Value} {new : List S} {v : Value} {g : Bool} (hs : sizeT P t = some new.length) (hv : RepV c (.val g new) v) (hb : c.w.heap[b]? = some (.cells arr T fz)) (hfz : FzOk arr.size fz) (hsz : o + new.length ≤ arr.size) :
    ∃ w' vn, LR (RepS c) new vn ∧ Stored c.w w' b (arrOver arr o vn) T fz ∧ (Instr.storeAt t (.pointer (some ⟨b, o, none⟩)) v).run P c.w = .ok () w' := by
  have hl := repV_cells hv
  have hlen := hl.length
  obtain ⟨w', s1, s2⟩ := run_storeCells (P := P) (b := b) (o := o) v.cells.toList 0 c.w arr (LR.ones hl) hb (by omega) (fun j j1 j2 => hfz.1 j (by omega))
  refine ⟨w', _, hl, by simpa using s2, ?_⟩
  unfold Instr.storeAt
  rw [run_ok (show (Instr.sureAddr (.pointer (some ⟨b, o, none⟩))).run P c.w = .ok ⟨b, o, none⟩ c.w from rfl)]
  unfold storeVar
  rw [run_ok (run_sizeOf hs c.w), if_neg (by simp at hlen; omega)]
  exact s1
section
variable {P : Program} {A : Ann} {fid : Nat} {w0 : World} {M : MS} {c : Cx} {ρ : Operand → AV} {r : Operand → Value} {hp : Nat → Option Obj} {o : Oper} {v : AV} {u : Upd}
theorem core_store (hm : Mem w0 M c) (hh : ∀ id o, hp id = some o → c.hp id = some o) (hr : ∀ x, RepV c (ρ x) (r x)) {t : TypeId} {a x : Operand} (ho : o.op = .store t a x) (h : core P A fid ρ hp o = .ok true v u) :
    StepOk w0 M c ((execOp r o).run P c.w) v u := by
  simp only [core, ho] at h
  simp only [execOp, ho]
  have hx := hr x
  split at h
  · rename_i id g i p gg new n hsl ex hs
    rw [ex] at hx
    have hra := slot_rep hr hsl
    cases hb : Nat.beq new.length n with
    | false => rw [hb] at h; cases h
    | true =>
      rw [hb] at h
      simp only [cond_true] at h
      have hn := Nat.eq_of_beq_eq_true hb
      subst hn
      split at h
      · -- a box
        rename_i cs hid
        cases hb2 : (Nat.beq g 0 && Nat.beq i 0 && !cs.isEmpty) with
        | false => rw [hb2] at h; cases h
        | true =>
          rw [hb2] at h
          simp only [cond_true] at h
          split at h
          · rename_i cs' hset
            simp only [Out.ok.injEq, true_and] at h
            obtain ⟨rfl, rfl⟩ := h
            have e1 := hh id _ hid
            obtain ⟨_, ob, t1, tp, t2, t3⟩ := hra
            rw [e1] at t1; cases t1
            have hne : cs ≠ [] := by rintro rfl; simp at hb2
            obtain ⟨b, hβ, ev, hg0, hi0⟩ := t2 cs rfl hne
            obtain ⟨b', arr, q1, ⟨T, fz, q2, q3⟩, q4⟩ := hm.obj id _ e1 hne
            rw [hβ] at q1; cases q1
            obtain ⟨w1, w2⟩ := setP_eq p new cs cs' hset tp
            have hlen := q4.length
            simp only [List.length_take, Array.length_toList] at hlen
            obtain ⟨w', vn, s1, s2, s3⟩ := run_storeAt (P := P) (o := pathOff p) hs hx q2 q3 (by omega)
            have hln := s1.length
            have hlive : Live c id b := ⟨hβ, _, e1, by simp [Obj.live, hne]⟩
            have hcl : cs'.length = cs.length := by rw [w2]; simp; omega
            have hne' : cs' ≠ [] := by intro h; rw [h] at hcl; simp at hcl; exact hne (List.length_eq_zero_iff.1 hcl.symm)
            have hblk : ∀ j, j < c.w.heap.size → ¬ Live c id j → w'.heap[j]? = c.w.heap[j]? := fun j _ hl => s2.other j (by rintro rfl; exact hl hlive)
            have hids : ∀ s v, s.ids = [id] → RepS c s v → RepS (c.turn id w' c.S (some b) (.box cs')) s v := by
              intro s v hsi hrs
              have hhp : (c.turn id w' c.S (some b) (.box cs')).hp id = some (.box cs') := by simp [Cx.turn, upd]
              cases s <;> simp only [S.ids, List.cons.injEq, and_true, reduceCtorEq] at hsi
              case vw j g => subst hsi; exact ⟨hrs.1, _, hhp, fun k xs gen hist frz e => by cases e⟩
              case pv j g off len => subst hsi; exact ⟨hrs.1, _, hhp, fun k xs gen hist frz e => by cases e⟩
              case mp j => subst hsi; exact ⟨hrs.1, _, hhp, fun k es e => by cases e⟩
              case ptr j g i p =>
                subst hsi
                obtain ⟨z0, oo, z1, z2, z3, z4⟩ := hrs
                rw [e1] at z1; cases z1
                obtain ⟨b2, y1, y2, y3⟩ := z3 cs rfl hne
                rw [hβ] at y1; cases y1
                exact ⟨z0, _, hhp, z2, fun cs2 e2 _ => ⟨b, by simp [Cx.turn], y2, y3⟩, fun k xs gen hist frz e => by cases e⟩
            have he := ext_turn hm (β' := some b) (o' := .box cs') hblk (fun _ h => h) hids
            have ht : Turn w0 M c id w' c.S (some b) (.box cs') := by
              refine ⟨s2.os, s2.tape, s2.output, by rw [s2.size]; exact Nat.le_refl _, hblk, fun _ h => h, fun b' hb' => ⟨by rw [s2.size]; exact hm.below b' hb', .inl hb'⟩, ⟨_, e1⟩, fun _ => ?_, fun b' hb' _ => ?_, hids⟩
              · refine ⟨b, _, by simp [Cx.turn], ⟨T, fz, s2.here, by rw [arrOver_size]; exact q3⟩, ?_⟩
                have hal : (arrOver arr (pathOff p) vn).toList.length = arr.size := by rw [Array.length_toList]; exact arrOver_size _ _ _
                refine LR.of_get (by rw [List.length_take, hal]; omega) fun j x y hx hy => ?_
                rw [List.getElem?_take] at hy
                split at hy
                · rw [Array.getElem?_toList, arrOver_get vn arr _ j (by omega)] at hy
                  rw [w2, wr_get _ _ _ _ w1] at hx
                  rw [← hln] at hy
                  refine he.rep ?_
                  split at hy
                  · rw [if_pos (by assumption)] at hx
                    obtain ⟨y', e2, e3⟩ := s1.get _ _ hx
                    rw [hy] at e2; cases e2; exact e3
                  · rw [if_neg (by assumption)] at hx
                    obtain ⟨y', e2, e3⟩ := q4.get _ _ hx
                    rw [List.getElem?_take] at e2
                    split at e2
                    · rw [Array.getElem?_toList, hy] at e2; cases e2; exact e3
                    · cases e2
                · cases hy
              · cases hb'
                exact ⟨by rw [s2.size]; exact (hm.live id b hlive).1, (hm.live id b hlive).2.1, .inl hlive⟩
            refine ⟨.skip, c.turn id w' c.S (some b) (.box cs'), ?_, ht.mem hm, he, by rw [hpU_cons, hpU_nil]; rfl, .inr ⟨rfl, rfl⟩⟩
            rw [ev]
            exact run_unit s3
          · cases h
      · -- a row's element
        rename_i k xs gen hist hid
        cases hb2 : (Nat.beq g gen && !(idsOf new).contains id) with
        | false => rw [hb2] at h; cases h
        | true =>
          rw [hb2] at h
          simp only [cond_true] at h
          simp only [Bool.and_eq_true, Bool.not_eq_true'] at hb2
          have hg := Nat.eq_of_beq_eq_true hb2.1
          have hni : id ∉ idsOf new := by
            have := hb2.2
            intro hmem
            rw [List.contains_iff_mem.2 hmem] at this; cases this
          split at h
          · rename_i cs' uf hset huf
            split at h
            · rename_i y hy
              simp only [Out.ok.injEq, true_and] at h
              obtain ⟨rfl, rfl⟩ := h
              have e1 := hh id _ hid
              obtain ⟨c1, f1, f2, m1, x1, p1, p2⟩ := frz_ok hm hh huf
              have e2 : c1.hp id = some (.row k xs gen hist false) := by
                rw [p1]; unfold hpU; rw [frzU_keys huf hni]; exact e1
              -- the element as it was
              obtain ⟨_, ob, t1, tp, t2, t3⟩ := hra
              rw [e1] at t1; cases t1
              obtain ⟨hlt, b, hβ, ev⟩ := (t3 _ _ _ _ _ rfl).2 hg
              have hro := hm.obj id _ e1
              unfold RepO at hro
              simp only [hβ] at hro
              obtain ⟨⟨arr, q1, q2, q3⟩, q4, _⟩ := hro
              obtain ⟨arr', q5⟩ := q4 trivial
              have earr := q1.uniq q5.blk
              subst earr
              obtain ⟨T, fz, q6, q7⟩ := q5
              have hxi : xs[i]? = some (xs.getD i k.dflt) := by
                rw [List.getElem?_eq_getElem hlt, List.getD_eq_getElem?_getD, List.getElem?_eq_getElem hlt]; rfl
              obtain ⟨vs, r1, r2⟩ := q3 i _ hxi
              have hlv := (leaves_rep k _ vs).2 r1
              have hvl := RepT.len r1
              obtain ⟨w1, w2⟩ := setP_eq p new _ cs' hset tp
              have hll := hlv.length
              have hroom : i * k.size + k.size ≤ xs.length * k.size := by
                have : (i + 1) * k.size ≤ xs.length * k.size := Nat.mul_le_mul_right _ hlt
                rw [Nat.add_mul] at this; omega
              obtain ⟨w', vn, s1, s2, s3⟩ := run_storeAt (P := P) (o := i * k.size + pathOff p) hs hx q6 q7 (by omega)
              have hln := s1.length
              -- the element as it is
              have hl2 := hlv.wr s1 w2
              have hyr : RepT c.te c.w c1.S k y (vs.take (pathOff p) ++ vn ++ vs.drop (pathOff p + vn.length)) := by
                refine rei1_rep hm hh x1.sub (fun j hj => ?_) hl2 hy
                obtain ⟨s, hs1, hs2⟩ := mem_idsOf.1 hj
                rw [w2] at hs1
                rcases List.mem_append.1 hs1 with hs1 | hs1
                · rcases List.mem_append.1 hs1 with hs1 | hs1
                  · rw [idsOf_leaves k _ s (List.mem_of_mem_take hs1)] at hs2; simp at hs2
                  · exact p2 j (mem_idsOf.2 ⟨s, hs1, hs2⟩)
                · rw [idsOf_leaves k _ s (List.mem_of_mem_drop hs1)] at hs2; simp at hs2
              have hβ1 : c1.β id = some b := by rw [f2]; exact hβ
              have hlive : Live c1 id b := ⟨hβ1, _, e2, rfl⟩
              have hblk : ∀ j, j < c1.w.heap.size → ¬ Live c1 id j → w'.heap[j]? = c1.w.heap[j]? := fun j _ hl => by rw [f1]; exact s2.other j (by rintro rfl; exact hl hlive)
              have hstab : ∀ j, c1.S j → w'.heap[j]? = c1.w.heap[j]? := fun j hj => hblk j (m1.below j hj) fun hl => (m1.live id j hl).2.1 hj
              have hsz2 : (arrOver arr (i * k.size + pathOff p) vn).size = arr.size := arrOver_size _ _ _
              have hids : ∀ s v, s.ids = [id] → RepS c1 s v → RepS (c1.turn id w' c1.S (some b) (.row k (xs.set i y) gen [] false)) s v := by
                intro s v hsi hrs
                have hhp : (c1.turn id w' c1.S (some b) (.row k (xs.set i y) gen [] false)).hp id = some (.row k (xs.set i y) gen [] false) := by simp [Cx.turn, upd]
                have hβ2 : (c1.turn id w' c1.S (some b) (.row k (xs.set i y) gen [] false)).β id = c1.β id := by simp [Cx.turn, hβ1]
                have hbk : ∀ b', c1.β id = some b' → ∀ ar, Blk c1.w b' ar → ∃ ar', Blk (c1.turn id w' c1.S (some b) (.row k (xs.set i y) gen [] false)).w b' ar' ∧ ar.size ≤ ar'.size := by
                  intro b' hb' ar har
                  rw [hβ1] at hb'; cases hb'
                  rw [f1] at har
                  have := har.uniq q1
                  subst this
                  exact ⟨_, ⟨T, fz, s2.here⟩, by rw [hsz2]; exact Nat.le_refl _⟩
                cases s <;> simp only [S.ids, List.cons.injEq, and_true, reduceCtorEq] at hsi
                case vw j g2 =>
                  subst hsi
                  obtain ⟨z0, oo, z1, z2⟩ := hrs
                  rw [e2] at z1; cases z1
                  obtain ⟨y1, y2, y3⟩ := z2 _ _ _ _ _ rfl
                  refine ⟨z0, _, hhp, fun k' xs' gen' hist' frz' e' => ?_⟩
                  cases e'
                  refine ⟨y1, fun hg2 => ?_, fun _ zs hz => by simp at hz⟩
                  rw [List.length_set]
                  exact VwNow.of hβ2 hbk (y2 hg2)
                case pv j g2 off len =>
                  subst hsi
                  obtain ⟨z0, oo, z1, z2⟩ := hrs
                  rw [e2] at z1; cases z1
                  obtain ⟨y1, y2⟩ := z2 _ _ _ _ _ rfl
                  refine ⟨z0, _, hhp, fun k' xs' gen' hist' frz' e' => ?_⟩
                  cases e'
                  refine ⟨y1, fun hg2 => ?_⟩
                  rw [List.length_set]
                  exact VwNow.of hβ2 hbk (y2 hg2)
                case mp j => subst hsi; exact ⟨hrs.1, _, hhp, fun k es e => by cases e⟩
                case ptr j g2 i2 p2 =>
                  subst hsi
                  obtain ⟨z0, oo, z1, zp, z2, z3⟩ := hrs
                  rw [e2] at z1; cases z1
                  refine ⟨z0, _, hhp, zp, fun cs e' => by (cases e'), fun k' xs' gen' hist' frz' e' => ?_⟩
                  cases e'
                  rw [hβ2, List.length_set]
                  exact z3 _ _ _ _ _ rfl
              have ht : Turn w0 M c1 id w' c1.S (some b) (.row k (xs.set i y) gen [] false) := by
                refine ⟨by rw [f1]; exact s2.os, by rw [f1]; exact s2.tape, by rw [f1]; exact s2.output, by rw [f1, s2.size]; exact Nat.le_refl _, hblk, fun _ h => h, fun b' hb' => ⟨by rw [s2.size, ← f1]; exact m1.below b' hb', .inl hb'⟩, ⟨_, e2⟩, ?_, fun b' hb' _ => ?_, hids⟩
                · have hβ2 : (c1.turn id w' c1.S (some b) (.row k (xs.set i y) gen [] false)).β id = some b := by simp [Cx.turn]
                  unfold RepO
                  simp only [hβ2]
                  refine ⟨⟨_, ⟨T, fz, s2.here⟩, by rw [hsz2, List.length_set]; exact q2, fun j x hx => ?_⟩, fun _ => ⟨_, T, fz, s2.here, by rw [hsz2]; exact q7⟩, fun h => by (cases h)⟩
                  have hget := fun q => arrOver_get vn arr (i * k.size + pathOff p) q (by omega)
                  by_cases hj : j = i
                  · subst hj
                    rw [List.getElem?_set_self hlt] at hx
                    simp only [Option.some.injEq] at hx; subst hx
                    refine ⟨_, RepT.mono (w := c1.w) hstab (fun _ h => h) (by rw [f1]; have := hyr; rw [← x1.te] at this; exact this), fun q v hv => ?_⟩
                    rw [wr_get _ _ _ _ (by omega)] at hv
                    rw [hget]
                    split at hv
                    · rw [if_pos (by omega), show j * k.size + q - (j * k.size + pathOff p) = q - pathOff p by omega]; exact hv
                    · rw [if_neg (by omega)]; exact r2 q v hv
                  · rw [List.getElem?_set_ne (by omega)] at hx
                    obtain ⟨vs2, u1, u2⟩ := q3 j x hx
                    refine ⟨vs2, RepT.mono (w := c.w) (fun b' hb' => by have := hstab b' (x1.sub b' hb'); rw [f1] at this; exact this) x1.sub (by rw [show (c1.turn id w' c1.S (some b) (.row k (xs.set i y) gen [] false)).te = c.te from x1.te]; exact u1), fun q v hv => ?_⟩
                    have hq : q < k.size := by rw [← RepT.len u1]; obtain ⟨z, _⟩ := List.getElem?_eq_some_iff.1 hv; exact z
                    rw [hget, if_neg]
                    · exact u2 q v hv
                    · rintro ⟨c1', c2'⟩
                      rcases Nat.lt_or_ge j i with hji | hji
                      · have : (j + 1) * k.size ≤ i * k.size := Nat.mul_le_mul_right _ hji
                        rw [Nat.add_mul] at this; omega
                      · have : (i + 1) * k.size ≤ j * k.size := Nat.mul_le_mul_right _ (by omega)
                        rw [Nat.add_mul] at this; omega
                · cases hb'
                  exact ⟨by rw [s2.size, ← f1]; exact (m1.live id b hlive).1, (m1.live id b hlive).2.1, .inl hlive⟩
              have hstep : StepOk w0 M c1 ((do Instr.storeAt t (r a) (r x); pure Next.skip : Sem Next).run P c.w) .undef [(id, .row k (xs.set i y) gen [] false)] := by
                refine ⟨.skip, c1.turn id w' c1.S (some b) (.row k (xs.set i y) gen [] false), ?_, ht.mem m1, ht.ext m1, by rw [hpU_cons, hpU_nil]; rfl, .inr ⟨rfl, rfl⟩⟩
                rw [ev]
                exact run_unit s3
              exact hstep.after x1 p1 (fun j => hpU_append _ _ _ j)
            · cases h
          · cases h
      · cases h
  · cases h
/-- Bytes of a literal: marked behind their end. -/
theorem core_mark (hm : Mem w0 M c) (hh : ∀ id o, hp id = some o → c.hp id = some o) (hr : ∀ x, RepV c (ρ x) (r x)) {st dt : TypeId} {x : Operand} (ho : o.op = .convert st dt x) {id g : Nat} {e0 e : TypeId}
    (hx : slot x ρ = some (.vw id g)) (hsu : P.underlying st = some (.slice e0)) (hdu : P.underlying dt = some (.slice e)) (h : core P A fid ρ hp o = .ok true v u) :
    StepOk w0 M c ((execOp r o).run P c.w) v u := by
  simp only [core, ho, hx, hsu, hdu] at h
  simp only [execOp, ho]
  split at h
  · rename_i k xs gen hist heu hid
    cases hb : (Nat.beq g gen && Nat.beq st dt) with
    | false => rw [hb] at h; cases h
    | true =>
      rw [hb] at h
      simp only [cond_true, Out.ok.injEq, Bool.not_eq_true'] at h
      obtain ⟨hne, rfl, rfl⟩ := h
      simp only [Bool.and_eq_true] at hb
      have hg := Nat.eq_of_beq_eq_true hb.1
      have hst := Nat.eq_of_beq_eq_true hb.2
      subst hg
      subst hst
      have hxs : 0 < xs.length := by
        rcases xs with _ | ⟨y, ys⟩
        · simp at hne
        · simp
      have e1 := hh id _ hid
      have hrx := slot_rep hr hx
      obtain ⟨hone, ob, t1, t2⟩ := hrx
      rw [e1] at t1; cases t1
      have hnow := (t2 _ _ _ _ _ rfl).2.1 rfl
      have hro := hm.obj id _ e1
      unfold RepO at hro
      cases hβ : c.β id with
      | none => simp only [hβ] at hro; rw [hro] at hxs; simp at hxs
      | some b =>
      simp only [hβ] at hro
      unfold VwNow at hnow
      simp only [hβ] at hnow
      obtain ⟨cap, arr, a, ev, hle, hblk0, _, hcap⟩ := hnow
      obtain ⟨rfl, _⟩ := hcap (by omega)
      obtain ⟨⟨arr1, p1, p2, p3⟩, p4, p5⟩ := hro
      have earr := hblk0.uniq p1
      subst earr
      obtain ⟨arr2, T, fz, q1, q2⟩ := p4 trivial
      have earr := hblk0.uniq ⟨T, fz, q1⟩
      subst earr
      let w' := freezeW c.w b arr.size
      let fz' : Nat × Nat := if fz.1 == fz.2 then (arr.size, arr.size + 1) else (min fz.1 arr.size, max fz.2 (arr.size + 1))
      have hfz' : FzOk arr.size fz' := by
        show FzOk arr.size (if fz.1 == fz.2 then (arr.size, arr.size + 1) else (min fz.1 arr.size, max fz.2 (arr.size + 1)))
        split
        · exact ⟨fun o ho => (by show ¬ (arr.size ≤ o ∧ o < arr.size + 1); omega), Nat.le_succ _⟩
        · rename_i hne2
          have hne3 : fz.1 ≠ fz.2 := by simpa using hne2
          have hle2 := q2.2
          have hge : arr.size ≤ fz.1 := by
            rcases Nat.lt_or_ge fz.1 arr.size with q | q
            · exact (q2.1 fz.1 q ⟨Nat.le_refl _, by omega⟩).elim
            · exact q
          exact ⟨fun o ho => (by show ¬ (min fz.1 arr.size ≤ o ∧ o < max fz.2 (arr.size + 1)); omega), (by show min fz.1 arr.size ≤ max fz.2 (arr.size + 1); omega)⟩
      have hwb : w'.heap[b]? = some (.cells arr T fz') := by
        show (c.w.freeze { block := b, off := arr.size } 1).heap[b]? = _
        unfold World.freeze
        rw [if_neg (by decide)]
        simp only [Array.getElem?_modify, if_pos, q1]
        rfl
      have hwo : ∀ j, j ≠ b → w'.heap[j]? = c.w.heap[j]? := by
        intro j hj
        show (c.w.freeze { block := b, off := arr.size } 1).heap[j]? = _
        unfold World.freeze
        rw [if_neg (by decide)]
        simp only [Array.getElem?_modify]
        rw [if_neg (fun h => hj h.symm)]
      have hwsz : w'.heap.size = c.w.heap.size := by
        show (c.w.freeze { block := b, off := arr.size } 1).heap.size = _
        unfold World.freeze
        rw [if_neg (by decide)]
        simp
      have hwos : w'.os = c.w.os ∧ w'.tape = c.w.tape ∧ w'.output = c.w.output := by
        show (c.w.freeze _ 1).os = _ ∧ (c.w.freeze _ 1).tape = _ ∧ (c.w.freeze _ 1).output = _
        unfold World.freeze
        rw [if_neg (by decide)]
        exact ⟨rfl, rfl, rfl⟩
      have hlive : Live c id b := ⟨hβ, _, e1, rfl⟩
      have hblk : ∀ j, j < c.w.heap.size → ¬ Live c id j → w'.heap[j]? = c.w.heap[j]? := fun j _ hl => hwo j (by rintro rfl; exact hl hlive)
      have hstab : ∀ j, c.S j → w'.heap[j]? = c.w.heap[j]? := fun j hj => hblk j (hm.below j hj) fun hl => (hm.live id j hl).2.1 hj
      have hids : ∀ s v, s.ids = [id] → RepS c s v → RepS (c.turn id w' c.S (some b) (.row k xs g [] false)) s v := by
        intro s v hsi hrs
        have hhp : (c.turn id w' c.S (some b) (.row k xs g [] false)).hp id = some (.row k xs g [] false) := by simp [Cx.turn, upd]
        have hβ2 : (c.turn id w' c.S (some b) (.row k xs g [] false)).β id = c.β id := by simp [Cx.turn, hβ]
        have hbk : ∀ b', c.β id = some b' → ∀ ar, Blk c.w b' ar → ∃ ar', Blk (c.turn id w' c.S (some b) (.row k xs g [] false)).w b' ar' ∧ ar.size ≤ ar'.size := by
          intro b' hb' ar har
          rw [hβ] at hb'; cases hb'
          have := har.uniq ⟨T, fz, q1⟩
          subst this
          exact ⟨_, ⟨T, fz', hwb⟩, Nat.le_refl _⟩
        cases s <;> simp only [S.ids, List.cons.injEq, and_true, reduceCtorEq] at hsi
        case vw j g2 =>
          subst hsi
          obtain ⟨z0, oo, z1, z2⟩ := hrs
          rw [e1] at z1; cases z1
          obtain ⟨y1, y2, y3⟩ := z2 _ _ _ _ _ rfl
          refine ⟨z0, _, hhp, fun k' xs' gen' hist' frz' e' => ?_⟩
          cases e'
          exact ⟨y1, fun hg2 => VwNow.of hβ2 hbk (y2 hg2), fun _ zs hz => by simp at hz⟩
        case pv j g2 off len =>
          subst hsi
          obtain ⟨z0, oo, z1, z2⟩ := hrs
          rw [e1] at z1; cases z1
          obtain ⟨y1, y2⟩ := z2 _ _ _ _ _ rfl
          refine ⟨z0, _, hhp, fun k' xs' gen' hist' frz' e' => ?_⟩
          cases e'
          exact ⟨y1, fun hg2 => VwNow.of hβ2 hbk (y2 hg2)⟩
        case mp j => subst hsi; exact ⟨hrs.1, _, hhp, fun k es e => by cases e⟩
        case ptr j g2 i2 p2 =>
          subst hsi
          obtain ⟨z0, oo, z1, zp, z2, z3⟩ := hrs
          rw [e1] at z1; cases z1
          refine ⟨z0, _, hhp, zp, fun cs e' => by (cases e'), fun k' xs' gen' hist' frz' e' => ?_⟩
          cases e'
          rw [hβ2]
          exact z3 _ _ _ _ _ rfl
      have ht : Turn w0 M c id w' c.S (some b) (.row k xs g [] false) := by
        refine ⟨hwos.1, hwos.2.1, hwos.2.2, by rw [hwsz]; exact Nat.le_refl _, hblk, fun _ h => h, fun b' hb' => ⟨by rw [hwsz]; exact hm.below b' hb', .inl hb'⟩, ⟨_, e1⟩, ?_, fun b' hb' _ => ?_, hids⟩
        · have hβ2 : (c.turn id w' c.S (some b) (.row k xs g [] false)).β id = some b := by simp [Cx.turn]
          unfold RepO
          simp only [hβ2]
          refine ⟨⟨_, ⟨T, fz', hwb⟩, p2, fun j x hx => ?_⟩, fun _ => ⟨_, T, fz', hwb, hfz'⟩, fun h => by (cases h)⟩
          obtain ⟨vs, r1, r2⟩ := p3 j x hx
          exact ⟨vs, RepT.mono (w := c.w) hstab (fun _ h => h) r1, r2⟩
        · cases hb'
          exact ⟨by rw [hwsz]; exact (hm.live id b hlive).1, (hm.live id b hlive).2.1, .inl hlive⟩
      have hrv : RepS (c.turn id w' c.S (some b) (.row k xs g [] false)) (.vw id g) (r x) := hids (.vw id g) (r x) rfl (slot_rep hr hx)
      refine ⟨.value (r x), c.turn id w' c.S (some b) (.row k xs g [] false), ?_, ht.mem hm, ht.ext hm, by rw [hpU_cons, hpU_nil]; rfl, .inl ⟨_, rfl, repV_one hrv⟩⟩
      refine run_val ?_
      rw [ev]
      unfold convert
      rw [run_ok (run_underlying hsu c.w), run_ok (run_underlying hdu c.w)]
      simp only []
      rw [run_ok (run_underlying heu c.w)]
      simp only [beq_self_eq_true]
      have hmk : (markStringish ⟨b, 0 * k.size, none⟩).run P c.w = .ok () w' := by
        unfold markStringish
        have hshape : (shape b).run P c.w = .ok (some (T, arr.size)) c.w := by
          show Result.ok (c.w.shape? b) c.w = _
          simp only [World.shape?, q1]
        rw [run_ok hshape]; rfl
      rw [run_ok hmk]; rfl
  · cases h
theorem core_convert2 (hm : Mem w0 M c) (hh : ∀ id o, hp id = some o → c.hp id = some o) (hf : ∀ d, o.dst = some d → hp d = none → c.hp d = none) (hr : ∀ x, RepV c (ρ x) (r x)) {st dt : TypeId} {x : Operand} (ho : o.op = .convert st dt x) (h : core P A fid ρ hp o = .ok true v u) :
    StepOk w0 M c ((execOp r o).run P c.w) v u := by
  by_cases hs : ∃ id g e0 e, slot x ρ = some (.vw id g) ∧ P.underlying st = some (.slice e0) ∧ P.underlying dt = some (.slice e)
  · obtain ⟨id, g, e0, e, h1, h2, h3⟩ := hs
    exact core_mark hm hh hr ho h1 h2 h3 h
  · exact core_convert hm hh hf hr ho (fun id g e0 e q => hs ⟨id, g, e0, e, q⟩) h
end
end Go.Eng
