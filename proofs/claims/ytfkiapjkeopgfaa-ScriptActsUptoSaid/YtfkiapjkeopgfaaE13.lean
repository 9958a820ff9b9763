/- New boxes and rows; rows that are frozen. -/
import Derived.Test.YtfkiapjkeopgfaaE12
set_option linter.all false
set_option linter.unusedVariables false
set_option linter.unusedSimpArgs false
set_option linter.deprecated false
namespace Go.Eng
open Go.RowKit
theorem hpU_cons (d : Nat) (o : Obj) (u : Upd) (hp : Nat → Option Obj) : hpU ((d, o) :: u) hp = upd (hpU u hp) d o := by
  funext id
  unfold hpU upd
  simp only [hget]
  by_cases e : id = d
  · subst e; simp
  · have : Nat.beq d id = false := by
      cases h : Nat.beq d id with
      | true => exact (e (Nat.eq_of_beq_eq_true h).symm).elim
      | false => rfl
    simp [this, e]
theorem hpU_nil (hp : Nat → Option Obj) : hpU [] hp = hp := rfl
theorem fresh_some {hp : Nat → Option Obj} {d : Option Nat} {id : Nat} (h : fresh hp d = some id) : d = some id ∧ hp id = none := by
  unfold fresh at h
  split at h
  · rename_i i
    split at h
    · rename_i hn; simp only [Option.some.injEq] at h; subst h; exact ⟨rfl, hn⟩
    · cases h
  · cases h
theorem new_ext {c : Cx} {w0 : World} {M : MS} (hm : Mem w0 M c) {d b : Nat} {w' : World} {o : Obj} (hd : c.hp d = none) (hg : Grew c.w w') : Ext c (c.new w' d b o) :=
  (Ext.grew hm hg).trans (Ext.name (c := { c with w := w' }) (d := d) (β' := upd c.β d b) (o := o) hd (fun id hi => by simp [upd, hi]))
theorem new_mem {c : Cx} {w0 : World} {M : MS} (hm : Mem w0 M c) {d b : Nat} {w' : World} {o : Obj} (hd : c.hp d = none) (hg : Grew c.w w') (hb0 : c.w.heap.size ≤ b) (hb1 : b < w'.heap.size) (ho : RepO (c.new w' d b o) d o) : Mem w0 M (c.new w' d b o) := by
  refine Mem.name (c := { c with w := w' }) (hm.grew hg) hd (β' := upd c.β d b) (fun id hi => by simp [upd, hi]) ho ?_
  intro b' hb' _
  simp [upd] at hb'; subst hb'
  refine ⟨hb1, fun hs => ?_, .inl (Nat.le_trans hm.fr.size hb0), fun id hl => ?_⟩
  · have := hm.below _ hs; omega
  · have := (hm.live id _ hl).1; omega
def pushW (w : World) (o : Go.Obj) : World := { w with heap := w.heap.push o }
theorem grew_push (w : World) (o : Go.Obj) : Grew w (pushW w o) := by
  refine ⟨rfl, rfl, rfl, by simp [pushW], fun b hb => ?_⟩
  simp only [pushW, Array.getElem?_push]
  rw [if_neg (by omega)]
theorem push_here (w : World) (o : Go.Obj) : (pushW w o).heap[w.heap.size]? = some o := by
  show (w.heap.push o)[w.heap.size]? = some o
  rw [Array.getElem?_push]; simp
theorem run_newRow {P : Program} {w : World} (T : TypeId) (vs : Array Value) : (newRow T vs).run P w = .ok ⟨w.heap.size, 0, none⟩ (pushW w (.cells vs T (0, 0))) := rfl
theorem run_newVar {P : Program} {w : World} (T : TypeId) (v : Value) : (newVar T v).run P w = .ok ⟨w.heap.size, 0, none⟩ (pushW w (.cells v.cells T (0, 0))) := rfl
theorem blkFree_push (w : World) (vs : Array Value) (T : TypeId) : BlkFree (pushW w (.cells vs T (0, 0))) w.heap.size vs := ⟨T, (0, 0), push_here _ _, fun o _ h => (by omega), Nat.le_refl _⟩
/-- A box is made. -/
theorem new_box {c : Cx} {w0 : World} {M : MS} (hm : Mem w0 M c) {d : Nat} (hd : c.hp d = none) (T : TypeId) {cs : List S} {vs : Array Value} (hl : LR (RepS c) cs vs.toList) {nx : Result Next}
    (hn : nx = .ok (.value (.pointer (some ⟨c.w.heap.size, 0, none⟩))) (pushW c.w (.cells vs T (0, 0)))) : StepOk w0 M c nx (.val false [.ptr d 0 0 []]) [(d, .box cs)] := by
  have hg := grew_push c.w (.cells vs T (0, 0))
  have he := new_ext (b := c.w.heap.size) (o := .box cs) hm hd hg
  have hβ : (c.new (pushW c.w (.cells vs T (0, 0))) d c.w.heap.size (.box cs)).β d = some c.w.heap.size := by simp [Cx.new, upd]
  refine ⟨_, c.new (pushW c.w (.cells vs T (0, 0))) d c.w.heap.size (.box cs), hn, new_mem hm hd hg (Nat.le_refl _) (by simp [pushW]) ?_, he, by rw [hpU_cons, hpU_nil]; rfl, .inl ⟨_, rfl, repV_one ?_⟩⟩
  · intro _
    refine ⟨_, vs, hβ, blkFree_push _ _ _, ?_⟩
    have := hl.length
    rw [List.take_of_length_le (by omega)]
    exact hl.mono fun _ _ _ => he.rep
  · refine ⟨rfl, .box cs, by simp [Cx.new, upd], by simp [pathIn], fun cs' e hne => ?_, fun k xs gen hist frz e => by cases e⟩
    exact ⟨_, hβ, by simp [pathOff], rfl, rfl⟩
/-- A row is made. -/
def Cl (c : Cx) (k : K) (ys : List k.T) (cl : List Value) : Prop :=
  cl.length = ys.length * k.size ∧ (∀ v ∈ cl, one v = true) ∧ ∀ (i : Nat) (x : k.T), ys[i]? = some x → ∃ vs, RepT c.te c.w c.S k x vs ∧ ∀ (j : Nat) v, vs[j]? = some v → cl[i * k.size + j]? = some v
theorem new_row {c : Cx} {w0 : World} {M : MS} (hm : Mem w0 M c) {d : Nat} (hd : c.hp d = none) {k : K} {ys : List k.T} {cl : List Value} (hc : Cl c k ys cl) {w' : World} (hg : Grew c.w w') {arr : Array Value} {b : Nat} (hb0 : c.w.heap.size ≤ b) (hbf : BlkFree w' b arr)
    (harr : ∀ (j : Nat) v, cl[j]? = some v → arr[j]? = some v) {cap : Nat} (hcap : ys.length ≤ cap) (hcs : cap * k.size ≤ arr.size) {nx : Result Next} (hn : nx = .ok (.value (.slice (some ⟨b, 0, none⟩) ys.length cap)) w') :
    StepOk w0 M c nx (.val false [.vw d 0]) [(d, .row k ys 0 [] false)] := by
  have he := new_ext (b := b) (o := .row k ys 0 [] false) hm hd hg
  have hβ : (c.new w' d b (.row k ys 0 [] false)).β d = some b := by simp [Cx.new, upd]
  have hlt : b < w'.heap.size := by obtain ⟨T, fz, h, _⟩ := hbf; exact lt_of_some h
  refine ⟨_, c.new w' d b (.row k ys 0 [] false), hn, new_mem hm hd hg hb0 hlt ?_, he, by rw [hpU_cons, hpU_nil]; rfl, .inl ⟨_, rfl, repV_one ?_⟩⟩
  · simp only [RepO, hβ]
    refine ⟨⟨arr, hbf.blk, Nat.le_trans (Nat.mul_le_mul_right _ hcap) hcs, fun i x hx => ?_⟩, fun _ => ⟨arr, hbf⟩, fun h => by cases h⟩
    obtain ⟨vs, h1, h2⟩ := hc.2.2 i x hx
    exact ⟨vs, RepT.mono he.stab he.sub h1, fun j v hv => harr _ _ (h2 j v hv)⟩
  · refine ⟨rfl, _, by simp [Cx.new, upd]; rfl, fun k' xs gen hist frz e => ?_⟩
    cases e
    refine ⟨Nat.le_refl _, fun _ => ?_, fun h => (h rfl).elim⟩
    simp only [VwNow, hβ]
    exact ⟨cap, arr, _, rfl, hcap, hbf.blk, by simp, fun _ => ⟨by simp, by simpa using hcs⟩⟩
theorem new_nil {c : Cx} {w0 : World} {M : MS} (hm : Mem w0 M c) {d : Nat} (hd : c.hp d = none) (k : K) {nx : Result Next} (hn : nx = .ok (.value (.slice none 0 0)) c.w) :
    StepOk w0 M c nx (.val false [.vw d 0]) [(d, .row k [] 0 [] false)] := by
  have hβ : ∀ id, id ≠ d → (fun j => if j = d then none else c.β j) id = c.β id := fun id hi => by simp [hi]
  have he := Ext.name (c := c) (o := .row k [] 0 [] false) hd hβ
  refine ⟨_, { c with β := fun j => if j = d then none else c.β j, hp := upd c.hp d (.row k [] 0 [] false) }, hn, Mem.name hm hd hβ ?_ ?_, he, by rw [hpU_cons, hpU_nil], .inl ⟨_, rfl, repV_one ?_⟩⟩
  · simp [RepO]
  · intro b hb; simp at hb
  · refine ⟨rfl, _, by simp [upd]; rfl, fun k' xs gen hist frz e => ?_⟩
    cases e
    exact ⟨Nat.le_refl _, fun _ => by simp [VwNow], fun h => (h rfl).elim⟩

/-! Freezing. -/
theorem frzU_get {hp : Nat → Option Obj} : ∀ {ids : List Nat} {u : Upd}, frzU hp ids = some u → ∀ {id : Nat} {o : Obj}, hget u id = some o → ∃ k xs gen hist frz, hp id = some (.row k xs gen hist frz) ∧ o = .row k xs gen hist true
  | [], u, h, id, o, ho => by simp [frzU] at h; subst h; simp [hget] at ho
  | i :: r, u, h, id, o, ho => by
    simp only [frzU] at h
    split at h
    · rename_i k xs gen hist frz u' h1 h2
      simp only [Option.some.injEq] at h; subst h
      simp only [hget] at ho
      cases hb : Nat.beq i id with
      | true =>
        rw [hb] at ho
        simp only [cond_true, Option.some.injEq] at ho
        have := Nat.eq_of_beq_eq_true hb
        subst this
        exact ⟨k, xs, gen, hist, frz, h1, ho.symm⟩
      | false => rw [hb] at ho; exact frzU_get h2 ho
    · cases h
theorem frz_turn {c : Cx} {w0 : World} {M : MS} (hm : Mem w0 M c) {id : Nat} {k : K} {xs : List k.T} {gen : Nat} {hist : List (List k.T)} {frz : Bool} (ho : c.hp id = some (.row k xs gen hist frz)) :
    Turn w0 M c id c.w (fun b => c.S b ∨ Live c id b) (c.β id) (.row k xs gen hist true) := by
  have hr := hm.obj id _ ho
  have hfz : ∀ b, c.β id = some b → c.S b ∨ Live c id b := by
    intro b hb
    cases frz with
    | false => exact .inr ⟨hb, _, ho, rfl⟩
    | true =>
      have hr2 := hr
      unfold RepO at hr2
      simp only [hb] at hr2
      exact .inl (hr2.2.2 trivial)
  refine ⟨rfl, rfl, rfl, Nat.le_refl _, fun _ _ _ => rfl, fun b hb => .inl hb, fun b hb => ?_, ⟨_, ho⟩, ?_, fun b hb hl => by simp [Obj.live] at hl, fun s v hs h => ?_⟩
  · rcases hb with hb | hb
    · exact ⟨hm.below b hb, .inl hb⟩
    · exact ⟨(hm.live id b hb).1, .inr hb⟩
  · have hβ : (c.turn id c.w (fun b => c.S b ∨ Live c id b) (c.β id) (.row k xs gen hist true)).β id = c.β id := by simp [Cx.turn]
    unfold RepO at hr ⊢
    simp only [hβ]
    cases hb : c.β id with
    | none => simp only [hb] at hr; exact hr
    | some b =>
      simp only [hb] at hr
      obtain ⟨⟨arr, q1, q2, q3⟩, q4, q5⟩ := hr
      refine ⟨⟨arr, q1, q2, fun i x hx => ?_⟩, fun h => by (cases h), fun _ => hfz b hb⟩
      obtain ⟨vs, p1, p2⟩ := q3 i x hx
      exact ⟨vs, RepT.mono (fun _ _ => rfl) (fun _ h => .inl h) p1, p2⟩
  · have hβ : (c.turn id c.w (fun b => c.S b ∨ Live c id b) (c.β id) (.row k xs gen hist true)).β id = c.β id := by simp [Cx.turn]
    have hhp : (c.turn id c.w (fun b => c.S b ∨ Live c id b) (c.β id) (.row k xs gen hist true)).hp id = some (.row k xs gen hist true) := by simp [Cx.turn, upd]
    cases s <;> simp only [S.ids, List.cons.injEq, and_true, reduceCtorEq] at hs
    case vw j g =>
      subst hs
      obtain ⟨h0, o, h1, h2⟩ := h
      rw [ho] at h1; cases h1
      refine ⟨h0, _, hhp, fun k' xs' gen' hist' frz' e => ?_⟩
      cases e
      obtain ⟨p1, p2, p3⟩ := h2 _ _ _ _ _ rfl
      refine ⟨p1, fun hg => VwNow.of hβ (fun b _ arr hb => ⟨arr, hb, Nat.le_refl _⟩) (p2 hg), fun hg ys hy => ?_⟩
      exact VwOld.of (c := c) (c' := c.turn j c.w (fun b => c.S b ∨ Live c j b) (c.β j) (.row k xs gen hist true)) (Nat.le_refl _) rfl (fun _ _ => rfl) (fun _ h => .inl h) hβ (fun _ _ => rfl) (p3 hg ys hy)
    case pv j g off len =>
      subst hs
      obtain ⟨h0, o, h1, h2⟩ := h
      rw [ho] at h1; cases h1
      refine ⟨h0, _, hhp, fun k' xs' gen' hist' frz' e => ?_⟩
      cases e
      obtain ⟨p1, p2⟩ := h2 _ _ _ _ _ rfl
      exact ⟨p1, fun hg => VwNow.of hβ (fun b _ arr hb => ⟨arr, hb, Nat.le_refl _⟩) (p2 hg)⟩
    case mp j => subst hs; exact ⟨h.1, _, hhp, fun k es e => by cases e⟩
    case ptr j g i p =>
      subst hs
      obtain ⟨h0, o, h1, hp, h2, h3⟩ := h
      rw [ho] at h1; cases h1
      refine ⟨h0, _, hhp, hp, fun cs e => by (cases e), fun k' xs' gen' hist' frz' e => ?_⟩
      cases e
      rw [hβ]
      exact h3 _ _ _ _ _ rfl
theorem frz_ok {w0 : World} {M : MS} {c : Cx} (hm : Mem w0 M c) {hp : Nat → Option Obj} (hh : ∀ id o, hp id = some o → c.hp id = some o) : ∀ {ids : List Nat} {u : Upd}, frzU hp ids = some u →
    ∃ c1, c1.w = c.w ∧ c1.β = c.β ∧ Mem w0 M c1 ∧ Ext c c1 ∧ c1.hp = hpU u c.hp ∧ (∀ id ∈ ids, ∀ b, c.β id = some b → c1.S b)
  | [], u, h => by
    simp [frzU] at h; subst h
    exact ⟨c, rfl, rfl, hm, Ext.refl c, rfl, by simp⟩
  | i :: r, u, h => by
    simp only [frzU] at h
    split at h
    · rename_i k xs gen hist frz u' h1 h2
      simp only [Option.some.injEq] at h; subst h
      obtain ⟨c1, e1, e2, m1, x1, p1, q1⟩ := frz_ok hm hh h2
      have : ∃ frz', c1.hp i = some (.row k xs gen hist frz') := by
        rw [p1]
        unfold hpU
        split
        · rename_i o ho
          obtain ⟨k', xs', gen', hist', frz', t1, rfl⟩ := frzU_get h2 ho
          rw [h1] at t1; cases t1
          exact ⟨true, rfl⟩
        · exact ⟨frz, hh _ _ h1⟩
      obtain ⟨frz', ho⟩ := this
      have ht := frz_turn m1 ho
      refine ⟨c1.turn i c1.w (fun b => c1.S b ∨ Live c1 i b) (c1.β i) (.row k xs gen hist true), e1, ?_, ht.mem m1, x1.trans (ht.ext m1), ?_, ?_⟩
      · funext j; simp only [Cx.turn]; by_cases hj : j = i
        · subst hj; simp [e2]
        · simp [hj, e2]
      · rw [hpU_cons, ← p1]; rfl
      · intro id hid b hb
        rcases List.mem_cons.1 hid with rfl | hid
        · cases frz' with
          | false => exact .inr ⟨by rw [e2]; exact hb, _, ho, rfl⟩
          | true =>
            have := m1.obj id _ ho
            unfold RepO at this
            simp only [e2, hb] at this
            exact .inl (this.2.2 trivial)
        · exact .inl (q1 id hid b hb)
    · cases h
section
variable {P : Program} {A : Ann} {fid : Nat} {w0 : World} {M : MS} {c : Cx} {ρ : Operand → AV} {r : Operand → Value} {hp : Nat → Option Obj} {o : Oper} {v : AV} {u : Upd}
theorem core_move (hm : Mem w0 M c) (hf : ∀ d, o.dst = some d → hp d = none → c.hp d = none) (hr : ∀ x, RepV c (ρ x) (r x)) {x : Operand} (ho : o.op = .move x ∨ o.op = .assign x) (h : core P A fid ρ hp o = .ok true v u) :
    StepOk w0 M c ((execOp r o).run P c.w) v u := by
  have hx := hr x
  have e1 : (execOp r o).run P c.w = .ok (.value (r x)) c.w := by rcases ho with ho | ho <;> simp only [execOp, ho] <;> rfl
  have h' : (match ρ x with
    | .val false [.nilS] => bif (match o.dst with | some d => (A.nils fid).contains d | none => false) then
        (match elemT P o.type with
        | some e => (match kd P e with | some k => Out.ok true (.val false [.sl k []]) [] | none => .bad)
        | none => .bad) else bif (match o.dst with | some d => (A.prom fid).contains d | none => false) then
        (match fresh hp o.dst, elemT P o.type with
        | some d, some e => (match kd P e with | some k => Out.ok true (.val false [.vw d 0]) [(d, .row k [] 0 [] false)] | none => .bad)
        | _, _ => .bad) else .ok true (.val false [.nilS]) []
    | v => .ok true v []) = .ok true v u := by rcases ho with ho | ho <;> (simp only [core, ho] at h; exact h)
  split at h'
  · rename_i ex
    rw [ex] at hx
    have hn : r x = .slice none 0 0 := repV_inv hx
    cases hnb : (match o.dst with | some d => (A.nils fid).contains d | none => false) with
    | true =>
      rw [hnb] at h'
      simp only [cond_true] at h'
      split at h'
      · split at h'
        · rename_i k hk
          simp only [Out.ok.injEq, true_and] at h'
          obtain ⟨rfl, rfl⟩ := h'
          exact .quiet hm e1 ⟨_, rfl, by rw [hn]; exact repT_nil _ _ _ _⟩
        · cases h'
      · cases h'
    | false =>
    rw [hnb] at h'
    simp only [cond_false] at h'
    cases hb : (match o.dst with | some d => (A.prom fid).contains d | none => false) with
    | false =>
      rw [hb] at h'
      simp only [cond_false, Out.ok.injEq, true_and] at h'
      obtain ⟨rfl, rfl⟩ := h'
      exact .quiet hm e1 hx
    | true =>
      rw [hb] at h'
      simp only [cond_true] at h'
      split at h'
      · rename_i d e hfr _
        split at h'
        · rename_i k hk
          simp only [Out.ok.injEq, true_and] at h'
          obtain ⟨rfl, rfl⟩ := h'
          obtain ⟨hd, hd2⟩ := fresh_some hfr
          rw [hn] at e1
          exact new_nil hm (hf d hd hd2) k e1
        · cases h'
      · cases h'
  · simp only [Out.ok.injEq, true_and] at h'
    obtain ⟨rfl, rfl⟩ := h'
    exact .quiet hm e1 hx
theorem core_alloc (hm : Mem w0 M c) (hf : ∀ d, o.dst = some d → hp d = none → c.hp d = none) {e : TypeId} (ho : o.op = .alloc e) (h : core P A fid ρ hp o = .ok true v u) :
    StepOk w0 M c ((execOp r o).run P c.w) v u := by
  simp only [core, ho] at h
  simp only [execOp, ho]
  split at h
  · rename_i z d hz hfr
    simp only [Out.ok.injEq, true_and] at h
    obtain ⟨rfl, rfl⟩ := h
    obtain ⟨hd, hd2⟩ := fresh_some hfr
    obtain ⟨zv, h1, h2, h3⟩ := run_zeroValue hz c.w
    refine new_box hm (hf d hd hd2) e (vs := zv.cells) (by rw [h2]; exact rep_ofVs c z h3) (run_val ?_)
    unfold Instr.alloc
    rw [run_ok h1]
    simp only []
    rw [run_ok (run_newVar e zv)]; rfl
  · cases h
theorem core_box (hm : Mem w0 M c) (hf : ∀ d, o.dst = some d → hp d = none → c.hp d = none) (hr : ∀ x, RepV c (ρ x) (r x)) {e : TypeId} {x : Operand} (ho : o.op = .box e x) (h : core P A fid ρ hp o = .ok true v u) :
    StepOk w0 M c ((execOp r o).run P c.w) v u := by
  simp only [core, ho] at h
  simp only [execOp, ho]
  have hx := hr x
  split at h
  · rename_i g cs d ex hfr
    simp only [Out.ok.injEq, true_and] at h
    obtain ⟨rfl, rfl⟩ := h
    obtain ⟨hd, hd2⟩ := fresh_some hfr
    rw [ex] at hx
    refine new_box hm (hf d hd hd2) e (vs := (r x).cells) (repV_cells hx) (run_val ?_)
    unfold Instr.box
    rw [run_ok (run_newVar e (r x))]; rfl
  · cases h
end
end Go.Eng
