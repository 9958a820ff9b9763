/- Append, on a row of one's own. -/
import Derived.Test.YtfkiapjkeopgfaaE16
set_option linter.all false
set_option linter.unusedVariables false
set_option linter.unusedSimpArgs false
set_option linter.deprecated false
namespace Go.Eng
open Go.RowKit
section
variable {P : Program} {w0 : World} {M : MS} {c : Cx}
theorem run_append_fit {w w' : World} {ats : Array TypeId} {ty t t2 e : TypeId} {args : Array Value} {base : Option Addr} {n cap sz m : Nat} {x : Value} {cl : List Value} (h0 : ats[0]? = some t) (h1 : ats[1]? = some t2) (hu : P.underlying t = some (.slice e)) (hu2 : (∃ q, P.underlying t2 = some (.slice q)) ∨ P.underlying t2 = some .string)
    (a0 : args[0]? = some (.slice base n cap)) (a1 : args[1]? = some x) (hs : sizeT P e = some sz) (hl : (Builtin.lenOf x).run P w = .ok m w) (hle : n + m ≤ cap) (hc : (Builtin.firstCells sz m x).run P w = .ok cl.toArray w)
    (hst : (base = none ∧ w' = w) ∨ ∃ a, base = some a ∧ (storeCells (a.add (n * sz)) cl).run P w = .ok () w') :
    (Builtin.append_ ats ty args).run P w = .ok (.slice base (n + m) cap) w' := by
  unfold Builtin.append_
  simp only [h0, a0, a1]
  rw [run_ok (run_underlying hu w)]
  simp only []
  rw [run_ok (run_sizeOf hs w)]
  simp only [h1]
  have key : ∀ td, P.underlying t2 = some td → (∃ q, td = .slice q) ∨ td = .string → True := fun _ _ _ => trivial
  rcases hu2 with ⟨q, hq⟩ | hq
  all_goals
    rw [run_ok (run_underlying hq w), run_pb]
    simp only [Bool.false_eq_true, if_false]
    rw [run_ok hl, if_pos hle]
    simp only [Bool.not_false, if_true]
    rw [run_ok hc]
    rcases hst with ⟨rfl, rfl⟩ | ⟨a, rfl, hst⟩
    · rfl
    · simp only []
      rw [run_ok hst]; rfl
theorem run_append_grow {w : World} {ats : Array TypeId} {ty t t2 e : TypeId} {args : Array Value} {base : Option Addr} {n cap m : Nat} {k : K} {x : Value} {oc cl : List Value} (h0 : ats[0]? = some t) (h1 : ats[1]? = some t2) (hu : P.underlying t = some (.slice e)) (hu2 : (∃ q, P.underlying t2 = some (.slice q)) ∨ P.underlying t2 = some .string)
    (a0 : args[0]? = some (.slice base n cap)) (a1 : args[1]? = some x) (hk : elemOk P e k = true) (hl : (Builtin.lenOf x).run P w = .ok m w) (hle : ¬ n + m ≤ cap) (hlim : (n + m) * bytesT P e ≤ lim)
    (hoc : (Builtin.firstCells k.size n (.slice base n cap)).run P (drewW w) = .ok oc.toArray (drewW w)) (hol : oc.length = n * k.size)
    (hc : (Builtin.firstCells k.size m x).run P (drewW w) = .ok cl.toArray (drewW w)) (hcl : cl.length = m * k.size) :
    ∃ cap' arr, n + m ≤ cap' ∧ arr.size = cap' * k.size ∧ (∃ rest, arr.toList = oc ++ cl ++ rest) ∧
      (Builtin.append_ ats ty args).run P w = .ok (.slice (some ⟨w.heap.size, 0, none⟩) (n + m) cap') (pushW (drewW w) (.cells arr e (0, 0))) := by
  obtain ⟨i, z, hi, hs, hz, hzl, hbt, hb1, hb2⟩ := elemOk_some hk
  obtain ⟨cap', hcap, hch⟩ := run_choose (P := P) (w := w) (need := n + m) (old := cap) (e := e)
  obtain ⟨zv, z1, z2, z3⟩ := run_zeroValue hz (drewW w)
  have hzs : zv.cells.size = k.size := by rw [← hzl, ← z2]; simp
  let arr : Array Value := oc.toArray ++ cl.toArray ++ Builtin.zeroCells zv.cells (cap' - (n + m))
  have harr : arr.size = cap' * k.size := by
    simp only [arr, Array.size_append, List.size_toArray, Builtin.zeroCells, Array.size_map, Array.size_range, hzs, hol, hcl]
    rw [← Nat.add_mul, ← Nat.add_mul]; congr 1; omega
  refine ⟨cap', arr, hcap, harr, ⟨(Builtin.zeroCells zv.cells (cap' - (n + m))).toList, by simp [arr]⟩, ?_⟩
  have hbl : ¬ Builtin.nextslicecap (n + m) cap * i.bytes > 2 ^ 48 := nextcap_bytes (by omega) (by rw [← hbt]; exact hlim) hb1
  have hmx : ¬ (((n + m : Nat) : Int) > IntKind.i64.max ∧ (False ∨ i.bytes = 0)) := by rintro ⟨_, q | q⟩ <;> omega
  unfold Builtin.append_
  simp only [h0, a0, a1]
  rw [run_ok (run_underlying hu w)]
  simp only []
  rw [run_ok (run_sizeOf hs w)]
  simp only [h1]
  rcases hu2 with ⟨q, hq⟩ | hq
  all_goals
    rw [run_ok (run_underlying hq w), run_pb]
    simp only [Bool.false_eq_true, if_false]
    rw [run_ok hl, if_neg hle]
    rw [run_ok (run_typeInfo hi w)]
    rw [if_neg hmx]
    rw [run_ok (run_typeInfo hi w)]
    rw [if_neg hbl]
    rw [run_ok hch, run_ok (run_typeInfo hi (drewW w)), run_ok (run_askRoom _), run_ok hoc]
    simp only [Bool.not_false, if_true]
    rw [run_ok hc, run_ok z1, run_ok (run_newRow e arr)]; rfl
/-- A nil slice that something is appended to. -/
theorem append_nil (hm : Mem w0 M c) {hp : Nat → Option Obj} (hh : ∀ id o, hp id = some o → c.hp id = some o) {d : Nat} (hd : c.hp d = none) {ats : Array TypeId} {ty t t2 e : TypeId} {args : Array Value} {k : K} {s : S} {x : Value} {ys : List k.T}
    (h0 : ats[0]? = some t) (h1 : ats[1]? = some t2) (hu : P.underlying t = some (.slice e)) (hu2 : (∃ q, P.underlying t2 = some (.slice q)) ∨ P.underlying t2 = some .string)
    (a0 : args[0]? = some (.slice none 0 0)) (a1 : args[1]? = some x) (hk : elemOk P e k = true) (hr : RepS c s x) (hy : moreOf hp k s = some ys) (hlim : ys.length * bytesT P e ≤ lim) :
    StepOk w0 M c ((do pure (Next.value (← Builtin.append_ ats ty args)) : Sem Next).run P c.w) (.val false [.vw d 0]) [(d, .row k ys 0 [] false)] := by
  obtain ⟨hl, cl, hcl, hf⟩ := moreOf_more (P := P) hm hh hr hy
  obtain ⟨i, z, hi, hs, _⟩ := elemOk_some hk
  by_cases h : ys.length = 0
  · have : ys = [] := List.length_eq_zero_iff.1 h
    subst this
    refine new_nil hm hd k (run_val ?_)
    have := run_append_fit (P := P) (w' := c.w) (ty := ty) h0 h1 hu hu2 a0 a1 hs hl (by simp) (hf c.w (Grew.refl _)) (.inl ⟨rfl, rfl⟩)
    simpa using this
  · obtain ⟨cap', arr, q1, q2, ⟨rest, q3⟩, q4⟩ := run_append_grow (P := P) (ty := ty) (k := k) (oc := []) h0 h1 hu hu2 a0 a1 hk hl (by omega) (by rw [Nat.zero_add]; exact hlim) rfl (by simp) (hf _ (grew_drew _)) (by rw [hcl.1])
    simp only [Nat.zero_add] at q1 q4
    refine new_row hm hd hcl ((grew_drew c.w).trans (grew_push _ _)) (b := (drewW c.w).heap.size) (Nat.le_refl _) (blkFree_push _ arr e) (fun j v hv => ?_) q1 (by rw [q2]; exact Nat.le_refl _) (run_val q4)
    rw [← Array.getElem?_toList, q3]
    obtain ⟨hj, _⟩ := List.getElem?_eq_some_iff.1 hv
    rw [List.nil_append, List.getElem?_append_left hj]; exact hv
theorem upd_same {α : Type} (f : Nat → Option α) (i : Nat) (a : α) : upd f i a i = some a := by simp [upd]
/-- The row of one's own grows. -/
theorem append_own (hm : Mem w0 M c) {hp : Nat → Option Obj} (hh : ∀ id o, hp id = some o → c.hp id = some o) {id : Nat} {ats : Array TypeId} {ty t t2 e : TypeId} {args : Array Value} {k : K} {s : S} {v0 x : Value} {xs ys : List k.T} {gen : Nat} {hist : List (List k.T)}
    (h0 : ats[0]? = some t) (h1 : ats[1]? = some t2) (hu : P.underlying t = some (.slice e)) (hu2 : (∃ q, P.underlying t2 = some (.slice q)) ∨ P.underlying t2 = some .string)
    (a0 : args[0]? = some v0) (a1 : args[1]? = some x) (hk : elemOk P e k = true) (ho : c.hp id = some (.row k xs gen hist false)) (hv : RepS c (.vw id gen) v0) (hr : RepS c s x) (hy : moreOf hp k s = some ys) (hlim : (xs.length + ys.length) * bytesT P e ≤ lim) :
    StepOk w0 M c ((do pure (Next.value (← Builtin.append_ ats ty args)) : Sem Next).run P c.w) (.val false [.vw id (gen + 1)]) [(id, .row k (xs ++ ys) (gen + 1) (xs :: hist) false)] := by
  obtain ⟨hl, cl, hcl, hf⟩ := moreOf_more (P := P) hm hh hr hy
  obtain ⟨i, z, hi, hs, _⟩ := elemOk_some hk
  obtain ⟨_, o, e1, hvv⟩ := hv
  rw [ho] at e1; cases e1
  obtain ⟨_, hnow, _⟩ := hvv _ _ _ _ _ rfl
  have hnow := hnow rfl
  have hvis0 := vis_now hm ho hnow
  rw [List.drop_zero, List.take_length] at hvis0
  obtain ⟨_, oc, hoc, hof⟩ := vis_more (P := P) hvis0
  have hro := hm.obj id _ ho
  have hlive : ∀ b, c.β id = some b → Live c id b := fun b hb => ⟨hb, _, ho, rfl⟩
  -- what other values say behind it
  have idsOk : ∀ (w' : World) (S' : Nat → Prop) (β' : Option Nat), (∀ b, c.S b → w'.heap[b]? = c.w.heap[b]?) → (∀ b, c.S b → S' b) →
      (∀ v, VwNow c id k 0 xs.length xs.length v → VwOld (c.turn id w' S' β' (.row k (xs ++ ys) (gen + 1) (xs :: hist) false)) id (xs ++ ys).length k xs v) →
      (∀ zs v, VwOld c id xs.length k zs v → VwOld (c.turn id w' S' β' (.row k (xs ++ ys) (gen + 1) (xs :: hist) false)) id (xs ++ ys).length k zs v) →
      ∀ s v, s.ids = [id] → RepS c s v → RepS (c.turn id w' S' β' (.row k (xs ++ ys) (gen + 1) (xs :: hist) false)) s v := by
    intro w' S' β' hst hsub hA hB s v hsi hrs
    have hhp : (c.turn id w' S' β' (.row k (xs ++ ys) (gen + 1) (xs :: hist) false)).hp id = some (.row k (xs ++ ys) (gen + 1) (xs :: hist) false) := by simp [Cx.turn, upd]
    cases s <;> simp only [S.ids, List.cons.injEq, and_true, reduceCtorEq] at hsi
    case vw j g =>
      subst hsi
      obtain ⟨t0, o, t1, t2⟩ := hrs
      rw [ho] at t1; cases t1
      obtain ⟨p1, p2, p3⟩ := t2 _ _ _ _ _ rfl
      refine ⟨t0, _, hhp, fun k' xs' gen' hist' frz' e' => ?_⟩
      cases e'
      refine ⟨by omega, fun hg => by omega, fun _ zs hz => ?_⟩
      by_cases hg : g = gen
      · subst hg
        rw [show g + 1 - 1 - g = 0 by omega] at hz
        simp at hz; subst hz
        exact hA v (p2 rfl)
      · obtain ⟨m, hm'⟩ : ∃ m, gen + 1 - 1 - g = m + 1 := ⟨gen - 1 - g, by omega⟩
        rw [hm'] at hz
        simp only [List.getElem?_cons_succ] at hz
        exact hB zs v (p3 hg zs (by rw [show gen - 1 - g = m by omega]; exact hz))
    case pv j g off len =>
      subst hsi
      obtain ⟨t0, o, t1, t2⟩ := hrs
      rw [ho] at t1; cases t1
      refine ⟨t0, _, hhp, fun k' xs' gen' hist' frz' e' => ?_⟩
      cases e'
      have := (t2 _ _ _ _ _ rfl).1
      exact ⟨by omega, fun hg => by omega⟩
    case mp j => subst hsi; exact ⟨hrs.1, _, hhp, fun k es e => by cases e⟩
    case ptr j g q p =>
      subst hsi
      obtain ⟨t0, o, t1, tp, t2, t3⟩ := hrs
      rw [ho] at t1; cases t1
      refine ⟨t0, _, hhp, tp, fun cs e' => by (cases e'), fun k' xs' gen' hist' frz' e' => ?_⟩
      cases e'
      have := (t3 _ _ _ _ _ rfl).1
      exact ⟨by omega, fun hg => by omega⟩
  -- the slice value itself
  have hv0 : ∃ base cap, v0 = .slice base xs.length cap ∧ xs.length ≤ cap := by
    obtain ⟨a, cap, q1, q2, _⟩ := hvis0; exact ⟨a, cap, q1, q2⟩
  obtain ⟨base, cap, rfl, hcap⟩ := hv0
  by_cases hle : xs.length + ys.length ≤ cap
  · -- it fits
    simp only [VwNow] at hnow
    cases hbb : c.β id with
    | none =>
      rw [hbb] at hnow
      simp only [RepO, hbb] at hro
      subst hro
      obtain ⟨q1, _⟩ := hnow
      cases q1
      have hy0 : ys = [] := List.length_eq_zero_iff.1 (by simpa using hle)
      subst hy0
      have hrun := run_append_fit (P := P) (w' := c.w) (ty := ty) h0 h1 hu hu2 a0 a1 hs hl hle (hf c.w (Grew.refl _)) (.inl ⟨rfl, rfl⟩)
      have ht : Turn w0 M c id c.w c.S none (.row k ([] ++ []) (gen + 1) ([] :: hist) false) := by
        refine ⟨rfl, rfl, rfl, Nat.le_refl _, fun _ _ _ => rfl, fun _ h => h, fun b hb => ⟨hm.below b hb, .inl hb⟩, ⟨_, ho⟩, by simp [RepO, Cx.turn], fun b hb => by (cases hb), ?_⟩
        refine idsOk c.w c.S none (fun _ _ => rfl) (fun _ h => h) (fun v hvn => ?_) (fun zs v hvo => ?_)
        · simp only [VwNow, hbb] at hvn
          exact ⟨none, 0, by simpa using hvn.1, by simp, fun h => (h rfl).elim⟩
        · obtain ⟨a, cap, q1, q2, q3⟩ := hvo
          refine ⟨a, cap, q1, q2, fun hne => ?_⟩
          obtain ⟨ad, r1, r2, r3, r4⟩ := q3 hne
          refine ⟨ad, r1, r2, ?_, r4⟩
          rcases r3 with r3 | r3
          · exact .inl r3
          · rw [hbb] at r3; cases r3.1
      refine ⟨_, c.turn id c.w c.S none (.row k ([] ++ []) (gen + 1) ([] :: hist) false), run_val hrun, ht.mem hm, ht.ext hm, by rw [hpU_cons, hpU_nil]; rfl, .inl ⟨_, rfl, repV_one ?_⟩⟩
      refine ⟨rfl, _, by simp [Cx.turn, upd]; rfl, fun k' xs' gen' hist' frz' e' => ?_⟩
      cases e'
      exact ⟨Nat.le_refl _, fun _ => by simp [VwNow, Cx.turn], fun h => (h rfl).elim⟩
    | some b =>
      rw [hbb] at hnow
      obtain ⟨cap', arr, a, q1, q2, q3, q4, q5⟩ := hnow
      cases q1
      simp only [RepO, hbb] at hro
      obtain ⟨⟨arr1, p1, p2, p3⟩, p4, p5⟩ := hro
      have earr := q3.uniq p1
      subst earr
      obtain ⟨arr2, p6⟩ := p4 trivial
      have earr := q3.uniq p6.blk
      subst earr
      obtain ⟨T, fz, hb1, hb2⟩ := p6
      -- the store
      have hstore : ∃ w', (storeCells (a.add (xs.length * k.size)) cl).run P c.w = .ok () w' ∧ w'.os = c.w.os ∧ w'.tape = c.w.tape ∧ w'.output = c.w.output ∧ w'.heap.size = c.w.heap.size ∧ w'.heap[b]? = some (.cells (arrOver arr (xs.length * k.size) cl) T fz) ∧ (∀ j, j ≠ b → w'.heap[j]? = c.w.heap[j]?) ∧ xs.length * k.size + cl.length ≤ arr.size := by
        by_cases hy0 : cl = []
        · subst hy0
          exact ⟨c.w, rfl, rfl, rfl, rfl, rfl, by simpa [arrOver] using hb1, fun _ _ => rfl, by simpa using p2⟩
        · have hc0 : 0 < cap := by
            have : ys.length ≠ 0 := by
              intro h
              have := hcl.1
              rw [h] at this
              simp at this
              exact hy0 this
            omega
          obtain ⟨rfl, hsz⟩ := q5 hc0
          have hroom : xs.length * k.size + cl.length ≤ arr.size := by
            rw [hcl.1, ← Nat.add_mul]
            refine Nat.le_trans (Nat.mul_le_mul_right _ hle) (by simpa using hsz)
          obtain ⟨w', s1, s2⟩ := run_storeCells (P := P) (b := b) (o := 0 + xs.length * k.size) cl 0 c.w arr hcl.2.1 hb1 (by omega) (fun j j1 j2 => hb2.1 j (by omega))
          refine ⟨w', by rw [show (⟨b, 0 * k.size, none⟩ : Addr).add (xs.length * k.size) = ⟨b, 0 + xs.length * k.size, none⟩ by rw [add_mk]; simp]; exact s1, s2.os, s2.tape, s2.output, s2.size, by simpa using s2.here, s2.other, hroom⟩
      obtain ⟨w', s1, s2, s3, s4, s5, s6, s7, s8⟩ := hstore
      have hrun := run_append_fit (P := P) (w' := w') (ty := ty) h0 h1 hu hu2 a0 a1 hs hl hle (hf c.w (Grew.refl _)) (.inr ⟨a, rfl, s1⟩)
      have hsz2 : (arrOver arr (xs.length * k.size) cl).size = arr.size := arrOver_size _ _ _
      have hget := fun j => arrOver_get cl arr (xs.length * k.size) j s8
      have hstab : ∀ b', c.S b' → w'.heap[b']? = c.w.heap[b']? := fun b' hb' => s7 b' (by rintro rfl; exact (hm.live id b' (hlive b' hbb)).2.1 hb')
      have hel : ∀ (i : Nat) (x : k.T), (xs ++ ys)[i]? = some x → ∃ vs, RepT c.te w' c.S k x vs ∧ ∀ (j : Nat) v, vs[j]? = some v → (arrOver arr (xs.length * k.size) cl)[i * k.size + j]? = some v := by
        intro i x hx
        by_cases hi : i < xs.length
        · rw [List.getElem?_append_left hi] at hx
          obtain ⟨vs, t1, t2⟩ := p3 i x hx
          refine ⟨vs, RepT.mono hstab (fun _ h => h) t1, fun j v hv => ?_⟩
          have hj : j < k.size := by rw [← RepT.len t1]; obtain ⟨q, _⟩ := List.getElem?_eq_some_iff.1 hv; exact q
          rw [hget, if_neg]
          · exact t2 j v hv
          · have : (i + 1) * k.size ≤ xs.length * k.size := Nat.mul_le_mul_right _ hi
            rw [Nat.add_mul] at this; omega
        · rw [List.getElem?_append_right (by omega)] at hx
          obtain ⟨vs, t1, t2⟩ := hcl.2.2 _ x hx
          refine ⟨vs, RepT.mono hstab (fun _ h => h) t1, fun j v hv => ?_⟩
          have h3 := t2 j v hv
          obtain ⟨hq, _⟩ := List.getElem?_eq_some_iff.1 h3
          have e : i * k.size = (i - xs.length) * k.size + xs.length * k.size := by rw [← Nat.add_mul]; congr 1; omega
          rw [hget, if_pos (by omega), show i * k.size + j - xs.length * k.size = (i - xs.length) * k.size + j by omega]
          exact h3
      have ht : Turn w0 M c id w' c.S (some b) (.row k (xs ++ ys) (gen + 1) (xs :: hist) false) := by
        refine ⟨s2, s3, s4, by omega, fun j hj hnl => s7 j (by rintro rfl; exact hnl (hlive j hbb)), fun _ h => h, fun b' hb' => ⟨by rw [s5]; exact hm.below b' hb', .inl hb'⟩, ⟨_, ho⟩, ?_, fun b' hb' _ => ?_, ?_⟩
        · have hβ : (c.turn id w' c.S (some b) (.row k (xs ++ ys) (gen + 1) (xs :: hist) false)).β id = some b := by simp [Cx.turn]
          unfold RepO
          simp only [hβ]
          refine ⟨⟨_, ⟨T, fz, s6⟩, ?_, hel⟩, fun _ => ⟨_, T, fz, s6, by rw [hsz2]; exact hb2⟩, fun h => by (cases h)⟩
          rw [hsz2, List.length_append, Nat.add_mul, ← hcl.1]; exact s8
        · cases hb'
          exact ⟨by rw [s5]; exact (hm.live id b (hlive b hbb)).1, (hm.live id b (hlive b hbb)).2.1, .inl (hlive b hbb)⟩
        · refine idsOk w' c.S (some b) hstab (fun _ h => h) (fun v hvn => ?_) (fun zs v hvo => ?_)
          · simp only [VwNow, hbb] at hvn
            obtain ⟨cp, ar, ad, y1, y2, y3, y4, y5⟩ := hvn
            refine ⟨some ad, cp, y1, y2, fun hne => ?_⟩
            have hpos : 0 < xs.length := List.length_pos_iff.2 hne
            obtain ⟨rfl, _⟩ := y5 (by omega)
            refine ⟨_, rfl, rfl, .inr ⟨by simp [Cx.turn], by simp [Nat.add_mul]⟩, fun i x hx => ?_⟩
            obtain ⟨hi, _⟩ := List.getElem?_eq_some_iff.1 hx
            obtain ⟨vs, t1, t2⟩ := hel i x (by rw [List.getElem?_append_left hi]; exact hx)
            refine ⟨vs, t1, ?_⟩
            exact at_of_arr ⟨T, fz, s6⟩ (fun j v hv => by simpa using t2 j v hv)
          · obtain ⟨ad0, cp, y1, y2, y3⟩ := hvo
            refine ⟨ad0, cp, y1, y2, fun hne => ?_⟩
            obtain ⟨ad, r1, r2, r3, r4⟩ := y3 hne
            refine ⟨ad, r1, r2, ?_, fun i x hx => ?_⟩
            · rcases r3 with r3 | r3
              · exact .inl r3
              · exact .inr ⟨by have := r3.1; rw [hbb] at this; simpa [Cx.turn] using this, Nat.le_trans r3.2 (Nat.mul_le_mul_right _ (by simp))⟩
            · obtain ⟨vs, t1, t2⟩ := r4 i x hx
              refine ⟨vs, RepT.mono hstab (fun _ h => h) t1, ?_⟩
              rcases r3 with r3 | ⟨r3, r5⟩
              · exact t2.of (hstab _ r3)
              · rw [hbb] at r3; cases r3
                refine at_of_arr ⟨T, fz, s6⟩ (fun j v hv => ?_)
                have h3 := arr_of_at p1 t2 j v hv
                obtain ⟨hi, _⟩ := List.getElem?_eq_some_iff.1 hx
                have hj : j < k.size := by rw [← RepT.len t1]; obtain ⟨q, _⟩ := List.getElem?_eq_some_iff.1 hv; exact q
                rw [hget, if_neg]
                · exact h3
                · have : (i + 1) * k.size ≤ zs.length * k.size := Nat.mul_le_mul_right _ hi
                  rw [Nat.add_mul] at this; omega
      refine ⟨_, c.turn id w' c.S (some b) (.row k (xs ++ ys) (gen + 1) (xs :: hist) false), run_val hrun, ht.mem hm, ht.ext hm, by rw [hpU_cons, hpU_nil]; rfl, .inl ⟨_, rfl, repV_one ?_⟩⟩
      refine ⟨rfl, _, by simp [Cx.turn, upd]; rfl, fun k' xs' gen' hist' frz' e' => ?_⟩
      cases e'
      refine ⟨Nat.le_refl _, fun _ => ?_, fun h => (h rfl).elim⟩
      have hβ : (c.turn id w' c.S (some b) (.row k (xs ++ ys) (gen + 1) (xs :: hist) false)).β id = some b := by simp [Cx.turn]
      simp only [VwNow, hβ]
      exact ⟨cap, _, a, by simp, by simpa using hle, ⟨T, fz, s6⟩, by simp, fun hc0 => ⟨(q5 hc0).1, by rw [hsz2]; exact (q5 hc0).2⟩⟩
  · -- it does not
    obtain ⟨cap', arr, q1, q2, ⟨rest, q3⟩, q4⟩ := run_append_grow (P := P) (ty := ty) (k := k) h0 h1 hu hu2 a0 a1 hk hl hle hlim (hof _ (grew_drew _)) hoc.1 (hf _ (grew_drew _)) hcl.1
    let w' := pushW (drewW c.w) (.cells arr e (0, 0))
    have hg : Grew c.w w' := (grew_drew c.w).trans (grew_push _ _)
    have hbf : BlkFree w' c.w.heap.size arr := blkFree_push (drewW c.w) arr e
    have hsize : w'.heap.size = c.w.heap.size + 1 := by simp [w', pushW, drewW]
    have hall := hoc.append hcl
    have hel : ∀ (i : Nat) (x : k.T), (xs ++ ys)[i]? = some x → ∃ vs, RepT c.te c.w c.S k x vs ∧ ∀ (j : Nat) v, vs[j]? = some v → arr[i * k.size + j]? = some v := by
      intro i x hx
      obtain ⟨vs, t1, t2⟩ := hall.2.2 i x hx
      refine ⟨vs, t1, fun j v hv => ?_⟩
      have := t2 j v hv
      obtain ⟨hq, _⟩ := List.getElem?_eq_some_iff.1 this
      rw [← Array.getElem?_toList, q3, List.getElem?_append_left hq]; exact this
    have hstab : ∀ b', c.S b' → w'.heap[b']? = c.w.heap[b']? := fun b' hb' => hg.2.2.2.2 b' (hm.below b' hb')
    have ht : Turn w0 M c id w' (fun b => c.S b ∨ Live c id b) (some c.w.heap.size) (.row k (xs ++ ys) (gen + 1) (xs :: hist) false) := by
      refine ⟨hg.1, hg.2.1, hg.2.2.1, by omega, fun j hj _ => hg.2.2.2.2 j hj, fun _ h => .inl h, fun b' hb' => ?_, ⟨_, ho⟩, ?_, fun b' hb' _ => ?_, ?_⟩
      · rcases hb' with hb' | hb'
        · exact ⟨Nat.lt_of_lt_of_le (hm.below b' hb') (by omega), .inl hb'⟩
        · exact ⟨Nat.lt_of_lt_of_le (hm.live id b' hb').1 (by omega), .inr hb'⟩
      · have hβ : (c.turn id w' (fun b => c.S b ∨ Live c id b) (some c.w.heap.size) (.row k (xs ++ ys) (gen + 1) (xs :: hist) false)).β id = some c.w.heap.size := by simp [Cx.turn]
        unfold RepO
        simp only [hβ]
        refine ⟨⟨arr, hbf.blk, ?_, fun i x hx => ?_⟩, fun _ => ⟨arr, hbf⟩, fun h => by (cases h)⟩
        · rw [q2, List.length_append]; exact Nat.mul_le_mul_right _ q1
        · obtain ⟨vs, t1, t2⟩ := hel i x hx
          exact ⟨vs, RepT.mono hstab (fun _ h => .inl h) t1, t2⟩
      · cases hb'
        refine ⟨by omega, ?_, .inr (Nat.le_refl _)⟩
        rintro (hb | hb)
        · exact Nat.lt_irrefl _ (hm.below _ hb)
        · exact Nat.lt_irrefl _ (hm.live id _ hb).1
      · have at_grew : ∀ {b o vs}, At c.w b o vs → At w' b o vs := fun h => h.grew hg
        refine idsOk w' _ _ hstab (fun _ h => .inl h) (fun v hvn => ?_) (fun zs v hvo => ?_)
        · obtain ⟨a, cp, y1, y2, y3⟩ := vis_now hm ho hvn
          simp only [List.drop_zero, List.take_length] at y1 y2 y3
          refine ⟨a, cp, y1, y2, fun hne => ?_⟩
          obtain ⟨ad, r1, r2, r3, r4⟩ := y3 hne
          refine ⟨ad, r1, r2, .inl ?_, fun i x hx => ?_⟩
          · rcases r3 with r3 | ⟨j, hj, r3⟩
            · exact .inl r3
            · simp at hj; subst hj; exact .inr (hlive _ r3)
          · obtain ⟨vs, t1, t2⟩ := r4 i x hx
            exact ⟨vs, RepT.mono hstab (fun _ h => .inl h) t1, at_grew t2⟩
        · obtain ⟨a, cp, y1, y2, y3⟩ := hvo
          refine ⟨a, cp, y1, y2, fun hne => ?_⟩
          obtain ⟨ad, r1, r2, r3, r4⟩ := y3 hne
          refine ⟨ad, r1, r2, .inl ?_, fun i x hx => ?_⟩
          · rcases r3 with r3 | r3
            · exact .inl r3
            · exact .inr (hlive _ r3.1)
          · obtain ⟨vs, t1, t2⟩ := r4 i x hx
            exact ⟨vs, RepT.mono hstab (fun _ h => .inl h) t1, at_grew t2⟩
    refine ⟨_, c.turn id w' (fun b => c.S b ∨ Live c id b) (some c.w.heap.size) (.row k (xs ++ ys) (gen + 1) (xs :: hist) false), run_val q4, ht.mem hm, ht.ext hm, by rw [hpU_cons, hpU_nil]; rfl, .inl ⟨_, rfl, repV_one ?_⟩⟩
    refine ⟨rfl, _, by simp [Cx.turn, upd]; rfl, fun k' xs' gen' hist' frz' e' => ?_⟩
    cases e'
    refine ⟨Nat.le_refl _, fun _ => ?_, fun h => (h rfl).elim⟩
    have hβ : (c.turn id w' (fun b => c.S b ∨ Live c id b) (some c.w.heap.size) (.row k (xs ++ ys) (gen + 1) (xs :: hist) false)).β id = some c.w.heap.size := by simp [Cx.turn]
    simp only [VwNow, hβ]
    exact ⟨cap', arr, ⟨c.w.heap.size, 0, none⟩, by rw [List.length_append], by simpa using q1, hbf.blk, by simp, fun _ => ⟨by simp, by rw [q2]; simp⟩⟩
end
end Go.Eng
