/- One operation that is no call. -/
import Derived.Test.YtfkiapjkeopgfaaE18
import Derived.MapKept
set_option linter.all false
set_option linter.unusedVariables false
set_option linter.unusedSimpArgs false
set_option linter.deprecated false
namespace Go.Eng
open Go.RowKit
theorem callOut_ne_ok {P : Program} {hp : Nat → Option Obj} {dst : Option Nat} {ty : TypeId} {own mvs : List Bool} {c b : Bool} {f : Nat} {ats : List TypeId} {args : List AV} {v : AV} {u : Upd} : callOut P hp dst ty own mvs c f ats args ≠ .ok b v u := by
  unfold callOut
  split
  · dsimp only
    cases (ownOk own _ && Nat.ble (anyOwn own) 1 && (Nat.beq (anyOwn own) 0 || (fresh hp dst).isSome) && exOk _ && _ && _) with
    | false => simp
    | true =>
      simp only [cond_true]
      split <;> simp
  · simp
section
variable {P : Program} {A : Ann} {fid : Nat} {w0 : World} {M : MS} {c : Cx} {ρ : Operand → AV} {r : Operand → Value} {hp : Nat → Option Obj} {o : Oper} {v : AV} {u : Upd}
theorem lr_map {α : Type} {c : Cx} {f : α → AV} {g : α → Value} (l : List α) (h : ∀ x, RepV c (f x) (g x)) : LR (RepV c) (l.map f) (l.map g) := by
  induction l with
  | nil => trivial
  | cons a r ih => exact ⟨h a, ih⟩
theorem core_builtin (hm : Mem w0 M c) (hh : ∀ id o, hp id = some o → c.hp id = some o) (hf : ∀ d, o.dst = some d → hp d = none → c.hp d = none) (hr : ∀ x, RepV c (ρ x) (r x)) {cc : Call} {b : Builtin} (ho : o.op = .call cc) (hb : cc.callee = .builtin b) (h : builtinS P hp o.dst b cc.argTypes.toList (cc.args.toList.map ρ) = .ok true v u) :
    StepOk w0 M c ((execOp r o).run P c.w) v u := by
  have hlr : LR (RepV c) (cc.args.toList.map ρ) (cc.args.map r).toList := by rw [Array.toList_map]; exact lr_map _ hr
  have e1 : (execOp r o).run P c.w = (builtin b cc.argTypes o.type (cc.args.map fun | .const _ => true | _ => false) (cc.args.map r)).run P c.w := by
    simp only [execOp, ho, resolve, hb]
    rw [run_pb]; rfl
  rw [e1]
  by_cases ha : b = .append
  · subst ha
    unfold builtinS at h
    simp only [] at h
    split at h
    · rename_i t t2 a1 a2 ht ht2 hargs
      split at h
      · rename_i s x hs hx
        have ht' : cc.argTypes[0]? = some t := by rw [← Array.getElem?_toList]; exact ht
        have ht2' : cc.argTypes[1]? = some t2 := by rw [← Array.getElem?_toList]; exact ht2
        rw [hargs] at hlr
        match hvs : (cc.args.map r).toList, hlr with
        | [v0, v1], hlr =>
          have a0 : (cc.args.map r)[0]? = some v0 := by rw [← Array.getElem?_toList, hvs]; rfl
          have a1 : (cc.args.map r)[1]? = some v1 := by rw [← Array.getElem?_toList, hvs]; rfl
          have r0 := slot1_rep hs hlr.1
          have r1 := slot1_rep hx hlr.2.1
          unfold builtin
          simp only []
          unfold appB at h
          have main : ∀ {e : TypeId}, elemT P t = some e → ((∃ q, P.underlying t2 = some (.slice q)) ∨ P.underlying t2 = some .string) → appendS P hp o.dst e s x = .ok true v u →
              StepOk w0 M c ((do pure (Next.value (← Builtin.append_ cc.argTypes o.type (cc.args.map r))) : Sem Next).run P c.w) v u := by
            intro e hel hu2 hz
            have hu := elemT_some hel
            unfold appendS at hz
            split at hz
            · split at hz
              · rename_i k d hk hfr
                obtain ⟨hd, hd2⟩ := fresh_some hfr
                cases hek : elemOk P e k with
                | false => rw [hek] at hz; cases hz
                | true =>
                  rw [hek] at hz
                  simp only [Bool.not_true, cond_false] at hz
                  split at hz
                  · rename_i ys hy
                    simp only [Out.ok.injEq, decide_eq_true_eq] at hz
                    obtain ⟨hlim, rfl, rfl⟩ := hz
                    have hn : v0 = .slice none 0 0 := r0
                    subst hn
                    exact append_nil hm hh (hf d hd hd2) ht' ht2' hu hu2 a0 a1 hek r1 hy hlim
                  · cases hz
              · cases hz
            · split at hz
              · rename_i id g x2 k xs gen hist hid
                cases hc : (Nat.beq g gen && decide (kd P e = some k) && elemOk P e k) with
                | false => rw [hc] at hz; cases hz
                | true =>
                  rw [hc] at hz
                  simp only [cond_true] at hz
                  simp only [Bool.and_eq_true] at hc
                  have hg := Nat.eq_of_beq_eq_true hc.1.1
                  subst hg
                  split at hz
                  · rename_i ys hy
                    simp only [Out.ok.injEq, decide_eq_true_eq] at hz
                    obtain ⟨hlim, rfl, rfl⟩ := hz
                    exact append_own hm hh ht' ht2' hu hu2 a0 a1 hc.2 (hh _ _ hid) r0 r1 hy hlim
                  · cases hz
              · cases hz
            · cases hz
          split at h
          · rename_i e q hel hq
            exact main hel (.inl ⟨q, hq⟩) h
          · rename_i e hel hq
            exact main hel (.inr hq) h
          · cases h
      · cases h
    · cases h
  · exact builtin_quiet hm hh ha hlr h _
/-! Maps of whole numbers to scalars. -/
theorem repE_inj {k : K} {x : k.T} {v : Value} (h : RepE k x v) : RepV c (inj k x) v := by
  cases k with
  | int k => exact ⟨_, rfl, h⟩
  | bool => exact ⟨_, rfl, h⟩
  | _ => exact h.elim
theorem repT_E {te : TypeId} {w : World} {Sb : Nat → Prop} {k : K} {x : k.T} {v : Value} (hk : scalK k = true) (h : RepT te w Sb k x [v]) : RepE k x v := by
  cases k with
  | int k => obtain ⟨h1, h2⟩ := h; cases h1; exact ⟨rfl, h2⟩
  | bool => cases h; rfl
  | _ => cases hk
theorem zeroS_run {et : TypeId} {k : K} (h : zeroS P et k = true) (w : World) : ∃ z, (zeroValue et).run P w = .ok z w ∧ RepE k k.dflt z := by
  unfold zeroS at h
  split at h
  · rename_i i hi
    split at h
    · rename_i kk k' n hz
      simp only [Bool.and_eq_true, decide_eq_true_eq] at h
      obtain ⟨rfl, rfl⟩ := h
      refine ⟨.int kk 0, ?_, ?_⟩
      · unfold zeroValue
        rw [run_ok (run_typeInfo hi w)]
        simp only [hz]; rfl
      · exact ⟨rfl, by unfold okI okB; cases kk <;> rfl⟩
    · rename_i b hz
      have hb : b = false := by cases b <;> simp_all
      subst hb
      refine ⟨.bool false, ?_, ?_⟩
      · unfold zeroValue
        rw [run_ok (run_typeInfo hi w)]
        simp only [hz]; rfl
      · rfl
    · cases h
  · cases h
theorem sameNow_int (a b : Int) : Instr.sameNow (.int .i64) (.int .i64 a) (.int .i64 b) = some (a == b) := rfl
theorem map_spec {k : K} (n : Int) (x : k.T) : ∀ (es : List (Int × k.T)) (l : List MapEntry) (i : Nat), LR (RepM k) es l →
    (Instr.findNow (.int .i64) (.int .i64 n) l i = some none ∧ mapGet k.dflt es n = k.dflt ∧ mapPut es n x = es ++ [(n, x)]) ∨
    ∃ j e, Instr.findNow (.int .i64) (.int .i64 n) l i = some (some (i + j, e.val)) ∧ l[j]? = some e ∧ e.key = .int .i64 n ∧ RepE k (mapGet k.dflt es n) e.val ∧ mapPut es n x = es.set j (n, x)
  | [], [], i, _ => .inl ⟨rfl, rfl, rfl⟩
  | e :: es, m :: l, i, h => by
    obtain ⟨⟨hk, hv⟩, hr⟩ := h
    by_cases q : e.1 = n
    · refine .inr ⟨0, m, ?_, rfl, by rw [hk, q], ?_, ?_⟩
      · simp only [Instr.findNow, hk, sameNow_int, q, beq_self_eq_true, Nat.add_zero]
      · unfold mapGet; rw [decide_eq_true q]; exact hv
      · unfold mapPut; rw [decide_eq_true q]; rfl
    · have hne : (n == e.1) = false := by rw [beq_eq_false_iff_ne]; exact fun h => q h.symm
      rcases map_spec n x es l (i + 1) hr with ⟨h1, h2, h3⟩ | ⟨j, m', h1, h2, h3, h4, h5⟩
      · refine .inl ⟨?_, ?_, ?_⟩
        · simp only [Instr.findNow, hk, sameNow_int, hne]; exact h1
        · unfold mapGet; rw [decide_eq_false q]; exact h2
        · unfold mapPut; rw [decide_eq_false q]; exact congrArg (e :: ·) h3
      · refine .inr ⟨j + 1, m', ?_, h2, h3, ?_, ?_⟩
        · simp only [Instr.findNow, hk, sameNow_int, hne]; rw [h1, show i + 1 + j = i + (j + 1) by omega]
        · unfold mapGet; rw [decide_eq_false q]; exact h4
        · unfold mapPut; rw [decide_eq_false q]; exact congrArg (e :: ·) h5
theorem map_obj (hm : Mem w0 M c) {id : Nat} {k : K} {es : List (Int × k.T)} (ho : c.hp id = some (.mp k es)) {v : Value} (h : RepS c (.mp id) v) :
    ∃ b ents clock, c.β id = some b ∧ v = .map (some b) ∧ c.w.heap[b]? = some (.map ents clock) ∧ LR (RepM k) es ents.toList := by
  obtain ⟨_, o', h1, h2⟩ := h
  rw [ho] at h1; cases h1
  obtain ⟨b, q1, q2⟩ := h2 _ _ rfl
  obtain ⟨b', ents, clock, r1, r2, r3⟩ := hm.obj id _ ho
  rw [q1] at r1; cases r1
  exact ⟨b, ents, clock, q1, q2, r2, r3⟩
theorem core_makeMap (hm : Mem w0 M c) (hf : ∀ d, o.dst = some d → hp d = none → c.hp d = none) {t : TypeId} {rv : Option Operand} (ho : o.op = .makeMap t rv) (h : core P A fid ρ hp o = .ok true v u) :
    StepOk w0 M c ((execOp r o).run P c.w) v u := by
  cases rv with
  | some x => simp [core, ho] at h
  | none =>
    simp only [core, ho] at h
    simp only [execOp, ho]
    split at h
    · rename_i kt et d hu hfr
      split at h
      · rename_i k hkt hkd
        cases hs : scalK k with
        | false => rw [hs] at h; cases h
        | true =>
          rw [hs] at h
          simp only [cond_true, Out.ok.injEq, true_and] at h
          obtain ⟨rfl, rfl⟩ := h
          obtain ⟨hd, hd2⟩ := fresh_some hfr
          have hdn := hf d hd hd2
          have hg := grew_push c.w (.map #[] 0)
          have he := new_ext (b := c.w.heap.size) (o := .mp k []) hm hdn hg
          have hβ : (c.new (pushW c.w (.map #[] 0)) d c.w.heap.size (.mp k [])).β d = some c.w.heap.size := by simp [Cx.new, upd]
          refine ⟨.value (.map (some c.w.heap.size)), c.new (pushW c.w (.map #[] 0)) d c.w.heap.size (.mp k []), rfl, new_mem hm hdn hg (Nat.le_refl _) (by simp [pushW]) ?_, he, by rw [hpU_cons, hpU_nil]; rfl, .inl ⟨_, rfl, repV_one ?_⟩⟩
          · exact ⟨c.w.heap.size, #[], 0, hβ, push_here _ _, trivial⟩
          · exact ⟨rfl, .mp k [], by simp [Cx.new, upd], fun k' es e => by cases e; exact ⟨_, hβ, rfl⟩⟩
      · cases h
    · cases h
theorem core_lookup (hm : Mem w0 M c) (hh : ∀ id o, hp id = some o → c.hp id = some o) (hr : ∀ x, RepV c (ρ x) (r x)) {t : TypeId} {x ix : Operand} {cm : Bool} (ho : o.op = .lookup t x ix cm) (h : core P A fid ρ hp o = .ok true v u) :
    StepOk w0 M c ((execOp r o).run P c.w) v u := by
  cases cm with
  | true => simp [core, ho] at h
  | false =>
    simp only [core, ho] at h
    simp only [execOp, ho]
    split at h
    · rename_i id n kt et hx hi hu
      split at h
      · rename_i k es hid hkt
        cases hs : zeroS P et k with
        | false => rw [hs] at h; cases h
        | true =>
          rw [hs] at h
          simp only [cond_true, Out.ok.injEq, true_and] at h
          obtain ⟨rfl, rfl⟩ := h
          obtain ⟨b, ents, clock, q1, q2, q3, q4⟩ := map_obj hm (hh id _ hid) (slot_rep hr hx)
          obtain ⟨q5, _⟩ := slot_rep hr hi
          obtain ⟨z, z1, z2⟩ := zeroS_run hs c.w
          have hck := MapKept.run_checkKey (w := c.w) (k := .int .i64 n) hkt rfl ents.isEmpty 9999
          rcases map_spec (k := k) n k.dflt es ents.toList 0 q4 with ⟨f1, f2, _⟩ | ⟨j, e, f1, f2, f3, f4, _⟩
          · refine .quiet hm (v' := z) (run_val ?_) (repE_inj (by rw [f2]; exact z2))
            rw [q2, q5]
            unfold Instr.lookup
            rw [run_ok (run_underlying hu c.w)]
            simp only []
            rw [run_ok (MapKept.run_getObj_map q3)]
            simp only []
            rw [run_pb, run_ok hck, run_ok (MapKept.run_findKey hkt f1)]
            simp only []
            rw [run_ok z1]
            rfl
          · refine .quiet hm (v' := e.val) (run_val ?_) (repE_inj f4)
            rw [q2, q5]
            unfold Instr.lookup
            rw [run_ok (run_underlying hu c.w)]
            simp only []
            rw [run_ok (MapKept.run_getObj_map q3)]
            simp only []
            rw [run_pb, run_ok hck, run_ok (MapKept.run_findKey hkt f1)]
            rfl
      · cases h
    · cases h
theorem core_mapUpdate (hm : Mem w0 M c) (hh : ∀ id o, hp id = some o → c.hp id = some o) (hr : ∀ x, RepV c (ρ x) (r x)) {t : TypeId} {x ix y : Operand} (ho : o.op = .mapUpdate t x ix y) (h : core P A fid ρ hp o = .ok true v u) :
    StepOk w0 M c ((execOp r o).run P c.w) v u := by
  simp only [core, ho] at h
  simp only [execOp, ho]
  split at h
  · rename_i id n cs kt et hx hi hy hu
    split at h
    · rename_i k es hid hkt
      cases hs : scalK k with
      | false => rw [hs] at h; cases h
      | true =>
        rw [hs] at h
        simp only [cond_true] at h
        split at h
        · rename_i val hval
          simp only [Out.ok.injEq, true_and] at h
          obtain ⟨rfl, rfl⟩ := h
          have hid' := hh id _ hid
          obtain ⟨b, ents, clock, q1, q2, q3, q4⟩ := map_obj hm hid' (slot_rep hr hx)
          obtain ⟨q5, q6⟩ := slot_rep hr hi
          have hyr := hr y
          rw [hy] at hyr
          obtain ⟨s, rfl, hsv⟩ := hyr
          have hE : RepE k val (r y) := by
            have hnid : ∀ id ∈ idsOf [s], ∀ b, c.β id = some b → c.S b ∨ True := fun _ _ _ _ => .inr trivial
            exact repT_E hs (rei1_rep (S' := fun b => c.S b ∨ True) hm hh (fun _ h => .inl h) hnid ⟨hsv, trivial⟩ hval)
          have hck := MapKept.run_checkKey (w := c.w) (k := .int .i64 n) hkt rfl false 9999
          have hlive : Live c id b := ⟨q1, _, hid', rfl⟩
          have fin : ∀ (ents' : Array MapEntry) (clock' : Nat), LR (RepM k) (mapPut es n val) ents'.toList →
              (Instr.mapUpdate t (.map (some b)) (.int .i64 n) (r y)).run P c.w = .ok () { c.w with heap := c.w.heap.setIfInBounds b (.map ents' clock') } → StepOk w0 M c ((do Instr.mapUpdate t (r x) (r ix) (r y); pure Next.skip : Sem Next).run P c.w) .undef [(id, .mp k (mapPut es n val))] := by
            intro ents' clock' hl hrun
            obtain ⟨hs1, hs2⟩ := MapKept.heap_set (o' := .map ents' clock') q3
            let w' : World := { c.w with heap := c.w.heap.setIfInBounds b (.map ents' clock') }
            have hblk : ∀ j, j < c.w.heap.size → ¬ Live c id j → w'.heap[j]? = c.w.heap[j]? := fun j _ hl => hs2 j (by rintro rfl; exact hl hlive)
            have hhp : (c.turn id w' c.S (some b) (.mp k (mapPut es n val))).hp id = some (.mp k (mapPut es n val)) := by simp [Cx.turn, upd]
            have hids : ∀ s v, s.ids = [id] → RepS c s v → RepS (c.turn id w' c.S (some b) (.mp k (mapPut es n val))) s v := by
              intro s v hsi hrs
              cases s <;> simp only [S.ids, List.cons.injEq, and_true, reduceCtorEq] at hsi
              case vw j g => subst hsi; exact ⟨hrs.1, _, hhp, fun k xs gen hist frz e => by cases e⟩
              case pv j g off len => subst hsi; exact ⟨hrs.1, _, hhp, fun k xs gen hist frz e => by cases e⟩
              case ptr j g i p =>
                subst hsi
                obtain ⟨z0, oo, z1, z2, _⟩ := hrs
                exact ⟨z0, _, hhp, z2, (fun cs e => by cases e), fun k xs gen hist frz e => by cases e⟩
              case mp j =>
                subst hsi
                obtain ⟨z0, oo, z1, z2⟩ := hrs
                rw [hid'] at z1; cases z1
                obtain ⟨b2, y1, y2⟩ := z2 _ _ rfl
                rw [q1] at y1; cases y1
                exact ⟨z0, _, hhp, fun k' es' e => ⟨b, by simp [Cx.turn], y2⟩⟩
            have he := ext_turn hm (β' := some b) (o' := .mp k (mapPut es n val)) hblk (fun _ h => h) hids
            have hsz : w'.heap.size = c.w.heap.size := by show (c.w.heap.setIfInBounds b _).size = _; simp
            have ht : Turn w0 M c id w' c.S (some b) (.mp k (mapPut es n val)) := by
              refine ⟨rfl, rfl, rfl, by rw [hsz]; exact Nat.le_refl _, hblk, fun _ h => h, fun b' hb' => ⟨by rw [hsz]; exact hm.below b' hb', .inl hb'⟩, ⟨_, hid'⟩, ?_, fun b' hb' _ => ?_, hids⟩
              · exact ⟨b, ents', clock', by simp [Cx.turn], hs1, hl⟩
              · cases hb'
                exact ⟨by rw [hsz]; exact (hm.live id b hlive).1, (hm.live id b hlive).2.1, .inl hlive⟩
            refine ⟨.skip, c.turn id w' c.S (some b) (.mp k (mapPut es n val)), ?_, ht.mem hm, he, by rw [hpU_cons, hpU_nil]; rfl, .inr ⟨rfl, rfl⟩⟩
            rw [q2, q5]
            exact run_unit hrun
          rcases map_spec (k := k) n val es ents.toList 0 q4 with ⟨f1, _, f3⟩ | ⟨j, e, f1, f2, f3, _, f5⟩
          · refine fin (ents.push { key := .int .i64 n, val := r y, born := clock }) (clock + 1) ?_ ?_
            · rw [f3, Array.toList_push]
              exact q4.append ⟨⟨rfl, hE⟩, trivial⟩
            · unfold Instr.mapUpdate
              rw [run_ok (run_underlying hu c.w)]
              simp only []
              rw [run_ok (MapKept.run_getObj_map q3)]
              simp only []
              rw [run_ok hck, run_ok (MapKept.run_findKey hkt f1)]
              simp only []
              exact MapKept.run_setObj_map _ q3
          · refine fin (ents.modify (0 + j) fun e => { e with key := .int .i64 n, val := r y }) clock ?_ ?_
            · rw [f5, Array.toList_modify, Nat.zero_add]
              refine LR.of_get (by rw [List.length_set, List.length_modify]; exact q4.length) fun i a m ha hm' => ?_
              rw [List.getElem?_set] at ha
              rw [List.getElem?_modify] at hm'
              by_cases hji : j = i
              · subst hji
                rw [if_pos rfl] at ha
                rw [f2] at hm'
                split at ha
                · cases ha
                  simp only [if_pos, Option.map_eq_map, Option.map_some, Option.some.injEq] at hm'
                  subst hm'
                  exact ⟨rfl, hE⟩
                · cases ha
              · rw [if_neg hji] at ha
                obtain ⟨m', e1, e2⟩ := q4.get i a ha
                rw [e1] at hm'
                simp only [if_neg hji, Option.map_eq_map, Option.map_some, Option.some.injEq, id_eq] at hm'
                subst hm'
                exact e2
            · have hej : ents[0 + j]? = some e := by rw [Nat.zero_add, ← Array.getElem?_toList]; exact f2
              unfold Instr.mapUpdate
              rw [run_ok (run_underlying hu c.w)]
              simp only []
              rw [run_ok (MapKept.run_getObj_map q3)]
              simp only []
              rw [run_ok hck, run_ok (MapKept.run_findKey hkt f1)]
              simp only []
              rw [hej]
              simp only [Option.map_some, Option.getD_some, f3]
              rw [run_ok (MapKept.run_keyThatStays (d := .int .i64) (k := .int .i64 n) rfl)]
              exact MapKept.run_setObj_map _ q3
        · cases h
    · cases h
  · cases h
/-- A function's value with a variable of its own, which stands from then on. -/
theorem core_makeFunc (hm : Mem w0 M c) (hh : ∀ id o, hp id = some o → c.hp id = some o) (hr : ∀ x, RepV c (ρ x) (r x)) {fv : Fn} {first captured : Array Operand} (ho : o.op = .makeFunc fv first captured) (h : core P A fid ρ hp o = .ok true v u) :
    StepOk w0 M c ((execOp r o).run P c.w) v u := by
  cases fv with
  | func f =>
    simp only [core, ho] at h
    simp only [execOp, ho]
    split at h
    · rename_i x hfst hcap
      split at h
      · rename_i id g i p hx
        cases hq : (Nat.beq g 0 && Nat.beq i 0 && p.isEmpty) with
        | false => rw [hq] at h; cases h
        | true =>
          rw [hq] at h
          simp only [cond_true] at h
          split at h
          · rename_i k xs hid
            simp only [Out.ok.injEq, true_and] at h
            obtain ⟨rfl, rfl⟩ := h
            have hid' := hh id _ hid
            have hxr := slot_rep hr hx
            simp only [Bool.and_eq_true] at hq
            obtain ⟨_, ob, t1, _, t2, _⟩ := hxr
            rw [hid'] at t1; cases t1
            obtain ⟨b, q1, q2, _, _⟩ := t2 _ rfl (by simp)
            have hpn : p = [] := List.isEmpty_iff.1 hq.2
            subst hpn
            obtain ⟨b', arr, r1, ⟨T, fz, r2, r3⟩, r4⟩ := hm.obj id _ hid' (by simp)
            rw [q1] at r1; cases r1
            have hlive : Live c id b := ⟨q1, _, hid', rfl⟩
            let S' : Nat → Prop := fun b' => c.S b' ∨ Live c id b'
            have hhp : (c.turn id c.w S' (some b) (.box [])).hp id = some (.box []) := by simp [Cx.turn, upd]
            have hids : ∀ s v, s.ids = [id] → RepS c s v → RepS (c.turn id c.w S' (some b) (.box [])) s v := by
              intro s v hsi hrs
              cases s <;> simp only [S.ids, List.cons.injEq, and_true, reduceCtorEq] at hsi
              case vw j g => subst hsi; exact ⟨hrs.1, _, hhp, fun k xs gen hist frz e => by cases e⟩
              case pv j g off len => subst hsi; exact ⟨hrs.1, _, hhp, fun k xs gen hist frz e => by cases e⟩
              case ptr j g i p =>
                subst hsi
                obtain ⟨z0, oo, z1, z2, _⟩ := hrs
                exact ⟨z0, _, hhp, z2, (fun cs e hne => by cases e; exact (hne rfl).elim), fun k xs gen hist frz e => by cases e⟩
              case mp j => subst hsi; exact ⟨hrs.1, _, hhp, fun k es e => by cases e⟩
            have ht : Turn w0 M c id c.w S' (some b) (.box []) := by
              refine ⟨rfl, rfl, rfl, Nat.le_refl _, fun _ _ _ => rfl, fun _ h => .inl h, fun b' hb' => ⟨?_, hb'⟩, ⟨_, hid'⟩, fun hne => (hne rfl).elim, fun b' _ hl => (by cases hl), hids⟩
              rcases hb' with hb' | hb'
              · exact hm.below b' hb'
              · exact (hm.live id b' hb').1
            have he := ht.ext hm
            refine ⟨_, c.turn id c.w S' (some b) (.box []), run_val (v := .func (.func f) #[] #[.pointer (some ⟨b, 0, none⟩)]) ?_, ht.mem hm, he, by rw [hpU_cons, hpU_nil]; rfl, .inl ⟨_, rfl, _, rfl, ?_⟩⟩
            · have e1 : first.map r = #[] := by apply Array.ext'; rw [Array.toList_map, hfst]; rfl
              have e2 : captured.map r = #[.pointer (some ⟨b, 0, none⟩)] := by
                apply Array.ext'
                rw [Array.toList_map, hcap]
                simp only [List.map_cons, List.map_nil, q2, pathOff, List.foldr_nil]
              rw [e1, e2]; rfl
            · match hal : arr.toList, r4 with
              | [], r4 => exact r4.elim
              | y :: ys, r4 =>
                obtain ⟨r5, _⟩ := r4
                refine ⟨b, 0, [y], .inr hlive, rfl, RepT.mono (w := c.w) (Sb := c.S) (fun _ _ => rfl) (fun _ h => .inl h) r5, ?_⟩
                intro j v hj
                cases j with
                | zero =>
                  simp at hj; subst hj
                  have hy : arr[0]? = some y := by rw [← Array.getElem?_toList, hal]; rfl
                  simp only [World.cell?]
                  show (match c.w.heap[b]? with | some (.cells cs T fz) => _ | _ => _) = _
                  rw [r2]
                  simpa using hy
                | succ j => simp at hj
          · cases h
      · cases h
    · cases h
  | _ => simp [core, ho] at h
theorem core_ok (hm : Mem w0 M c) (hte : c.te = A.te) (hh : ∀ id o, hp id = some o → c.hp id = some o) (hf : ∀ d, o.dst = some d → hp d = none → c.hp d = none) (hr : ∀ x, RepV c (ρ x) (r x)) (hcv : ∀ v, r (.const v) = v) (h : core P A fid ρ hp o = .ok true v u) :
    StepOk w0 M c ((execOp r o).run P c.w) v u := by
  cases ho : o.op with
  | move x => exact core_move hm hf hr (.inl ho) h
  | assign x => exact core_move hm hf hr (.inr ho) h
  | alloc e => exact core_alloc hm hf ho h
  | nilCheck x => exact core_nilCheck hm hh hr ho h
  | box e x => exact core_box hm hf hr ho h
  | build t ps => exact core_build hm hr ho h
  | buildSlice t n ps => exact core_buildSlice hm hh hf hr ho h
  | load t a => exact core_load hm hh hr ho h
  | store t a x => exact core_store hm hh hr ho h
  | binOp op t x y ty => exact core_binOp hm hr hcv ho h
  | unOp op t x => exact core_unOp hm hr ho h
  | convert st dt x => exact core_convert2 hm hh hf hr ho h
  | makeInterface t x => exact core_makeInterface hm hte hr ho h
  | makeSlice t l cc => exact core_makeSlice hm hf hr ho h
  | slice t x lo hi mx => exact core_slice hm hh hr ho h
  | fieldAddr t x f => exact core_fieldAddr hm hh hr ho h
  | field t x f => exact core_field hm hr ho h
  | indexAddr t x ix => exact core_indexAddr hm hh hr ho h
  | index t x ix => exact core_index hm hr ho h
  | extract t ix => exact core_extract hm hr ho h
  | makeMap t rv => exact core_makeMap hm hf ho h
  | makeFunc fv a b => exact core_makeFunc hm hh hr ho h
  | lookup t x ix cm => exact core_lookup hm hh hr ho h
  | mapUpdate t x ix y => exact core_mapUpdate hm hh hr ho h
  | _ => simp [core, ho] at h
end
end Go.Eng
