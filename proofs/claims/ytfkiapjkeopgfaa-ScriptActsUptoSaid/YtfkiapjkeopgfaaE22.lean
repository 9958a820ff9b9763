/- A call, done by what is known of the function. -/
import Derived.Test.YtfkiapjkeopgfaaE21
set_option linter.all false
set_option linter.unusedVariables false
set_option linter.unusedSimpArgs false
set_option linter.deprecated false
namespace Go.Eng
open Go.RowKit
theorem handV_io {P : Program} {hp : Nat → Option Obj} {t : TypeId} {g : Bool} {cs : List S} {h : Hand} (hd : handV P hp t g cs = some h) : h.io = [] ∧ (∀ k x, h.arg ≠ .val false [.io k x]) ∧ (h.mv ≠ [] → ∃ k xs, h.arg = .val false [.mv k xs]) := by
  obtain ⟨k, x, _, hx, rfl⟩ := handV_some hd
  exact ⟨rfl, fun k' y e => (plain_inj k x).2 k' y e, fun h => (h rfl).elim⟩
theorem handArg_io {P : Program} {hp : Nat → Option Obj} {mv : Bool} {t : TypeId} {a : AV} {h : Hand} (hd : handArg P hp mv t a = some h) :
    (∃ id k x, h.io = [(id, k)] ∧ h.mv = [] ∧ h.arg = .val false [.io k x]) ∨ (h.io = [] ∧ (∀ k x, h.arg ≠ .val false [.io k x]) ∧ (h.mv ≠ [] → ∃ k xs, h.arg = .val false [.mv k xs])) := by
  unfold handArg at hd
  split at hd
  · cases mv with
    | true =>
      simp only [cond_true] at hd
      split at hd
      · split at hd
        · simp only [Option.some.injEq] at hd; subst hd; exact .inr ⟨rfl, fun _ _ => by simp, fun h => (h rfl).elim⟩
        · cases hd
      · cases hd
    | false => simp only [cond_false] at hd; exact .inr (handV_io hd)
  · rename_i id g
    cases mv with
    | true =>
      simp only [cond_true] at hd
      split at hd
      · rename_i k xs gen hist ho
        cases hg : Nat.beq g gen with
        | false => rw [hg] at hd; cases hd
        | true => rw [hg] at hd; simp only [cond_true, Option.some.injEq] at hd; subst hd; exact .inr ⟨rfl, fun _ _ => by simp, fun _ => ⟨k, xs, rfl⟩⟩
      · cases hd
    | false => simp only [cond_false] at hd; exact .inr (handV_io hd)
  · rename_i id g i p
    cases hp0 : p.isEmpty with
    | false => rw [hp0] at hd; cases hd
    | true =>
      rw [hp0] at hd
      simp only [cond_true] at hd
      split at hd
      · rename_i cs e ho hu
        cases hne : (!cs.isEmpty && Nat.beq g 0 && Nat.beq i 0) with
        | false => rw [hne] at hd; cases hd
        | true =>
          rw [hne] at hd
          simp only [cond_true] at hd
          split at hd
          · split at hd
            · rename_i k _ x _
              simp only [Option.some.injEq] at hd; subst hd; exact .inl ⟨id, _, _, rfl, rfl, rfl⟩
            · cases hd
          · cases hd
      · cases hd
  · simp only [Option.some.injEq] at hd; subst hd
    exact .inr ⟨rfl, fun k x e => (by cases e), fun e => (e rfl).elim⟩
  · exact .inr (handV_io hd)
  · cases hd
theorem LR3.of_get {α β γ : Type} {R : α → β → γ → Prop} : ∀ {l : List α} {m : List β} {n : List γ}, l.length = m.length → l.length = n.length → (∀ (i : Nat) a b c, l[i]? = some a → m[i]? = some b → n[i]? = some c → R a b c) → LR3 R l m n
  | [], [], [], _, _, _ => trivial
  | a :: r, b :: s, c :: t, h1, h2, h => ⟨h 0 a b c rfl rfl rfl, LR3.of_get (by simpa using h1) (by simpa using h2) fun i x y z hx hy hz => h (i + 1) x y z (by simpa using hx) (by simpa using hy) (by simpa using hz)⟩
  | [], _ :: _, _, h1, _, _ => by simp at h1
  | _ :: _, [], _, h1, _, _ => by simp at h1
  | [], [], _ :: _, _, h2, _ => by simp at h2
  | _ :: _, _ :: _, [], _, h2, _ => by simp at h2
theorem resIo_cons {te : TypeId} {w' : World} {S' : Nat → Prop} {a : AV} {r : List AV} {ob : Option Nat} {bs : List (Option Nat)} {l : List (Bool × List S)} (ha : ∀ k x, a ≠ .val false [.io k x]) (h : ResIo te w' S' (a :: r) (ob :: bs) l) : ResIo te w' S' r bs l := by
  unfold ResIo at h
  split at h
  all_goals first
  | (simp_all; done)
  | (rename_i h1 h2 h3 h4; trace_state; simp_all; done)
/-- Boxes that were lent, as they come back. -/
theorem resIo_get {te : TypeId} {w' : World} {S' : Nat → Prop} {β : Nat → Option Nat} : ∀ (hs : List Hand) (l : List (Bool × List S)),
    (∀ h ∈ hs, (∃ id k x, h.io = [(id, k)] ∧ h.mv = [] ∧ h.arg = .val false [.io k x]) ∨ (h.io = [] ∧ (∀ k x, h.arg ≠ .val false [.io k x]) ∧ (h.mv ≠ [] → ∃ k xs, h.arg = .val false [.mv k xs]))) →
    ResIo te w' S' (hs.map Hand.arg) (hs.map (Hand.blk β)) l →
    ∀ id, (∃ cs b k, (id, k) ∈ hs.flatMap Hand.io ∧ hget (ioUpd (hs.flatMap Hand.io) l) id = some (.box cs) ∧ β id = some b ∧ BoxArg te w' S' b cs ∧ ¬ S' b ∧ cs.length = k.size) ∨ ((∀ k, (id, k) ∉ hs.flatMap Hand.io) ∧ hget (ioUpd (hs.flatMap Hand.io) l) id = none)
  | [], l, _, _, id => by
    right
    refine ⟨by simp, ?_⟩
    simp [ioUpd, hget]
  | h :: hs, l, hio, hr, id => by
    rcases hio h (by simp) with ⟨j, k, x, e1, e2, e3⟩ | ⟨e1, e2, _⟩
    · simp only [List.map_cons, e3] at hr
      match l, hr with
      | p :: l, hr =>
        simp only [ResIo] at hr
        obtain ⟨⟨b, hb, h1, h2, h3⟩, hr⟩ := hr
        have hbl : h.blk β = β j := by simp [Hand.blk, e1, e2]
        rw [hbl] at hb
        have e : (h :: hs).flatMap Hand.io = (j, k) :: hs.flatMap Hand.io := by simp [e1]
        rw [e]
        simp only [ioUpd, hget]
        by_cases hj : j = id
        · subst hj
          left
          exact ⟨p.2, b, k, by simp, by simp, hb, h1, h2, h3⟩
        · have hbq : Nat.beq j id = false := by
            cases hq : Nat.beq j id with
            | true => exact (hj (Nat.eq_of_beq_eq_true hq)).elim
            | false => rfl
          rw [hbq]
          rcases resIo_get hs l (fun h hh => hio h (by simp [hh])) hr id with ⟨cs, b', k', q1, q2⟩ | ⟨q1, q2⟩
          · exact .inl ⟨cs, b', k', by simp [q1], by simpa using q2⟩
          · right
            refine ⟨fun k' hk' => ?_, by simpa using q2⟩
            rcases List.mem_cons.1 hk' with hk' | hk'
            · simp at hk'; exact hj hk'.1.symm
            · exact q1 k' hk'
      | [], hr => simp [ResIo] at hr
    · have e : (h :: hs).flatMap Hand.io = hs.flatMap Hand.io := by simp [e1]
      rw [e]
      have hr' : ResIo te w' S' (hs.map Hand.arg) (hs.map (Hand.blk β)) l := by
        simp only [List.map_cons] at hr
        exact resIo_cons e2 hr
      exact resIo_get hs l (fun h hh => hio h (by simp [hh])) hr' id
theorem hget_deads : ∀ (l : List Nat) (id : Nat), hget (deads l) id = if id ∈ l then some (.box []) else none
  | [], id => by simp [deads, hget]
  | a :: r, id => by
    have ih := hget_deads r id
    unfold deads at ih ⊢
    simp only [List.map_cons, hget]
    by_cases h : a = id
    · subst h; simp
    · have hb : Nat.beq a id = false := by
        cases hq : Nat.beq a id with
        | true => exact (h (Nat.eq_of_beq_eq_true hq)).elim
        | false => rfl
      rw [hb]
      simp only [cond_false, List.mem_cons, Ne.symm h, false_or]
      exact ih
theorem tupA_one {arr : Array Value} {x : Value} (h : arr.toList = [x]) : tupA arr = x := by
  have : arr = #[x] := by apply Array.ext'; simpa using h
  subst this; rfl
theorem tupA_many {arr : Array Value} (h : arr.toList.length ≠ 1) : tupA arr = .tuple arr := by
  unfold tupA
  rw [dif_neg (by simpa using h)]
theorem resV_len {te : TypeId} {w' : World} {S' okb : Nat → Prop} : ∀ (res : List (Bool × K)) (l : List (Bool × List S)) (vals : List Value), ResV te w' S' okb res l vals → vals.length = res.length
  | [], l, vals, h => by cases l <;> cases vals <;> simp [ResV] at h ⊢
  | (o, k) :: r, [], vals, h => by cases o <;> cases vals <;> simp [ResV] at h
  | (o, k) :: r, p :: l, [], h => by
    exfalso
    unfold ResV at h
    split at h <;> simp_all
  | (o, k) :: r, p :: l, v :: vs, h => by
    have : ResV te w' S' okb r l vs := by
      unfold ResV at h
      split at h <;> simp_all
    simp [resV_len r l vs this]
theorem postOf_some {tup : Bool} {d : Option Nat} {own : List Bool} {n : Nat} {io : List (Nat × K)} {vs l : List (Bool × List S)} {u : Upd} (h : ownRes d own (vs.take n) = some (l, u)) : postOf tup d own n io vs = ((bif tup then .tup l else oneV l), u ++ ioUpd io (vs.drop n)) := by
  unfold postOf; rw [h]
theorem postOf_none {tup : Bool} {d : Option Nat} {own : List Bool} {n : Nat} {io : List (Nat × K)} {vs : List (Bool × List S)} (h : ownRes d own (vs.take n) = none) : postOf tup d own n io vs = (.undef, ioUpd io (vs.drop n)) := by
  unfold postOf; rw [h]
section
variable {P : Program} {Gl : Nat → Option Go.Obj} {C : CallF} {w0 : World} {M : MS} {c : Cx} {hp : Nat → Option Obj}
theorem callOut_ok (hC : SoundC P c.te Gl C) (hm : Mem w0 M c) (hgl : Glob Gl c.S c.w) (hh : ∀ id o, hp id = some o → c.hp id = some o) {dst : Option Nat} (hf : ∀ d, dst = some d → hp d = none → c.hp d = none) {ty : TypeId} {own mvs : List Bool} {cb : Bool} {f f' : Nat} {ats : List TypeId} {args as : List AV} {vs : Array Value} {sg : Sig} {post : sg.R → AV × Upd} {rr : sg.R}
    (hr : LR (RepV c) args vs.toList) (h : callOut P hp dst ty own mvs cb f ats args = .call true sg f' as post) (hc : C sg f' as = some rr) :
    f' = f ∧ cb = true ∧ (∃ fn, P.funcs[f]? = some fn ∧ (fn.name == "runtime.NumGoroutine") = false ∧ fn.body.isNone = false) ∧
    Calls P f vs c.w (fun e w' => ∃ v' c', e = .returned v' ∧ c'.w = w' ∧ Mem w0 M c' ∧ Ext c c' ∧ c'.hp = hpU (post rr).2 c.hp ∧ RepV c' (post rr).1 v') := by
  unfold callOut at h
  split at h
  · rename_i tup ks hs hres hargs
    dsimp only at h
    cases hcond : (ownOk own ks && Nat.ble (anyOwn own) 1 && (Nat.beq (anyOwn own) 0 || (fresh hp dst).isSome) && exOk (exAll args hs) && hs.all (fun h => disj h.excl h.frz) && (tup == !(Nat.beq ks.length 1))) with
    | false => rw [hcond] at h; cases h
    | true =>
      rw [hcond] at h
      simp only [cond_true] at h
      simp only [Bool.and_eq_true] at hcond
      obtain ⟨⟨⟨⟨⟨_, _⟩, hfrd⟩, hex⟩, hdj⟩, htup⟩ := hcond
      split at h
      · rename_i u hu
        cases h
        refine ⟨rfl, rfl, ?_⟩
        obtain ⟨hfn, hcall⟩ := hC _ _ _ _ hc
        refine ⟨hfn, ?_⟩
        obtain ⟨hlen, hget⟩ := handArgs_get hargs
        have hlr := hr.length
        -- what is known of each argument
        have hinfo : ∀ (j : Nat) h, hs[j]? = some h → ∃ a v b t, args[j]? = some a ∧ vs.toList[j]? = some v ∧ RepV c a v ∧ handArg P hp b t a = some h := by
          intro j h hj
          obtain ⟨hlt, _⟩ := List.getElem?_eq_some_iff.1 hj
          have ha : args[j]? = some args[j] := List.getElem?_eq_getElem (by omega)
          obtain ⟨h', b, t, e1, e2⟩ := hget j _ ha
          rw [hj] at e1; cases e1
          obtain ⟨v, e3, e4⟩ := hr.get j _ ha
          exact ⟨_, v, b, t, ha, e3, e4, e2⟩
        have hmem : ∀ h ∈ hs, ∃ (j : Nat), hs[j]? = some h := fun h hh => List.mem_iff_getElem?.1 hh
        -- handed names are lent nowhere
        have hnofz : ∀ id, id ∈ hs.flatMap Hand.excl → id ∉ hs.flatMap Hand.frz := by
          intro id h1 h2
          obtain ⟨ha, ha1, ha2⟩ := List.mem_flatMap.1 h1
          obtain ⟨hb, hb1, hb2⟩ := List.mem_flatMap.1 h2
          obtain ⟨i, hi⟩ := hmem ha ha1
          obtain ⟨j, hj⟩ := hmem hb hb1
          by_cases hij : i = j
          · subst hij
            rw [hi] at hj; cases hj
            exact disj_spec (List.all_eq_true.1 hdj ha ha1) ha2 hb2
          · obtain ⟨a1, _, _, _, e1, _⟩ := hinfo i ha hi
            obtain ⟨a2, _, _, _, e2, _⟩ := hinfo j hb hj
            exact exOk_spec hex i j _ _ hij (exAll_get e1 hi) (exAll_get e2 hj) id ha2 (by simp [hb2])
        have hflag : (ks.any K.rows || anyPtr args) = false → ∀ h ∈ hs, h.io = [] := by
          intro hfl h hh
          simp only [Bool.or_eq_false_iff] at hfl
          obtain ⟨j, hj⟩ := hmem h hh
          obtain ⟨a, _, _, _, e1, _, _, e2⟩ := hinfo j h hj
          exact (handArg_frz e2).2 (anyPtr_get hfl.2 a (List.mem_of_getElem? e1))
        -- frozen, or lent alone
        have hc1 : ∃ (c1 : Cx) (Sa : Nat → Prop), c1.w = c.w ∧ c1.β = c.β ∧ Mem w0 M c1 ∧ Ext c c1 ∧ c1.hp = hpU u c.hp ∧ (∀ b, c.S b → Sa b) ∧ (∀ id ∈ hs.flatMap Hand.frz, ∀ b, c.β id = some b → Sa b) ∧ (∀ b, Sa b → b < c.w.heap.size) ∧
            (∀ id b, id ∈ hs.flatMap Hand.excl → Live c id b → ¬ Sa b) ∧ (∀ id, id ∈ hs.flatMap Hand.excl → c1.hp id = c.hp id) ∧
            (((ks.any K.rows || anyPtr args) = true ∧ ∀ b, Sa b ↔ c1.S b) ∨ ((ks.any K.rows || anyPtr args) = false ∧ c1.S = c.S)) := by
          cases hfl : (ks.any K.rows || anyPtr args) with
          | true =>
            rw [hfl] at hu
            simp only [cond_true] at hu
            obtain ⟨c1, e1, e2, m1, x1, p1, p2⟩ := frz_ok hm hh hu
            have hsame : ∀ id, id ∈ hs.flatMap Hand.excl → c1.hp id = c.hp id := by
              intro id hid
              rw [p1]; unfold hpU; rw [frzU_keys hu (hnofz id hid)]
            refine ⟨c1, c1.S, e1, e2, m1, x1, p1, x1.sub, p2, fun b hb => by rw [← e1]; exact m1.below b hb, fun id b hid hl => ?_, hsame, .inl ⟨rfl, fun b => Iff.rfl⟩⟩
            obtain ⟨q1, o, q2, q3⟩ := hl
            exact (m1.live id b ⟨by rw [e2]; exact q1, o, by rw [hsame id hid]; exact q2, q3⟩).2.1
          | false =>
            rw [hfl] at hu
            simp only [cond_false, Option.some.injEq] at hu
            subst hu
            have hrow : ∀ id ∈ hs.flatMap Hand.frz, ∃ o, c.hp id = some o ∧ o.isRow = true := by
              intro id hid
              obtain ⟨h, hh1, hh2⟩ := List.mem_flatMap.1 hid
              obtain ⟨j, hj⟩ := hmem h hh1
              obtain ⟨a, _, _, _, _, _, _, e2⟩ := hinfo j h hj
              obtain ⟨k, xs, gen, hist, frz, e3⟩ := (handArg_frz e2).1 (hflag hfl h hh1) id hh2
              exact ⟨_, hh id _ e3, rfl⟩
            refine ⟨c, fun b => c.S b ∨ ∃ id ∈ hs.flatMap Hand.frz, c.β id = some b, rfl, rfl, hm, Ext.refl c, rfl, fun b hb => .inl hb, fun id hid b hb => .inr ⟨id, hid, hb⟩, fun b hb => ?_, fun id b hid hl hb => ?_, fun _ _ => rfl, .inr ⟨rfl, rfl⟩⟩
            · rcases hb with hb | ⟨id, hid, hb⟩
              · exact hm.below b hb
              · obtain ⟨o, ho, hrw⟩ := hrow id hid
                obtain ⟨x, hx⟩ := blk_of_repO (hm.obj id o ho) (.inr hrw) hb
                exact lt_of_some hx
            · rcases hb with hb | ⟨id', hid', hb⟩
              · exact (hm.live id b hl).2.1 hb
              · obtain ⟨o, ho, hrw⟩ := hrow id' hid'
                by_cases hv : o.live = true
                · have := hm.one id id' b hl ⟨hb, o, ho, hv⟩
                  subst this
                  exact hnofz id hid hid'
                · cases o with
                  | box cs => cases hrw
                  | mp k es => cases hrw
                  | row k xs gen hist frz =>
                    have hft : frz = true := by simpa [Obj.live] using hv
                    have := hm.obj id' _ ho
                    simp only [RepO, hb] at this
                    exact (hm.live id b hl).2.1 (this.2.2 hft)
        obtain ⟨c1, Sa, e1, e2, m1, x1, p1, p2, p3, p4, p5, p6, p7⟩ := hc1
        have hrepj : ∀ (j : Nat) h, hs[j]? = some h → ∃ a v, args[j]? = some a ∧ vs.toList[j]? = some v ∧ ArgRel c.te c.w Sa h.arg v (h.blk c.β) ∧ (∀ b, h.blk c.β = some b → ∃ id ∈ h.excl, Live c id b) ∧ (∀ id ∈ h.excl, id ∈ a.ids) ∧ (h.mv = [] ∨ h.io = []) ∧ (∀ id ∈ h.mv, ∃ k xs gen hist, c.hp id = some (.row k xs gen hist false)) ∧
            (∀ id k, (id, k) ∈ h.io → ∃ cs x, c.hp id = some (.box cs) ∧ cs ≠ [] ∧ cs.length = k.size ∧ h.arg = .val false [.io k x] ∧ h.blk c.β = c.β id) ∧ h.excl.length ≤ 1 := by
          intro j h hj
          obtain ⟨a, v, b, t, q1, q2, q3, q4⟩ := hinfo j h hj
          obtain ⟨r1, r2, r3, r4, r5, r6, r7⟩ := handArg_rep hm hh q4 q3 p2 (fun id hid b hb => p3 id (List.mem_flatMap.2 ⟨h, List.mem_of_getElem? hj, hid⟩) b hb)
          exact ⟨a, v, q1, q2, r1, r2, r3, r4, r5, r6, r7⟩
        have hbs : ∀ (j b : Nat), (hs.map (Hand.blk c.β))[j]? = some (some b) → ∃ h, hs[j]? = some h ∧ h.blk c.β = some b := by
          intro j b hj
          rw [List.getElem?_map] at hj
          cases hh2 : hs[j]? with
          | none => rw [hh2] at hj; cases hj
          | some h => rw [hh2] at hj; simp at hj; exact ⟨h, rfl, hj⟩
        have hexm : ∀ h ∈ hs, ∀ id ∈ h.excl, id ∈ hs.flatMap Hand.excl := fun h hh id hid => List.mem_flatMap.2 ⟨h, hh, hid⟩
        refine (hcall c.w Sa vs (hs.map (Hand.blk c.β)) (fun b o hb => ⟨p2 b (hgl b o hb).1, (hgl b o hb).2⟩) p4 ?_ ?_ ?_).mono ?_
        · refine LR3.of_get (by simp at hlr ⊢; omega) (by simp) fun j a v b ha hv hb => ?_
          rw [List.getElem?_map] at ha hb
          cases hj : hs[j]? with
          | none => rw [hj] at ha; cases ha
          | some h =>
            rw [hj] at ha hb
            simp at ha hb
            subst ha; subst hb
            obtain ⟨a', v', q1, q2, q3, _⟩ := hrepj j h hj
            rw [hv] at q2; cases q2
            exact q3
        · intro j b hj
          obtain ⟨h, hj, hb⟩ := hbs j b hj
          obtain ⟨a', v', _, _, _, q4, _⟩ := hrepj j h hj
          obtain ⟨id, hid, hl⟩ := q4 b hb
          exact ⟨(hm.live id b hl).1, p5 id b (hexm h (List.mem_of_getElem? hj) id hid) hl⟩
        · intro j j' b hj hj'
          obtain ⟨h, hj, hb⟩ := hbs j b hj
          obtain ⟨h', hj', hb'⟩ := hbs j' b hj'
          obtain ⟨a1, v1, z1, _, _, q4, q5, _⟩ := hrepj j h hj
          obtain ⟨a2, v2, z2, _, _, q4', q5', _⟩ := hrepj j' h' hj'
          obtain ⟨id, hid, hl⟩ := q4 b hb
          obtain ⟨id', hid', hl'⟩ := q4' b hb'
          have := hm.one id id' b hl hl'
          subst this
          by_cases e : j = j'
          · exact e
          · exact (exOk_spec hex j j' _ _ e (exAll_get z1 hj) (exAll_get z2 hj') id hid (by simp [q5' id hid'])).elim
        -- behind the call
        rintro e w' ⟨v', rfl, S', arr, rfl, hfr, hS1, hS2, hrv, hio⟩
        let comps := lvs (Sig.ks ⟨zipOwn own ks, (hs.flatMap Hand.io).map (fun x : Nat × K => x.2)⟩) rr
        have hzl : ∀ (o : List Bool) (l : List K), (zipOwn o l).length = l.length := by
          intro o l; induction l generalizing o with
          | nil => cases o <;> rfl
          | cons a r ih => cases o <;> simp [zipOwn, ih]
        have hzk : ∀ (o : List Bool) (l : List K), (zipOwn o l).map (·.2) = l := by
          intro o l; induction l generalizing o with
          | nil => cases o <;> rfl
          | cons a r ih => cases o <;> simp [zipOwn, ih]
        simp only [hzl] at hrv hio
        have hiof : ∀ h ∈ hs, (∃ id k x, h.io = [(id, k)] ∧ h.mv = [] ∧ h.arg = .val false [.io k x]) ∨ (h.io = [] ∧ (∀ k x, h.arg ≠ .val false [.io k x]) ∧ (h.mv ≠ [] → ∃ k xs, h.arg = .val false [.mv k xs])) := by
          intro h hh1
          obtain ⟨j, hj⟩ := hmem h hh1
          obtain ⟨_, _, _, _, _, _, _, q⟩ := hinfo j h hj
          exact handArg_io q
        have hget2 := resIo_get hs (comps.drop ks.length) hiof hio
        let I : Nat → Prop := fun id => id ∈ hs.flatMap Hand.excl
        let S2 : Nat → Prop := fun b => ((ks.any K.rows || anyPtr args) = true ∧ S' b) ∨ ((ks.any K.rows || anyPtr args) = false ∧ c1.S b)
        let c2 : Cx := { te := c.te, w := w', S := S2, β := c.β, hp := hpU (ioUpd (hs.flatMap Hand.io) (comps.drop ks.length) ++ deads (hs.flatMap Hand.mv)) c1.hp }
        have hmvB : ∀ b, mvB (hs.map Hand.arg) (hs.map (Hand.blk c.β)) b → ∃ id, I id ∧ Live c id b ∧ ∃ h ∈ hs, id ∈ h.mv := by
          rintro b ⟨j, k, xs, h1, h2⟩
          obtain ⟨h, hj, hb⟩ := hbs j b h2
          rw [List.getElem?_map, hj] at h1
          simp at h1
          obtain ⟨_, _, _, _, _, q4, _, q6, _, q8, _⟩ := hrepj j h hj
          obtain ⟨id, hid, hl⟩ := q4 b hb
          refine ⟨id, hexm h (List.mem_of_getElem? hj) id hid, hl, h, List.mem_of_getElem? hj, ?_⟩
          simp only [Hand.excl, List.mem_append, List.mem_map] at hid
          rcases hid with hid | ⟨p, hp1, rfl⟩
          · exact hid
          · obtain ⟨cs, x, _, _, _, e9, _⟩ := q8 p.1 p.2 hp1
            rw [h1] at e9; simp at e9
        have hlive1 : ∀ id b, I id → (Live c1 id b ↔ Live c id b) := by
          intro id b hid
          constructor
          · rintro ⟨q1, o, q2, q3⟩; exact ⟨by rw [← e2]; exact q1, o, by rw [← p6 id hid]; exact q2, q3⟩
          · rintro ⟨q1, o, q2, q3⟩; exact ⟨by rw [e2]; exact q1, o, by rw [p6 id hid]; exact q2, q3⟩
        have hin : ∀ id, I id → (∃ k, (id, k) ∈ hs.flatMap Hand.io) ∨ (id ∈ hs.flatMap Hand.mv ∧ ∀ k, (id, k) ∉ hs.flatMap Hand.io) := by
          intro id hid
          obtain ⟨h, hh1, hh2⟩ := List.mem_flatMap.1 hid
          simp only [Hand.excl, List.mem_append, List.mem_map] at hh2
          rcases hh2 with hh2 | ⟨p, hp1, rfl⟩
          · right
            refine ⟨List.mem_flatMap.2 ⟨h, hh1, hh2⟩, fun k hk => ?_⟩
            obtain ⟨j, hj⟩ := hmem h hh1
            obtain ⟨_, _, _, _, _, _, _, _, q7, _, _⟩ := hrepj j h hj
            obtain ⟨k1, xs, gen, hist, e9⟩ := q7 id hh2
            obtain ⟨h', hh1', hh2'⟩ := List.mem_flatMap.1 hk
            obtain ⟨j', hj'⟩ := hmem h' hh1'
            obtain ⟨_, _, _, _, _, _, _, _, _, q8, _⟩ := hrepj j' h' hj'
            obtain ⟨cs, x, e10, _⟩ := q8 id k hh2'
            rw [e9] at e10; cases e10
          · left
            exact ⟨p.2, List.mem_flatMap.2 ⟨h, hh1, hp1⟩⟩
        have hc2hp : ∀ id, ¬ I id → c2.hp id = c1.hp id := by
          intro id hid
          show hpU _ c1.hp id = _
          unfold hpU
          rw [hget_append]
          rcases hget2 id with ⟨cs, b, k, q1, _⟩ | ⟨_, q2⟩
          · obtain ⟨h, hh1, hh2⟩ := List.mem_flatMap.1 q1
            exact (hid (hexm h hh1 id (by simp only [Hand.excl, List.mem_append, List.mem_map]; exact .inr ⟨(id, k), hh2, rfl⟩))).elim
          · rw [q2, hget_deads, if_neg]
            intro hmm
            obtain ⟨h, hh1, hh2⟩ := List.mem_flatMap.1 hmm
            exact hid (hexm h hh1 id (by simp only [Hand.excl, List.mem_append]; exact .inl hh2))
        have hc2I : ∀ id, I id → c2.hp id = some (.box []) ∨ ∃ cs b, c2.hp id = some (.box cs) ∧ cs ≠ [] ∧ c.β id = some b ∧ BoxArg c.te w' S' b cs ∧ ¬ S' b ∧ ∃ k, (id, k) ∈ hs.flatMap Hand.io := by
          intro id hid
          rcases hget2 id with ⟨cs, b, k, q1, q2, q3, q4, q5, q6⟩ | ⟨q1, q2⟩
          · right
            refine ⟨cs, b, ?_, ?_, q3, q4, q5, k, q1⟩
            · show hpU _ c1.hp id = _
              unfold hpU
              rw [hget_append, q2]
            · rintro rfl
              have := size_pos k
              simp at q6; omega
          · left
            rcases hin id hid with ⟨k, hk⟩ | ⟨hmm, _⟩
            · exact (q1 k hk).elim
            · show hpU _ c1.hp id = _
              unfold hpU
              rw [hget_append, q2, hget_deads, if_pos hmm]
        have hflagio : ∀ id k, (id, k) ∈ hs.flatMap Hand.io → (ks.any K.rows || anyPtr args) = true := by
          intro id k hk
          cases hfl : (ks.any K.rows || anyPtr args) with
          | true => rfl
          | false =>
            obtain ⟨h, hh1, hh2⟩ := List.mem_flatMap.1 hk
            rw [hflag hfl h hh1] at hh2; simp at hh2
        have hSS : ∀ b, (ks.any K.rows || anyPtr args) = true → S' b → S2 b := fun b h1 h2 => .inl ⟨h1, h2⟩
        have hclosed : (ks.any K.rows || anyPtr args) = true → ∀ s v, RepS (clC c.te w' S') s v → RepS c2 s v := fun hfl s v hsv => closed_rep (c := c2) rfl (fun _ _ => rfl) (fun b hb => hSS b hfl hb) hsv
        have ht : Turns w0 M c1 I c2 := by
          refine ⟨by show c.te = c1.te; exact x1.te.symm, by rw [e1]; exact hfr.os, by rw [e1]; exact hfr.tape, by rw [e1]; exact hfr.output, by rw [e1]; exact hfr.size, fun b hb hnl => ?_, fun b hb => ?_, fun b hb => ?_, fun id hid => ⟨hc2hp id hid, by show c.β id = c1.β id; rw [e2]⟩, fun id o hid ho => ?_, fun id b hid hl => ?_, fun id s v hid hsi hrs => ?_⟩
          · rw [e1]
            rw [e1] at hb
            refine hfr.block b hb fun hbm => ?_
            obtain ⟨j, hj⟩ := List.mem_iff_getElem?.1 hbm
            obtain ⟨h, hj, hb2⟩ := hbs j b hj
            obtain ⟨_, _, _, _, _, q4, _⟩ := hrepj j h hj
            obtain ⟨id, hid, hl⟩ := q4 b hb2
            exact hnl id (hexm h (List.mem_of_getElem? hj) id hid) ((hlive1 id b (hexm h (List.mem_of_getElem? hj) id hid)).2 hl)
          · rcases p7 with ⟨hfl, hsa⟩ | ⟨hfl, hsa⟩
            · exact .inl ⟨hfl, hS1 b ((hsa b).2 hb)⟩
            · exact .inr ⟨hfl, hb⟩
          · rcases p7 with ⟨hfl, hsa⟩ | ⟨hfl, hsa⟩
            · rcases hb with ⟨_, hb⟩ | ⟨hfl', _⟩
              · obtain ⟨q1, q2⟩ := hS2 b hb
                refine ⟨q1, ?_⟩
                rcases q2 with q2 | q2 | q2
                · exact .inl ((hsa b).1 q2)
                · exact .inr (.inr (by rw [e1]; exact q2))
                · obtain ⟨id, hid, hl, _⟩ := hmvB b q2
                  exact .inr (.inl ⟨id, hid, (hlive1 id b hid).2 hl⟩)
              · rw [hfl] at hfl'; cases hfl'
            · rcases hb with ⟨hfl', _⟩ | ⟨_, hb⟩
              · rw [hfl] at hfl'; cases hfl'
              · exact ⟨Nat.lt_of_lt_of_le (m1.below b hb) (by rw [e1]; exact hfr.size), .inl hb⟩
          · rcases hc2I id hid with q | ⟨cs, b, q1, q2, q3, q4, q5, k, q6⟩
            · rw [q] at ho; cases ho
              intro hne; exact (hne rfl).elim
            · rw [q1] at ho; cases ho
              intro _
              obtain ⟨arr2, t1, t2⟩ := q4
              exact ⟨b, arr2, q3, t1, t2.mono fun s _ v => hclosed (hflagio id k q6) s v⟩
          · rcases hc2I id hid with q | ⟨cs, b', q1, q2, q3, q4, q5, k, q6⟩
            · obtain ⟨_, o, z1, z2⟩ := hl
              rw [q] at z1; cases z1; simp [Obj.live] at z2
            · obtain ⟨z0, o, z1, z2⟩ := hl
              have z0' : c.β id = some b := z0
              rw [q3] at z0'; cases z0'
              refine ⟨?_, ?_⟩
              · rintro (⟨_, hb⟩ | ⟨hfl, _⟩)
                · exact q5 hb
                · rw [hflagio id k q6] at hfl; cases hfl
              · rw [hlive1 id _ hid]
                obtain ⟨h, hh1, hh2⟩ := List.mem_flatMap.1 q6
                obtain ⟨j, hj⟩ := hmem h hh1
                obtain ⟨_, _, _, _, _, _, _, _, _, q8, _⟩ := hrepj j h hj
                obtain ⟨cs0, x, e10, e11, _⟩ := q8 id k hh2
                exact ⟨q3, _, e10, by simp [Obj.live, e11]⟩
          · -- values that name it
            rcases hc2I id hid with q | ⟨cs, b', q1, q2, q3, q4, q5, k, q6⟩
            · cases s <;> simp only [S.ids, List.cons.injEq, and_true, reduceCtorEq] at hsi
              case mp j => subst hsi; exact ⟨hrs.1, _, q, fun k es e => by cases e⟩
              case vw j g => subst hsi; exact ⟨hrs.1, _, q, fun k xs gen hist frz e => by cases e⟩
              case pv j g off len => subst hsi; exact ⟨hrs.1, _, q, fun k xs gen hist frz e => by cases e⟩
              case ptr j g i p =>
                subst hsi
                obtain ⟨z0, oo, z1, z2, _⟩ := hrs
                exact ⟨z0, _, q, z2, fun cs e hne => by (cases e; exact (hne rfl).elim), fun k xs gen hist frz e => by cases e⟩
            · obtain ⟨h, hh1, hh2⟩ := List.mem_flatMap.1 q6
              obtain ⟨j0, hj0⟩ := hmem h hh1
              obtain ⟨_, _, _, _, _, _, _, _, _, q8, _⟩ := hrepj j0 h hj0
              obtain ⟨cs0, x, e10, e11, _⟩ := q8 id k hh2
              have e10' : c1.hp id = some (.box cs0) := by rw [p6 id hid]; exact e10
              cases s <;> simp only [S.ids, List.cons.injEq, and_true, reduceCtorEq] at hsi
              case mp j => subst hsi; exact ⟨hrs.1, _, q1, fun k es e => by cases e⟩
              case vw j g => subst hsi; exact ⟨hrs.1, _, q1, fun k xs gen hist frz e => by cases e⟩
              case pv j g off len => subst hsi; exact ⟨hrs.1, _, q1, fun k xs gen hist frz e => by cases e⟩
              case ptr j g i p =>
                subst hsi
                obtain ⟨z0, oo, z1, z2, z3, _⟩ := hrs
                rw [e10'] at z1; cases z1
                obtain ⟨b2, y1, y2, y3⟩ := z3 cs0 rfl e11
                exact ⟨z0, _, q1, z2, fun cs e hne => ⟨b2, by show c.β j = _; rw [← e2]; exact y1, y2, y3⟩, fun k xs gen hist frz e => by cases e⟩
        have hm2 := ht.mem m1
        have hx2 := x1.trans (ht.ext m1)
        have hhp2 : ∀ (uo : Upd) id, hpU uo c2.hp id = hpU (uo ++ (ioUpd (hs.flatMap Hand.io) (comps.drop ks.length)) ++ (deads (hs.flatMap Hand.mv) ++ u)) c.hp id := by
          intro uo id
          show hpU uo (hpU _ c1.hp) id = _
          rw [p1]
          have a1 : hpU (ioUpd (hs.flatMap Hand.io) (comps.drop ks.length) ++ deads (hs.flatMap Hand.mv)) (hpU u c.hp) = hpU ((ioUpd (hs.flatMap Hand.io) (comps.drop ks.length) ++ deads (hs.flatMap Hand.mv)) ++ u) c.hp := funext fun id => hpU_append _ _ _ id
          rw [a1, hpU_append]
          simp only [List.append_assoc]
        -- what the results say
        have hgood2 : ∀ p ∈ comps.take ks.length, ∀ s ∈ p.2, ∀ v, RepS (clC c.te w' S') s v → RepS c2 s v := by
          intro p hp1 s hs1 v hsv
          cases hfl : (ks.any K.rows || anyPtr args) with
          | true => exact hclosed hfl s v hsv
          | false =>
            have hfl' : ks.any K.rows = false := by simp only [Bool.or_eq_false_iff] at hfl; exact hfl.1
            have hio0 : (hs.flatMap Hand.io) = [] := by
              rw [List.flatMap_eq_nil_iff]
              exact hflag hfl
            have hsc : scal s = true := by
              refine lvs_scal _ rr ?_ p (List.mem_of_mem_take hp1) s hs1
              show (Sig.ks ⟨zipOwn own ks, (hs.flatMap Hand.io).map (fun x : Nat × K => x.2)⟩).any K.rows = false
              rw [Sig.ks_eq]; simp only [hzk, hio0, List.map_nil, List.append_nil]
              exact hfl'
            exact scal_rep (c := clC c.te w' S') (c' := c2) rfl hsc hsv
        have hpost : (fun r => let p := postOf tup dst own ks.length (hs.flatMap Hand.io) (lvs _ r); (p.1, p.2 ++ (deads (hs.flatMap Hand.mv) ++ u))) rr = ((postOf tup dst own ks.length (hs.flatMap Hand.io) comps).1, (postOf tup dst own ks.length (hs.flatMap Hand.io) comps).2 ++ (deads (hs.flatMap Hand.mv) ++ u)) := rfl
        have hval : ∀ (c3 : Cx) (l : List (Bool × List S)), LR (PairR c3) l arr.toList → RepV c3 (bif tup then .tup l else oneV l) (tupA arr) := by
          intro c3 l hl
          have hln := hl.length
          have hrl : arr.toList.length = ks.length := by
            rw [resV_len _ _ _ hrv, hzl]
          cases htp : tup with
          | true =>
            rw [htp] at htup
            have : arr.toList.length ≠ 1 := by
              rw [hrl]; intro h1; rw [h1] at htup; simp at htup
            simp only [cond_true]
            rw [tupA_many this]
            exact ⟨arr, rfl, hl⟩
          | false =>
            rw [htp] at htup
            have h1 : ks.length = 1 := by
              have : Nat.beq ks.length 1 = true := by
                cases hq : Nat.beq ks.length 1 with
                | true => rfl
                | false => rw [hq] at htup; simp at htup
              exact Nat.eq_of_beq_eq_true this
            simp only [cond_false]
            match l, hal : arr.toList, hl, hln, hrl with
            | [(g, cs)], [x], hl, _, _ =>
              rw [tupA_one hal]
              exact pair_iff.1 hl.1
            | [], [], _, _, hrl => simp at hrl; omega
            | _ :: _ :: _, _, _, hln, hrl => simp at hln; omega
        -- the two ways
        cases hor : ownRes dst own (comps.take ks.length) with
        | none =>
          refine ⟨tupA arr, c2, rfl, rfl, hm2, hx2, ?_, ?_⟩
          · rw [hpost]
            have : (postOf tup dst own ks.length (hs.flatMap Hand.io) comps).2 = ioUpd (hs.flatMap Hand.io) (comps.drop ks.length) := by rw [postOf_none hor]
            rw [this]
            funext id
            have := hhp2 [] id
            rw [hpU_nil] at this
            simpa using this
          · rw [hpost]
            have : (postOf tup dst own ks.length (hs.flatMap Hand.io) comps).1 = .undef := by rw [postOf_none hor]
            rw [this]; trivial
        | some q =>
          obtain ⟨l, uo⟩ := q
          have hp1' : (postOf tup dst own ks.length (hs.flatMap Hand.io) comps).1 = (bif tup then .tup l else oneV l) := by rw [postOf_some hor]
          have hp2' : (postOf tup dst own ks.length (hs.flatMap Hand.io) comps).2 = uo ++ ioUpd (hs.flatMap Hand.io) (comps.drop ks.length) := by rw [postOf_some hor]
          rcases ownRes_rep ks dst own _ l uo arr.toList hor hrv with ⟨rfl, hk⟩ | ⟨d, k, xs, ob, v, rfl, rfl, q3, q4, ⟨pp, q5, q6⟩, q7⟩
          · refine ⟨tupA arr, c2, rfl, rfl, hm2, hx2, ?_, ?_⟩
            · rw [hpost, hp2']
              funext id
              have := hhp2 [] id
              rw [hpU_nil] at this
              simpa using this
            · rw [hpost, hp1']
              exact hval c2 l (hk c2 hgood2)
          · -- a row of one's own
            have hfl : (ks.any K.rows || anyPtr args) = true := by
              cases hfl : (ks.any K.rows || anyPtr args) with
              | true => rfl
              | false =>
                exfalso
                have hfl' : ks.any K.rows = false := by simp only [Bool.or_eq_false_iff] at hfl; exact hfl.1
                have hio0 : (hs.flatMap Hand.io) = [] := by
                  rw [List.flatMap_eq_nil_iff]
                  exact hflag hfl
                have : scal (.sl k xs) = true := by
                  refine lvs_scal _ rr ?_ pp (List.mem_of_mem_take q5) _ q6
                  show (Sig.ks ⟨zipOwn own ks, (hs.flatMap Hand.io).map (fun x : Nat × K => x.2)⟩).any K.rows = false
                  rw [Sig.ks_eq]; simp only [hzk, hio0, List.map_nil, List.append_nil]
                  exact hfl'
                simp [scal] at this
            have hownpos : (Nat.beq (anyOwn own) 0) = false := by
              have : ∀ (d : Option Nat) (own : List Bool) (cm l : List (Bool × List S)) (u : Upd), ownRes d own cm = some (l, u) → u ≠ [] → anyOwn own ≠ 0 := by
                intro d own
                induction own generalizing d with
                | nil =>
                  intro cm
                  induction cm with
                  | nil => intro l u h hu; simp [ownRes] at h; exact (hu h.2).elim
                  | cons p r ih =>
                    intro l u h hu
                    simp only [ownRes] at h
                    split at h
                    · rename_i l1 u1 e9
                      simp only [Option.some.injEq, Prod.mk.injEq] at h
                      exact ih l1 u1 e9 (by rw [h.2]; exact hu)
                    · cases h
                | cons o os ih =>
                  intro cm l u h hu
                  cases o with
                  | true => simp [anyOwn]
                  | false =>
                    cases cm with
                    | nil => simp [ownRes] at h; exact (hu h.2).elim
                    | cons p r =>
                      simp only [ownRes] at h
                      split at h
                      · rename_i l1 u1 e9
                        simp only [Option.some.injEq, Prod.mk.injEq] at h
                        have := ih d r l1 u1 e9 (by rw [h.2]; exact hu)
                        simpa [anyOwn] using this
                      · cases h
              have := this _ _ _ _ _ hor (by simp)
              cases hq : Nat.beq (anyOwn own) 0 with
              | true => exact (this (Nat.eq_of_beq_eq_true hq)).elim
              | false => rfl
            rw [hownpos] at hfrd
            simp only [Bool.false_or] at hfrd
            obtain ⟨d', hd'⟩ := Option.isSome_iff_exists.1 hfrd
            obtain ⟨z1, z2⟩ := fresh_some hd'
            cases z1
            have hcd := hf d rfl z2
            have hc2d : c2.hp d = none := by
              have hnI : ¬ I d := by
                intro hid
                rcases hin d hid with ⟨k', hk'⟩ | ⟨hmm, _⟩
                · obtain ⟨h, hh1, hh2⟩ := List.mem_flatMap.1 hk'
                  obtain ⟨j, hj⟩ := hmem h hh1
                  obtain ⟨_, _, _, _, _, _, _, _, _, q8, _⟩ := hrepj j h hj
                  obtain ⟨cs, x, e10, _⟩ := q8 d k' hh2
                  rw [hcd] at e10; cases e10
                · obtain ⟨h, hh1, hh2⟩ := List.mem_flatMap.1 hmm
                  obtain ⟨j, hj⟩ := hmem h hh1
                  obtain ⟨_, _, _, _, _, _, _, _, q7', _, _⟩ := hrepj j h hj
                  obtain ⟨k1, xs1, gen, hist, e9⟩ := q7' d hh2
                  rw [hcd] at e9; cases e9
              rw [hc2hp d hnI, p1]
              unfold hpU
              split
              · rename_i o ho
                rw [hfl] at hu
                simp only [cond_true] at hu
                obtain ⟨k', xs', gen', hist', frz', t1, _⟩ := frzU_get hu ho
                rw [z2] at t1; cases t1
              · exact hcd
            let β' : Nat → Option Nat := fun j => if j = d then ob else c2.β j
            have hβ' : ∀ id, id ≠ d → β' id = c2.β id := fun id hid => by simp [β', hid]
            let c3 : Cx := { c2 with β := β', hp := upd c2.hp d (.row k xs 0 [] false) }
            have hβd : c3.β d = ob := by simp [c3, β']
            have hm3 : Mem w0 M c3 := by
              refine Mem.name hm2 hc2d hβ' ?_ ?_
              · unfold RepO
                show match c3.β d with | none => _ | some b => _
                rw [hβd]
                cases ob with
                | none => exact q3.2
                | some b =>
                  obtain ⟨cap, ar, a, y1, y2, y3, y4, y5, y6⟩ := q3
                  exact ⟨⟨ar, y4.blk, y5, fun i x hx => by
                    obtain ⟨vs', t1, t2⟩ := y6 i x hx
                    exact ⟨vs', RepT.mono (w := w') (fun _ _ => rfl) (fun b hb => hSS b hfl hb) t1, t2⟩⟩, fun _ => ⟨ar, y4⟩, fun h => by cases h⟩
              · intro b hb _
                have hb' : ob = some b := by rw [← hβd]; exact hb
                obtain ⟨⟨y1, y2⟩, y3⟩ := q4 b hb'
                have hns : ¬ S2 b := by
                  rintro (⟨_, z⟩ | ⟨z, _⟩)
                  · exact y3 z
                  · rw [hfl] at z; cases z
                refine ⟨y1, hns, ?_, fun id hl => ?_⟩
                · rcases y2 with y2 | y2
                  · exact .inl (Nat.le_trans hm.fr.size y2)
                  · obtain ⟨id, _, hl, _⟩ := hmvB b y2
                    exact (hm.live id b hl).2.2
                · -- nobody else names it
                  have hlc : Live c id b ∧ (∀ h ∈ hs, id ∉ h.mv) := by
                    by_cases hid : I id
                    · rcases hc2I id hid with q | ⟨cs, b', q1, q2, q3', q4', q5', k', q6'⟩
                      · obtain ⟨_, o, z1, z2⟩ := hl
                        rw [q] at z1; cases z1; simp [Obj.live] at z2
                      · obtain ⟨h1, h2⟩ := ht.live id b hid hl
                        refine ⟨(hlive1 id b hid).1 h2, fun h hh1 hh2 => ?_⟩
                        obtain ⟨j, hj⟩ := hmem h hh1
                        obtain ⟨_, _, _, _, _, _, _, _, q7', _, _⟩ := hrepj j h hj
                        obtain ⟨k1, xs1, gen, hist, e9⟩ := q7' id hh2
                        obtain ⟨h', hh1', hh2'⟩ := List.mem_flatMap.1 q6'
                        obtain ⟨j', hj'⟩ := hmem h' hh1'
                        obtain ⟨_, _, _, _, _, _, _, _, _, q8, _⟩ := hrepj j' h' hj'
                        obtain ⟨cs', x, e10, _⟩ := q8 id k' hh2'
                        rw [e9] at e10; cases e10
                    · obtain ⟨z0, o, z1, z2⟩ := hl
                      rw [hc2hp id hid] at z1
                      have hl1 : Live c1 id b := ⟨by rw [e2]; exact z0, o, z1, z2⟩
                      refine ⟨?_, fun h hh1 hh2 => hid (hexm h hh1 id (by simp only [Hand.excl, List.mem_append]; exact .inl hh2))⟩
                      refine ⟨z0, ?_⟩
                      rw [p1] at z1
                      unfold hpU at z1
                      split at z1
                      · rename_i o' ho'
                        rw [hfl] at hu
                        simp only [cond_true] at hu
                        obtain ⟨k', xs', gen', hist', frz', t1, rfl⟩ := frzU_get hu ho'
                        simp only [Option.some.injEq] at z1
                        subst z1
                        simp [Obj.live] at z2
                      · exact ⟨o, z1, z2⟩
                  obtain ⟨hlc, hnm⟩ := hlc
                  rcases y2 with y2 | y2
                  · have := (hm.live id b hlc).1; omega
                  · obtain ⟨id', hid', hl', h, hh1, hh2⟩ := hmvB b y2
                    have := hm.one id id' b hlc hl'
                    subst this
                    exact hnm h hh1 hh2
            have hx3 : Ext c2 c3 := Ext.name (c := c2) (o := .row k xs 0 [] false) hc2d hβ'
            refine ⟨tupA arr, c3, rfl, rfl, hm3, hx2.trans hx3, ?_, ?_⟩
            · rw [hpost, hp2']
              funext id
              rw [← hhp2 [(d, .row k xs 0 [] false)] id, hpU_cons, hpU_nil]
            · rw [hpost, hp1']
              refine hval c3 l (q7 c3 (fun p hp1 s hs1 v hsv => hx3.rep (hgood2 p hp1 s hs1 v hsv)) ?_)
              refine ⟨?_, .row k xs 0 [] false, by simp [c3, upd], fun k' xs' gen' hist' frz' e' => ?_⟩
              · unfold RowArg at q3
                cases ob with
                | none => rw [q3.1]; rfl
                | some b => obtain ⟨cap, ar, a, y1, _⟩ := q3; rw [y1]; rfl
              · cases e'
                refine ⟨Nat.le_refl _, fun _ => ?_, fun h => (h rfl).elim⟩
                simp only [VwNow]
                rw [hβd]
                cases ob with
                | none =>
                  obtain ⟨y1, rfl⟩ := q3
                  exact ⟨y1, by simp⟩
                | some b =>
                  obtain ⟨cap, ar, a, y1, y2, y3, y4, y5, y6⟩ := q3
                  exact ⟨cap, ar, a, y1, y2, y4.blk, by simp, fun hc0 => ⟨by simpa using (y3 hc0).1, by simpa using (y3 hc0).2⟩⟩
      · cases h
  · cases h
end
end Go.Eng
