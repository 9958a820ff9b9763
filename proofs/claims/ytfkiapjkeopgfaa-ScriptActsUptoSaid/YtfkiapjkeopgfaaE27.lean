/- A function's call. -/
import Derived.Test.YtfkiapjkeopgfaaE26
set_option linter.all false
set_option linter.unusedVariables false
set_option linter.unusedSimpArgs false
set_option linter.deprecated false
namespace Go.Eng
open Go.RowKit
theorem LR3.length {α β γ : Type} {R : α → β → γ → Prop} : ∀ {l : List α} {m : List β} {n : List γ}, LR3 R l m n → l.length = m.length ∧ l.length = n.length
  | [], [], [], _ => ⟨rfl, rfl⟩
  | _ :: _, _ :: _, _ :: _, h => by have := LR3.length h.2; exact ⟨congrArg (· + 1) this.1, congrArg (· + 1) this.2⟩
  | [], [], _ :: _, h => h.elim
  | [], _ :: _, _, h => by cases h
  | _ :: _, [], _, h => by cases h
  | _ :: _, _ :: _, [], h => h.elim
theorem LR3.get {α β γ : Type} {R : α → β → γ → Prop} : ∀ {l : List α} {m : List β} {n : List γ}, LR3 R l m n → ∀ (j : Nat) a, l[j]? = some a → ∃ b c, m[j]? = some b ∧ n[j]? = some c ∧ R a b c
  | a :: _, b :: _, c :: _, h, j, x, hx => by
    cases j with
    | zero => simp at hx; subst hx; exact ⟨b, c, rfl, rfl, h.1⟩
    | succ j => simpa using LR3.get h.2 j x (by simpa using hx)
  | [], [], [], _, j, a, h => by simp at h
  | [], [], _ :: _, h, _, _, _ => h.elim
  | [], _ :: _, _, h, _, _, _ => by cases h
  | _ :: _, [], _, h, _, _, _ => by cases h
  | _ :: _, _ :: _, [], h, _, _, _ => h.elim
theorem leaves_ne : ∀ (k : K) (x : k.T), leaves k x ≠ []
  | .int _, _, h => by simp [leaves] at h
  | .bool, _, h => by simp [leaves] at h
  | .str, _, h => by simp [leaves] at h
  | .err, _, h => by simp [leaves] at h
  | .fn, _, h => by simp [leaves] at h
  | .slice _, _, h => by simp [leaves] at h
  | .prod a b, x, h => by
    simp only [leaves] at h
    exact leaves_ne a x.1 (List.append_eq_nil_iff.1 h).1
  | .strct a, x, h => leaves_ne a x h
/-- What an argument's slot holds at first. -/
def initV (t : Nat) : AV → AV
  | .val false [.mv _ _] => .val false [.vw t 0]
  | .val false [.io _ _] => .val false [.ptr t 0 0 []]
  | a => a
section
variable {P : Program} {A : Ann} {Gl : Nat → Option Go.Obj} {C : CallF}
def ctx0 (te : TypeId) (w : World) (Sb : Nat → Prop) (args : List AV) (bs : List (Option Nat)) : Cx := ⟨te, w, Sb, fun j => (bs[j]?).join, hget (initH 0 args)⟩
theorem argRel_plain {te : TypeId} {w : World} {Sb : Nat → Prop} {a : AV} {v : Value} {b : Option Nat} (h1 : ∀ k xs, a = .val false [.mv k xs] → False) (h2 : ∀ k x, a = .val false [.io k x] → False) (h : ArgRel te w Sb a v b) : b = none ∧ RepV (clC te w Sb) a v := by
  unfold ArgRel at h
  split at h
  · exact (h1 _ _ rfl).elim
  · exact (h2 _ _ rfl).elim
  · exact h
theorem entry_ok {te : TypeId} {w : World} {Sb : Nat → Prop} {args : List AV} {vs : Array Value} {bs : List (Option Nat)} {n : Nat} (hG : Glob Gl Sb w) (hbel : ∀ b, Sb b → b < w.heap.size) (hA : LR3 (ArgRel te w Sb) args vs.toList bs)
    (hbs : ∀ (j b : Nat), bs[j]? = some (some b) → b < w.heap.size ∧ ¬ Sb b) (hinj : ∀ (j j' b : Nat), bs[j]? = some (some b) → bs[j']? = some (some b) → j = j') (hn : args.length ≤ n) :
    Ok te Gl w ⟨fun b => some b ∈ bs, Sb⟩ n (loOf (ioIds 0 args)) (vs ++ Array.replicate (n - vs.size) undef) ⟨initE 0 args, initH 0 args⟩ { tmps := vs ++ Array.replicate (n - vs.size) undef, defers := [] } w := by
  obtain ⟨l1, l2⟩ := hA.length
  have hj : ∀ (t : Nat) (a : AV), args[t]? = some a → ∃ v b, vs.toList[t]? = some v ∧ bs[t]? = some b ∧ ArgRel te w Sb a v b := fun t a h => hA.get t a h
  have hβ : ∀ (t b : Nat), (ctx0 te w Sb args bs).β t = some b → bs[t]? = some (some b) := by
    intro t b h
    simp only [ctx0] at h
    cases hq : bs[t]? with
    | none => rw [hq] at h; cases h
    | some o => rw [hq] at h; simp at h; rw [h]
  have hβ' : ∀ (t : Nat) (o : Option Nat), bs[t]? = some o → (ctx0 te w Sb args bs).β t = o := by
    intro t o h; simp only [ctx0, h]; rfl
  have hcl : ∀ {s : S} {v : Value}, RepS (clC te w Sb) s v → RepS (ctx0 te w Sb args bs) s v := fun h => closed_rep rfl (fun _ _ => rfl) (fun _ h => h) h
  refine ⟨ctx0 te w Sb args bs, rfl, rfl, rfl, ⟨⟨rfl, rfl, rfl, Nat.le_refl _, fun _ _ _ => rfl⟩, hbel, fun id o ho => ?_, fun id b hl => ?_, fun id id' b hl hl' => ?_, fun b hb => .inl hb, fun b hb => hb⟩, ⟨?_, rfl, fun t => ?_⟩, hG, fun j hj => rfl⟩
  · obtain ⟨_, h⟩ := hget_init args 0 id o ho
    simp only [Nat.sub_zero] at h
    rcases h with ⟨k, xs, e, rfl⟩ | ⟨k, x, e, rfl⟩
    · obtain ⟨v, b, e1, e2, e3⟩ := hj id _ e
      simp only [ArgRel, RowArg] at e3
      simp only [RepO, hβ' id b e2]
      cases b with
      | none => exact e3.2
      | some b =>
        obtain ⟨cap, arr, a, q1, q2, q3, q4, q5, q6⟩ := e3
        exact ⟨⟨arr, q4.blk, q5, fun i x hx => q6 i x hx⟩, fun _ => ⟨arr, q4⟩, fun h => by cases h⟩
    · obtain ⟨v, b, e1, e2, e3⟩ := hj id _ e
      obtain ⟨b', rfl, e4, arr, e5, e6⟩ := e3
      intro _
      exact ⟨b', arr, hβ' id _ e2, e5, e6.mono fun _ _ _ => hcl⟩
  · have := hβ id b hl.1
    obtain ⟨h1, h2⟩ := hbs id b this
    exact ⟨h1, h2, .inr (List.mem_of_getElem? this)⟩
  · exact hinj id id' b (hβ id b hl.1) (hβ id' b hl'.1)
  · have hvl : vs.size = args.length := by rw [← Array.length_toList]; exact l1.symm
    simp only [Array.size_append, Array.size_replicate]; omega
  · have hvl : vs.size = args.length := by rw [← Array.length_toList]; exact l1.symm
    show RepV _ (look (initE 0 args) t) _
    rw [look_init]
    rw [if_neg (Nat.not_lt_zero t), Nat.sub_zero]
    cases hq : args[t]? with
    | none => trivial
    | some a =>
      obtain ⟨v, b, e1, e2, e3⟩ := hj t a hq
      have hlt : t < vs.size := by have := (List.getElem?_eq_some_iff.1 hq).1; omega
      have hv : (vs ++ Array.replicate (n - vs.size) undef).getD t undef = v := by
        rw [Array.getD_eq_getD_getElem?, Array.getElem?_append_left hlt, ← Array.getElem?_toList, e1]; rfl
      show RepV _ _ ((vs ++ Array.replicate (n - vs.size) undef).getD t undef)
      rw [hv]
      rcases arg_cases a with ⟨k, xs, rfl⟩ | ⟨k, x, rfl⟩ | ⟨q1, q2⟩
      · simp only [ArgRel, RowArg] at e3
        have hp : (ctx0 te w Sb args bs).hp t = some (.row k xs 0 [] false) := (hget_init_of args 0 t _ (Nat.zero_le _) (by simpa using hq)).1 k xs rfl
        refine repV_one ⟨?_, _, hp, fun k' xs' gen hist frz e => ?_⟩
        · cases b with
          | none => rw [e3.1]; rfl
          | some b => obtain ⟨cap, arr, a, q1, _⟩ := e3; rw [q1]; rfl
        · cases e
          refine ⟨Nat.le_refl _, fun _ => ?_, fun h => (h rfl).elim⟩
          unfold VwNow
          rw [hβ' t b e2]
          cases b with
          | none => obtain ⟨rfl, rfl⟩ := e3; exact ⟨rfl, rfl, rfl, rfl⟩
          | some b =>
            obtain ⟨cap, arr, a, q1, q2, q3, q4, q5, q6⟩ := e3
            exact ⟨cap, arr, a, q1, q2, q4.blk, by omega, fun hc => ⟨by simpa using (q3 hc).1, by simpa using (q3 hc).2⟩⟩
      · obtain ⟨b', rfl, rfl, arr, e5, e6⟩ := e3
        have hp : (ctx0 te w Sb args bs).hp t = some (.box (leaves k x)) := (hget_init_of args 0 t _ (Nat.zero_le _) (by simpa using hq)).2 k x rfl
        refine repV_one ⟨rfl, _, hp, ?_, ?_, ?_⟩
        · intro s hs; cases hs
        · intro cs e hne; exact ⟨b', hβ' t _ e2, rfl, rfl, rfl⟩
        · intro k' xs' gen hist frz e; cases e
      · obtain ⟨_, hr⟩ := argRel_plain q1 q2 e3
        split
        · rename_i e; cases e; exact (q1 _ _ rfl).elim
        · rename_i e; cases e; exact (q2 _ _ rfl).elim
        · rename_i e; cases e; exact closed_repV rfl (fun _ _ => rfl) (fun _ h => h) hr
        · rename_i e; cases e
/-- The results are read. -/
theorem results_run {te : TypeId} {w0 : World} {M : MS} {n lo : Nat} {a0 : Array Value} {σ : St} {a : Act} {c : Cx} {fn : Func} {vs : List (Bool × List S)} (h : OkAt te Gl w0 M n lo a0 σ.env (hget σ.heap) a c) (hv : allSome (fn.results.toList.map (resV P σ)) = some vs) :
    ∃ arr : Array Value, (results fn a.tmps).run P c.w = .ok (tupA arr) c.w ∧ LR (fun (p : Bool × List S) u => RepV c (.val p.1 p.2) u) vs arr.toList := by
  obtain ⟨hlen, hget⟩ := allSome_spec _ _ _ hv
  have one : ∀ r, ∃ u, ∀ p, resV P σ r = some p → ((match r with | .tmp t => pure (a.tmps.getD t undef) | .cell x t => do Go.loadVar t (← asAddr (a.tmps.getD x undef)) : Sem Value)).run P c.w = .ok u c.w ∧ RepV c (.val p.1 p.2) u := by
    intro r
    cases hq : resV P σ r with
    | none => exact ⟨undef, fun p hp => by cases hp⟩
    | some p =>
      cases r with
      | tmp t =>
        refine ⟨a.tmps.getD t undef, fun p' hp => ?_⟩
        cases hp
        refine ⟨rfl, ?_⟩
        simp only [resV] at hq
        split at hq
        · rename_i g cs hl
          cases hq
          have := h.regs.rep t
          rw [hl] at this; exact this
        · cases hq
      | cell x t =>
        simp only [resV] at hq
        split at hq
        · rename_i s hs
          split at hq
          · rename_i cs hc
            split at hq
            · rename_i g l hl
              cases hq
              have hr := h.regs.rep x
              rw [hs] at hr
              obtain ⟨b, off, us, e, q1, q2⟩ := loadAt_rep h.mem (fun id o ho => by rw [h.hp]; exact ho) (repV_inv hr) hc
              obtain ⟨v', r1, r2⟩ := run_loadVar (P := P) hl q1 q2
              refine ⟨v', fun p hp => ?_⟩
              cases hp
              refine ⟨?_, r2⟩
              simp only
              rw [e, run_ok (show (asAddr (.pointer (some ⟨b, off, none⟩))).run P c.w = .ok ⟨b, off, none⟩ c.w from rfl)]
              exact r1
            · cases hq
          · cases hq
        · cases hq
  obtain ⟨g, hg⟩ := Classical.axiomOfChoice one
  refine ⟨fn.results.map g, ?_, ?_⟩
  · unfold results
    rw [run_ok (run_mapM (g := g) fn.results fun r hr => ?_)]
    · rfl
    · obtain ⟨j, hj⟩ := List.mem_iff_getElem?.1 hr
      obtain ⟨y, _, e⟩ := hget j r hj
      exact (hg r y e).1
  · rw [Array.toList_map]
    refine LR.of_get (by simp [hlen]) fun j p u h1 h2 => ?_
    rw [List.getElem?_map] at h2
    cases hr : fn.results.toList[j]? with
    | none => rw [hr] at h2; cases h2
    | some r =>
      rw [hr] at h2
      simp at h2; subst h2
      obtain ⟨y, e1, e2⟩ := hget j r hr
      rw [h1] at e1; cases e1
      exact (hg r _ e2).2
theorem finish_ok {te : TypeId} {w : World} {Sb : Nat → Prop} {args : List AV} {vs : Array Value} {bs : List (Option Nat)} {n : Nat} {a0 : Array Value} {sg : Sig} {rr : sg.R} {fn : Func} {σ : St} {a : Act} {w' : World}
    (hA : LR3 (ArgRel te w Sb) args vs.toList bs) (ha0 : ∀ j, j < args.length → a0.getD j undef = vs.getD j undef)
    (hsg : sg.io = ioKs args) (hok : Ok te Gl w ⟨fun b => some b ∈ bs, Sb⟩ n (loOf (ioIds 0 args)) a0 σ a w') (h : finish P sg fn (ioIds 0 args) σ = some rr) :
    a.defers = [] ∧ ∃ v, (results fn a.tmps).run P w' = .ok v w' ∧ Res te w w' Sb args bs sg rr v := by
  obtain ⟨c, rfl, hc⟩ := hok
  obtain ⟨l1, l2⟩ := hA.length
  refine ⟨hc.regs.defers, ?_⟩
  unfold finish at h
  split at h
  · rename_i us ws hus hws
    cases hcnd : (Nat.beq us.length sg.res.length && Nat.beq ws.length sg.io.length && ownV σ.heap (idsOf ((us ++ ws).map (·.2)).flatten) sg.res us) with
    | false => rw [hcnd] at h; cases h
    | true =>
      rw [hcnd] at h
      replace h : reiTs (hget σ.heap) sg.ks ((us ++ ws).map (·.2)) = some rr := h
      simp only [Bool.and_eq_true] at hcnd
      obtain ⟨⟨hu1, hu2⟩, hown⟩ := hcnd
      have hu1 := Nat.eq_of_beq_eq_true hu1
      have hu2 := Nat.eq_of_beq_eq_true hu2
      obtain ⟨arr, hrun, hlr⟩ := results_run hc hus
      obtain ⟨hwl, hwg⟩ := allSome_spec _ _ _ hws
      obtain ⟨hrl, hrg⟩ := reiTs_get sg.ks _ rr h
      have hh : ∀ id o, hget σ.heap id = some o → c.hp id = some o := fun id o ho => by rw [hc.hp]; exact ho
      -- the names that are lent or told by value
      let N : List Nat := nonIds sg.res us ++ idsOf (ws.map (·.2)).flatten
      let S' : Nat → Prop := fun b => c.S b ∨ ∃ id ∈ N, c.β id = some b
      have hcell : ∀ (j : Nat) cs, ((us ++ ws).map (·.2))[j]? = some cs → ∃ k y, sg.ks[j]? = some k ∧ rei1 (hget σ.heap) k cs = some y ∧ (lvs sg.ks rr)[j]? = some (k.isAgg, leaves k y) := by
        intro j cs hj
        have hlt := (List.getElem?_eq_some_iff.1 hj).1
        have hk : sg.ks[j]? = some sg.ks[j] := List.getElem?_eq_getElem (by omega)
        obtain ⟨y, h1, h2⟩ := hrg j _ cs hk hj
        exact ⟨_, y, hk, h1, h2⟩
      have hus' : ∀ (j : Nat) g cs, us[j]? = some (g, cs) → ((us ++ ws).map (·.2))[j]? = some cs := by
        intro j g cs hj
        rw [List.getElem?_map, List.getElem?_append_left (List.getElem?_eq_some_iff.1 hj).1, hj]; rfl
      have hws' : ∀ (j : Nat) g cs, ws[j]? = some (g, cs) → ((us ++ ws).map (·.2))[us.length + j]? = some cs := by
        intro j g cs hj
        rw [List.getElem?_map, List.getElem?_append_right (by omega), show us.length + j - us.length = j by omega, hj]; rfl
      have hNrow : ∀ id ∈ N, ∃ k xs gen hist frz, c.hp id = some (.row k xs gen hist frz) := by
        intro id hid
        rcases List.mem_append.1 hid with q | q
        · obtain ⟨j, k, g, cs, _, h2, h3⟩ := nonIds_mem _ _ q
          obtain ⟨k', y, _, h4, _⟩ := hcell j cs (hus' j g cs h2)
          obtain ⟨k1, xs, gen, hist, frz, h5⟩ := rei1_row h4 id h3
          exact ⟨k1, xs, gen, hist, frz, hh id _ h5⟩
        · have : ∀ (l : List (Bool × List S)), id ∈ idsOf (l.map (·.2)).flatten → ∃ (j : Nat) (g : Bool) (cs : List S), l[j]? = some (g, cs) ∧ id ∈ idsOf cs := by
            intro l
            induction l with
            | nil => intro h; simp [idsOf] at h
            | cons p r ih =>
              intro h
              rw [List.map_cons, List.flatten_cons, idsOf_append, List.mem_append] at h
              rcases h with h | h
              · exact ⟨0, p.1, p.2, rfl, h⟩
              · obtain ⟨j, g, cs, h1, h2⟩ := ih h
                exact ⟨j + 1, g, cs, by simpa using h1, h2⟩
          obtain ⟨j, g, cs, h2, h3⟩ := this ws q
          obtain ⟨k', y, _, h4, _⟩ := hcell _ cs (hws' j g cs h2)
          obtain ⟨k1, xs, gen, hist, frz, h5⟩ := rei1_row h4 id h3
          exact ⟨k1, xs, gen, hist, frz, hh id _ h5⟩
      -- a live block is in no such row, but its own
      have hnS : ∀ id b, Live c id b → id ∉ N → ¬ S' b := by
        rintro id b hl hid (q | ⟨id', hid', q⟩)
        · exact (hc.mem.live id b hl).2.1 q
        · obtain ⟨k, xs, gen, hist, frz, ho⟩ := hNrow id' hid'
          cases frz with
          | false =>
            have := hc.mem.one id id' b hl ⟨q, _, ho, rfl⟩
            subst this; exact hid hid'
          | true =>
            have := hc.mem.obj id' _ ho
            simp only [RepO, q] at this
            exact (hc.mem.live id b hl).2.1 (this.2.2 trivial)
      -- lent boxes are where they were
      have hbox : ∀ (m j : Nat), (ioIds 0 args)[m]? = some j → ∃ g cs b k, ws[m]? = some (g, cs) ∧ hget σ.heap j = some (.box cs) ∧ cs ≠ [] ∧ c.β j = some b ∧ bs[j]? = some (some b) ∧ (ioKs args)[m]? = some k := by
        intro m j hj
        obtain ⟨⟨g, cs⟩, e1, e2⟩ := hwg m j hj
        obtain ⟨_, k, x, e3, e4⟩ := ioIds_get args 0 m j hj
        rw [Nat.sub_zero] at e3
        obtain ⟨v, b, e5, e6, e7⟩ := hA.get j _ e3
        obtain ⟨b', rfl, e8, _⟩ := e7
        unfold ioV at e2
        split at e2
        · rename_i j' cs' hl hb
          cases hq : (Nat.beq j' j && !cs'.isEmpty) with
          | false => rw [hq] at e2; cases e2
          | true =>
            rw [hq] at e2
            cases e2
            simp only [Bool.and_eq_true] at hq
            have := Nat.eq_of_beq_eq_true hq.1
            subst this
            have hne : cs ≠ [] := by rintro rfl; simp at hq
            have hr := hc.regs.rep j'
            rw [hl] at hr
            obtain ⟨_, o, t1, _, t2, _⟩ := repV_inv hr
            rw [hh _ _ hb] at t1; cases t1
            obtain ⟨b2, t3, t4, _⟩ := t2 cs rfl hne
            have hlo := loOf_lt _ _ (List.mem_of_getElem? hj)
            have hla := loOf_le args 0
            rw [hc.pin j' hlo, ha0 j' (by omega)] at t4
            have : vs.getD j' undef = v := by rw [Array.getD_eq_getD_getElem?, ← Array.getElem?_toList, e5]; rfl
            rw [this, e8] at t4
            cases t4
            exact ⟨true, cs, b', k, e1, hb, hne, t3, e6, e4⟩
        · cases e2
      have hmv : ∀ b, (∃ id k xs gen hist, Live c id b ∧ c.hp id = some (.row k xs gen hist false)) ∨ c.S b → some b ∈ bs → mvB args bs b := by
        intro b hb hm
        obtain ⟨j, hj⟩ := List.mem_iff_getElem?.1 hm
        have hlt : j < args.length := by have := (List.getElem?_eq_some_iff.1 hj).1; omega
        have hja : args[j]? = some args[j] := List.getElem?_eq_getElem hlt
        obtain ⟨v, ob, e1, e2, e3⟩ := hA.get j _ hja
        rw [hj] at e2; cases e2
        rcases arg_cases args[j] with ⟨k, xs, e⟩ | ⟨k, x, e⟩ | ⟨q1, q2⟩
        · exact ⟨j, k, xs, by rw [hja, e], hj⟩
        · exfalso
          have hjm : ∃ (m : Nat), (ioIds 0 args)[m]? = some j := by
            have : ∀ (l : List AV) (i t : Nat) k x, l[t]? = some (.val false [.io k x]) → i + t ∈ ioIds i l := by
              intro l
              induction l with
              | nil => intro i t k x h; simp at h
              | cons a r ih =>
                intro i t k x h
                cases t with
                | zero => simp at h; subst h; simp [ioIds]
                | succ t =>
                  have := ih (i + 1) t k x (by simpa using h)
                  rw [show i + (t + 1) = i + 1 + t by omega]
                  by_cases hq : ∃ k x, a = .val false [.io k x]
                  · obtain ⟨k, x, rfl⟩ := hq
                    rw [ioIds]; exact List.mem_cons_of_mem _ this
                  · rw [ioIds_io i a r (fun k x e => hq ⟨k, x, e⟩)]; exact this
            have := this args 0 j k x (by rw [hja, e])
            rw [Nat.zero_add] at this
            exact List.mem_iff_getElem?.1 this
          obtain ⟨m, hm⟩ := hjm
          obtain ⟨g, cs, b', k', t1, t2, t3, t4, t5, t6⟩ := hbox m j hm
          rw [hj] at t5; cases t5
          have hlv : Live c j b := ⟨t4, _, hh _ _ t2, by cases cs <;> simp [Obj.live] at t3 ⊢⟩
          rcases hb with ⟨id, k2, xs2, g2, h2, z1, z2⟩ | hb
          · have := hc.mem.one id j b z1 hlv
            subst this
            rw [hh _ _ t2] at z2; cases z2
          · exact (hc.mem.live j b hlv).2.1 hb
        · have := (argRel_plain q1 q2 e3).1
          cases this
      have hokb : ∀ id k xs gen hist b, c.β id = some b → c.hp id = some (.row k xs gen hist false) → b < c.w.heap.size ∧ (w.heap.size ≤ b ∨ mvB args bs b) := by
        intro id k xs gen hist b hb ho
        have hl : Live c id b := ⟨hb, _, ho, rfl⟩
        obtain ⟨q1, q2, q3⟩ := hc.mem.live id b hl
        refine ⟨q1, ?_⟩
        rcases q3 with q3 | q3
        · exact .inl q3
        · exact .inr (hmv b (.inl ⟨id, k, xs, gen, hist, hl, ho⟩) q3)
      have hN : ∀ (j : Nat) g cs, ((∃ k, sg.res[j]? = some (false, k)) ∧ us[j]? = some (g, cs)) ∨ ws[j]? = some (g, cs) → ∀ id ∈ idsOf cs, ∀ b, c.β id = some b → S' b := by
        intro j g cs hj id hid b hb
        refine .inr ⟨id, ?_, hb⟩
        rcases hj with ⟨⟨k, h1⟩, h2⟩ | h2
        · exact List.mem_append_left _ (mem_nonIds _ _ j k g cs h1 h2 hid)
        · refine List.mem_append_right _ ?_
          have : ∀ (l : List (Bool × List S)) (j : Nat), l[j]? = some (g, cs) → id ∈ idsOf (l.map (·.2)).flatten := by
            intro l
            induction l with
            | nil => intro j h; simp at h
            | cons p r ih =>
              intro j h
              rw [List.map_cons, List.flatten_cons, idsOf_append, List.mem_append]
              cases j with
              | zero => simp at h; subst h; exact .inl hid
              | succ j => exact .inr (ih j (by simpa using h))
          exact this ws j h2
      refine ⟨_, hrun, S', arr, rfl, hc.mem.fr, fun b hb => .inl (hc.mem.inf b hb), ?_, ?_, ?_⟩
      · intro b hb
        have row : ∀ id ∈ N, c.β id = some b → b < c.w.heap.size ∧ (Sb b ∨ w.heap.size ≤ b ∨ mvB args bs b) := by
          intro id hid hb
          obtain ⟨k, xs, gen, hist, frz, ho⟩ := hNrow id hid
          cases frz with
          | false =>
            obtain ⟨q1, q2⟩ := hokb id k xs gen hist b hb ho
            exact ⟨q1, .inr q2⟩
          | true =>
            have := hc.mem.obj id _ ho
            simp only [RepO, hb] at this
            have hS := this.2.2 trivial
            refine ⟨hc.mem.below b hS, ?_⟩
            rcases hc.mem.sup b hS with q | q | q
            · exact .inl q
            · exact .inr (.inl q)
            · exact .inr (.inr (hmv b (.inr hS) q))
        rcases hb with hS | ⟨id, hid, hb⟩
        · refine ⟨hc.mem.below b hS, ?_⟩
          rcases hc.mem.sup b hS with q | q | q
          · exact .inl q
          · exact .inr (.inl q)
          · exact .inr (.inr (hmv b (.inr hS) q))
        · exact row id hid hb
      · have hlvl : (lvs sg.ks rr).length = sg.ks.length := lvs_length _ _
        have hkl : sg.ks.length = sg.res.length + sg.io.length := by rw [Sig.ks_eq]; simp
        refine resV_of sg.res _ arr.toList (by rw [List.length_take, hlvl, hkl]; omega) (by rw [← hlr.length, hu1]) fun j own k g cs u e1 e2 e3 => ?_
        have hjr : j < sg.res.length := (List.getElem?_eq_some_iff.1 e1).1
        rw [List.getElem?_take, if_pos hjr] at e2
        have huj : us[j]? = some us[j] := List.getElem?_eq_getElem (by omega)
        generalize hue : us[j] = p at huj
        obtain ⟨g', cs'⟩ := p
        obtain ⟨k', y, f1, f2, f3⟩ := hcell j cs' (hus' j g' cs' huj)
        have hkk : k' = k := by
          have : sg.ks[j]? = some k := by
            rw [Sig.ks_eq]
            rw [List.getElem?_append_left (by simpa using hjr), List.getElem?_map, e1]; rfl
          rw [this] at f1; cases f1; rfl
        subst hkk
        rw [f3] at e2
        cases e2
        obtain ⟨u', u1, u2⟩ := hlr.get j _ huj
        rw [e3] at u1; cases u1
        obtain ⟨o1, o2⟩ := ownV_get sg.res us hu1.symm hown j own k' g' cs' e1 huj
        refine ⟨fun ho => ?_, fun ho => ?_⟩
        · subst ho
          obtain ⟨hg, o2'⟩ := o2 rfl
          subst hg
          rcases o2' with rfl | ⟨id, gen, k2, xs2, hist, rfl, o3, o4⟩
          · have hk : ∃ e, k' = .slice e ∧ HEq y ([] : List e.T) := by
              cases k' with
              | slice e => simp only [rei1, rei, rowOf] at f2; cases f2; exact ⟨e, rfl, HEq.rfl⟩
              | strct a => cases o1
              | prod a b => cases o1
              | _ => simp [rei1, rei] at f2
            obtain ⟨e, rfl, hy⟩ := hk
            cases hy
            refine ⟨e, [], none, rfl, ⟨?_, rfl⟩, fun b hb => by cases hb⟩
            have := repV_inv u2
            simpa [RepS] using this
          · have hk : ∃ e, k' = .slice e ∧ e = k2 ∧ HEq y xs2 := by
              cases k' with
              | slice e =>
                simp only [rei1, rei, rowOf, o3, contAt] at f2
                rw [show Nat.beq gen gen = true by simp] at f2
                simp only [cond_true] at f2
                cases hcs : cst k2 e xs2 with
                | none => rw [hcs] at f2; simp at f2
                | some ys =>
                  rw [hcs] at f2
                  obtain ⟨q, q2⟩ := cst_some hcs
                  subst q
                  simp only [Option.some.injEq] at f2
                  subst f2
                  exact ⟨k2, rfl, rfl, by rw [← q2]⟩
              | strct a => cases o1
              | prod a b => cases o1
              | _ => simp [rei1, rei] at f2
            obtain ⟨e, rfl, rfl, hy⟩ := hk
            cases hy
            refine ⟨e, y, c.β id, rfl, ?_, fun b hb => ⟨hokb id e y gen hist b hb (hh _ _ o3), hnS id b ⟨hb, _, hh _ _ o3, rfl⟩ ?_⟩⟩
            · have := row_arg hc.mem (hh _ _ o3) (repV_inv u2) (S' := S') (fun b hb => .inl hb)
              rw [hc.te] at this; exact this
            · intro hid
              rw [List.map_append, List.flatten_append, idsOf_append, List.count_append, ids_count id sg.res us hu1.symm] at o4
              have h1 : 0 < (ownIds sg.res us).count id := List.count_pos_iff.2 (mem_ownIds _ _ j _ _ _ e1 huj (by simp [idsOf, S.ids]))
              have h2 : 0 < (nonIds sg.res us).count id + (idsOf (ws.map (·.2)).flatten).count id := by
                rcases List.mem_append.1 hid with q | q
                · have := List.count_pos_iff.2 q; omega
                · have := List.count_pos_iff.2 q; omega
              omega
        · subst ho
          have hrt : RepT c.te c.w S' k' y u.cells.toList := rei1_rep hc.mem hh (S' := S') (fun b hb => .inl hb) (hN j g' cs' (.inl ⟨⟨k', e1⟩, huj⟩)) (repV_cells u2) f2
          have hlv := (leaves_rep (c := clC te c.w S') k' y u.cells.toList).2 (by rw [hc.te] at hrt; exact hrt)
          rw [← o1]
          cases g' with
          | true =>
            obtain ⟨ar, rfl, _⟩ := u2
            exact ⟨ar, rfl, hlv⟩
          | false =>
            obtain ⟨s, rfl, hs⟩ := u2
            have hc1 : u.cells = #[u] := one_cells (one_ofRep hs)
            rw [hc1] at hlv
            have hl1 := hlv.length
            match hlvs : leaves k' y, hl1 with
            | [s'], _ =>
              rw [hlvs] at hlv
              exact ⟨s', rfl, hlv.1⟩
            | [], h => simp at h
            | _ :: _ :: _, h => simp at h
      · have hlvl : (lvs sg.ks rr).length = sg.ks.length := lvs_length _ _
        have hkl : sg.ks.length = sg.res.length + sg.io.length := by rw [Sig.ks_eq]; simp
        have hiol : (ioIds 0 args).length = sg.io.length := by rw [← hwl, hu2]
        refine resIo_of args bs 0 _ (by omega) (by rw [List.length_drop, hlvl, hkl, hiol]; omega) fun m j p e1 e2 => ?_
        obtain ⟨g, cs, b, k, t1, t2, t3, t4, t5, t6⟩ := hbox m j e1
        rw [List.getElem?_drop] at e2
        have hcl := hws' m g cs t1
        rw [hu1] at hcl
        obtain ⟨k', y, f1, f2, f3⟩ := hcell _ cs hcl
        rw [f3] at e2
        cases e2
        have hkk : k' = k := by
          have : sg.ks[sg.res.length + m]? = some k := by
            rw [Sig.ks_eq]
            rw [List.getElem?_append_right (by simp), List.length_map, show sg.res.length + m - sg.res.length = m by omega, hsg]
            exact t6
          rw [this] at f1; cases f1; rfl
        subst hkk
        have hro := hc.mem.obj j _ (hh _ _ t2)
        obtain ⟨b', ar, r1, r2, r3⟩ := hro t3
        rw [t4] at r1; cases r1
        have hrt : RepT c.te c.w S' k' y (ar.toList.take cs.length) := rei1_rep hc.mem hh (S' := S') (fun b hb => .inl hb) (hN m g cs (.inr t1)) r3 f2
        have hll : (leaves k' y).length = cs.length := by
          have h1 := ((leaves_rep (c := clC te c.w S') k' y _).2 (by rw [hc.te] at hrt; exact hrt)).length
          rw [h1, ← r3.length]
        refine ⟨k', b, t6, by rw [Nat.sub_zero]; exact t5, ⟨ar, r2, ?_⟩, ?_, ?_⟩
        · rw [hll]
          exact (leaves_rep (c := clC te c.w S') k' y _).2 (by rw [hc.te] at hrt; exact hrt)
        · refine hnS j b ⟨t4, _, hh _ _ t2, by cases cs <;> simp [Obj.live] at t3 ⊢⟩ fun hid => ?_
          obtain ⟨k2, xs2, g2, h2, fz, ho⟩ := hNrow j hid
          rw [hh _ _ t2] at ho; cases ho
        · have := hrt.len
          rw [hll, ← this, ← r3.length]
  · cases h
theorem eqKs_eq : ∀ (a b : List K), eqKs a b = true → a = b
  | [], [], _ => rfl
  | a :: r, b :: s, h => by
    simp only [eqKs, Bool.and_eq_true, decide_eq_true_eq] at h
    rw [h.1, eqKs_eq r s h.2]
  | [], _ :: _, h => by cases h
  | _ :: _, [], h => by cases h
/-- One function. -/
theorem callB_ok (hC : SoundC P A.te Gl C) (hmx : P.follows .mixedOrders = true) (k : Nat) : SoundC P A.te Gl (callB P A C k) := by
  intro sg f args rr h
  unfold callB at h
  split at h
  · rename_i fn hf
    split at h
    · rename_i c hb
      cases hcnd : (Nat.ble args.length fn.ntmps && !(fn.name == "runtime.NumGoroutine") && eqKs sg.io (ioKs args)) with
      | false => rw [hcnd] at h; cases h
      | true =>
        rw [hcnd] at h
        simp only [cond_true] at h
        simp only [Bool.and_eq_true, Bool.not_eq_true'] at hcnd
        obtain ⟨⟨h1, h2⟩, h3⟩ := hcnd
        have h3 := eqKs_eq _ _ h3
        have h1 := Nat.le_of_ble_eq_true h1
        refine ⟨⟨fn, hf, h2, by simp [hb]⟩, fun w Sb vs bs hG hbel hA hbs hinj => ?_⟩
        have hl := hA.length.1
        refine calls_of_wp hf hb (runCode_ok hC hmx c 0 _ _ _ _ _ h (entry_ok hG hbel hA hbs hinj h1) fun e σ a w' hk hok => ?_)
        have ha0 : ∀ j, j < args.length → (vs ++ Array.replicate (fn.ntmps - vs.size) undef).getD j undef = vs.getD j undef := by
          intro j hj
          rw [Array.getD_eq_getD_getElem?, Array.getD_eq_getD_getElem?, Array.getElem?_append_left (by rw [← Array.length_toList, ← hl]; exact hj)]
        cases e with
        | exit id => cases hk
        | normal =>
          obtain ⟨q1, v, q2, q3⟩ := finish_ok hA ha0 h3 hok hk
          exact ⟨q1, v, q2, v, rfl, q3⟩
        | ret =>
          obtain ⟨q1, v, q2, q3⟩ := finish_ok hA ha0 h3 hok hk
          exact ⟨q1, v, q2, v, rfl, q3⟩
    · cases h
  · cases h
/-- Whole calls, with some functions told from without. -/
def SoundX (P : Program) (te : TypeId) (Gl : Nat → Option Go.Obj) (X : Outer) : Prop := SoundC P te Gl (fun sg f args => (X sg f args).join)
theorem callF_ok {X : Outer} (hX : SoundX P A.te Gl X) (hmx : P.follows .mixedOrders = true) : ∀ k, SoundC P A.te Gl (callF P A X k)
  | 0 => fun sg f args rr h => by cases h
  | k + 1 => fun sg f args rr h => by
    simp only [callF] at h
    split at h
    · rename_i r hr
      exact hX sg f args rr (by simp only [hr, h]; rfl)
    · exact callB_ok (callF_ok hX hmx k) hmx k sg f args rr h
end
end Go.Eng
