/- One step of a region; a region in the order of its text. -/
import Derived.Test.YtfkiapjkeopgfaaE22
set_option linter.all false
set_option linter.unusedVariables false
set_option linter.unusedSimpArgs false
set_option linter.deprecated false
namespace Go.Eng
open Go.RowKit
/-- The small machine's state tells the real one's. -/
structure OkAt (te : TypeId) (Gl : Nat → Option Go.Obj) (w0 : World) (M : MS) (n lo : Nat) (a0 : Array Value) (env : List (Nat × AV)) (hp : Nat → Option Obj) (a : Act) (c : Cx) : Prop where
  te : c.te = te
  hp : c.hp = hp
  mem : Mem w0 M c
  regs : Regs c n env a
  glob : Glob Gl c.S c.w
  pin : ∀ j, j < lo → a.tmps.getD j undef = a0.getD j undef
def Ok (te : TypeId) (Gl : Nat → Option Go.Obj) (w0 : World) (M : MS) (n lo : Nat) (a0 : Array Value) (σ : St) (a : Act) (w : World) : Prop := ∃ c, c.w = w ∧ OkAt te Gl w0 M n lo a0 σ.env (hget σ.heap) a c
theorem hget_hput (h : List (Nat × Obj)) (u : Upd) : hget (hput h u) = hpU u (hget h) := by
  funext id
  unfold hput hpU
  exact hget_append u h id
theorem Glob.ext {Gl : Nat → Option Go.Obj} {c c' : Cx} (h : Glob Gl c.S c.w) (he : Ext c c') : Glob Gl c'.S c'.w := fun b o hb => ⟨he.sub b (h b o hb).1, (he.stab b (h b o hb).1).trans (h b o hb).2⟩
theorem look_cons (t : Nat) (v : AV) (e : List (Nat × AV)) (u : Nat) : look ((t, v) :: e) u = if t = u then v else look e u := by
  simp only [look]
  by_cases h : t = u
  · subst h; simp
  · have : Nat.beq t u = false := by
      cases hq : Nat.beq t u with
      | true => exact (h (Nat.eq_of_beq_eq_true hq)).elim
      | false => rfl
    rw [this, if_neg h]; rfl
theorem put_getD (a : Act) (d : Nat) (v : Value) (t : Nat) (hd : d < a.tmps.size) : (a.put (some d) v).tmps.getD t undef = if d = t then v else a.tmps.getD t undef := by
  simp only [Act.put, Array.getD_eq_getD_getElem?]
  by_cases h : d = t
  · subst h; simp [hd]
  · rw [if_neg h, Array.getElem?_setIfInBounds_ne h]
theorem Regs.put {c : Cx} {n : Nat} {env : List (Nat × AV)} {a : Act} (h : Regs c n env a) {dst : Option Nat} {v : AV} {v' : Value} (hd : ∀ d, dst = some d → d < n) (hv : RepV c v v') : Regs c n (Eng.put env dst v) (a.put dst v') := by
  cases dst with
  | none => exact h
  | some d =>
    have hd := hd d rfl
    refine ⟨by simp [Act.put, h.size], h.defers, fun t => ?_⟩
    rw [put_getD a d v' t (by rw [h.size]; exact hd)]
    show RepV c (look ((d, v) :: env) t) _
    rw [look_cons]
    split
    · exact hv
    · exact h.rep t
theorem restr_some {ids : List Nat} {h : List (Nat × Obj)} {id : Nat} {o : Obj} (hr : restr ids h id = some o) : hget h id = some o := by
  unfold restr at hr
  cases hc : ids.contains id with
  | true => rw [hc] at hr; exact hr
  | false => rw [hc] at hr; cases hr
theorem restr_dst {ev : Operand → AV} {hl : List (Nat × Obj)} {o : Oper} {d : Nat} (hd : o.dst = some d) (h : restr (idsE o ev) hl d = none) : hget hl d = none := by
  unfold restr at h
  have : (idsE o ev).contains d = true := by
    rw [List.contains_iff_mem]
    simp [idsE, hd]
  rw [this] at h; exact h
theorem rep_evO {c : Cx} {n : Nat} {env : List (Nat × AV)} {a : Act} (h : Regs c n env a) (o : Oper) (x : Operand) : RepV c (evO env o x) (a.eval x) := by
  cases x with
  | tmp t =>
    show RepV c (bif (tmpsOf o.op.operands.toList).contains t then look env t else .undef) _
    cases (tmpsOf o.op.operands.toList).contains t with
    | true => exact h.rep t
    | false => trivial
  | const v => exact rep_const c v
  | global g => trivial
  | func f => exact ⟨_, rfl, rfl⟩
theorem dst_lt {n lo : Nat} {o : Oper} (h : dstOk n lo o = true) : ∀ d, o.dst = some d → d < n ∧ lo ≤ d := by
  intro d hd
  unfold dstOk at h
  rw [hd] at h
  simp only [Bool.and_eq_true] at h
  exact ⟨Nat.le_of_ble_eq_true h.1, Nat.le_of_ble_eq_true h.2⟩
theorem pin_put {n lo : Nat} {o : Oper} {a : Act} {a0 : Array Value} (h : dstOk n lo o = true) (hp : ∀ j, j < lo → a.tmps.getD j undef = a0.getD j undef) (v : Value) : ∀ j, j < lo → (a.put o.dst v).tmps.getD j undef = a0.getD j undef := by
  intro j hj
  rw [← hp j hj]
  cases hq : o.dst with
  | none => rfl
  | some d =>
    have := (dst_lt h d hq).2
    simp only [Act.put, Array.getD_eq_getD_getElem?]
    rw [Array.getElem?_setIfInBounds_ne (by omega)]
section
variable {P : Program} {A : Ann} {fid : Nat} {Gl : Nat → Option Go.Obj} {C : CallF} {w0 : World} {M : MS} {n lo : Nat} {a0 : Array Value} {R : Type}
theorem ok_of_step {σ : St} {o : Oper} {a : Act} {c : Cx} {v : AV} {u : Upd} {c' : Cx} {v' : Value} (hd : dstOk n lo o = true) (h : OkAt A.te Gl w0 M n lo a0 σ.env (hget σ.heap) a c) (hm : Mem w0 M c') (he : Ext c c') (hp : c'.hp = hpU u c.hp) (hv : RepV c' v v') :
    Ok A.te Gl w0 M n lo a0 ⟨put σ.env o.dst v, hput σ.heap u⟩ (a.put o.dst v') c'.w := by
  refine ⟨c', rfl, he.te.trans h.te, ?_, hm, ?_, h.glob.ext he, pin_put hd h.pin v'⟩
  · rw [hp, h.hp, hget_hput]
  · exact (he.regs h.regs).put (fun d hd' => (dst_lt hd d hd').1) hv
/-- One step. -/
theorem stepK_ok (hC : SoundC P A.te Gl C) {σ : St} {o : Oper} {K : AV → Upd → Option R} {rr : R} {a : Act} {w : World} {next : Act → World → Prop} {Q : Exit → Act → World → Prop}
    (hs : stepK P A fid C σ o K = some rr) (hok : Ok A.te Gl w0 M n lo a0 σ a w) (hd : dstOk n lo o = true)
    (hn : ∀ v u v' w', K v u = some rr → Ok A.te Gl w0 M n lo a0 ⟨put σ.env o.dst v, hput σ.heap u⟩ (a.put o.dst v') w' → next (a.put o.dst v') w') : o.wp P a w next Q := by
  obtain ⟨c, rfl, h⟩ := hok
  have hh : ∀ id o', restr (idsE o (evO σ.env o)) σ.heap id = some o' → c.hp id = some o' := fun id o' hr => by rw [h.hp]; exact restr_some hr
  have hf : ∀ d, o.dst = some d → restr (idsE o (evO σ.env o)) σ.heap d = none → c.hp d = none := fun d hd' hr => by rw [h.hp]; exact restr_dst hd' hr
  have hr := rep_evO h.regs o
  have hcv : ∀ v, a.eval (.const v) = v := fun _ => rfl
  have fin : ∀ {v : AV} {u : Upd}, StepOk w0 M c ((execOp a.eval o).run P c.w) v u → K v u = some rr → o.wp P a c.w next Q := by
    rintro v u ⟨nv, c', e1, e2, e3, e4, e5⟩ hk
    unfold Oper.wp
    rw [e1]
    rcases e5 with ⟨v', rfl, hv⟩ | ⟨rfl, rfl⟩
    · exact hn v u v' c'.w hk (ok_of_step hd h e2 e3 e4 hv)
    · exact hn .undef u undef c'.w hk (ok_of_step hd h e2 e3 e4 trivial)
  have okk : ∀ {q : Out}, okK K q = some rr → ∃ v u, q = .ok true v u ∧ K v u = some rr := by
    intro q hq
    unfold okK at hq
    split at hq
    · rename_i cb v u
      cases cb with
      | true => exact ⟨v, u, rfl, hq⟩
      | false => cases hq
    · cases hq
  have callk' : ∀ {own mvs : List Bool} {cb : Bool} {f : Nat} {ats : List TypeId} {avs : List AV} {vs : Array Value}, LR (RepV c) avs vs.toList → (execOp a.eval o).run P c.w = (callFunc f vs).run P c.w →
      callK C K (callOut P (restr (idsE o (evO σ.env o)) σ.heap) o.dst o.type own mvs cb f ats avs) = some rr → o.wp P a c.w next Q := by
    intro own mvs cb f ats avs vs hlr hrun hq
    cases hco : callOut P (restr (idsE o (evO σ.env o)) σ.heap) o.dst o.type own mvs cb f ats avs with
    | bad => rw [hco] at hq; cases hq
    | ok b v u => rw [hco] at hq; cases hq
    | call b sg f' as post =>
      rw [hco] at hq
      simp only [callK] at hq
      cases b with
      | false => cases hq
      | true =>
        simp only [cond_true] at hq
        cases hcr : C sg f' as with
        | none => rw [hcr] at hq; cases hq
        | some r =>
          rw [hcr] at hq
          simp only [Option.bind_some] at hq
          have hC' : SoundC P c.te Gl C := by rw [h.te]; exact hC
          obtain ⟨rfl, _, ⟨fn, t1, t2, t3⟩, hcalls⟩ := callOut_ok hC' h.mem h.glob hh hf hlr hco hcr
          unfold Oper.wp
          rw [hrun, run_callFunc t1 t2 t3]
          show Calls P f' vs c.w _
          refine hcalls.mono fun e w' => ?_
          rintro ⟨v', c', rfl, rfl, e2, e3, e4, e5⟩
          exact hn _ _ v' c'.w hq (ok_of_step hd h e2 e3 e4 e5)
  have callk : ∀ {cc : Call} {own mvs : List Bool} {cb : Bool} {f : Nat}, (execOp a.eval o).run P c.w = (callFunc f (cc.args.map a.eval)).run P c.w →
      callK C K (callOut P (restr (idsE o (evO σ.env o)) σ.heap) o.dst o.type own mvs cb f cc.argTypes.toList (cc.args.toList.map (evO σ.env o))) = some rr → o.wp P a c.w next Q := by
    intro cc own mvs cb f hrun hq
    exact callk' (by rw [Array.toList_map]; exact lr_map _ hr) hrun hq
  unfold stepK stepE at hs
  split at hs
  · -- pick
    rename_i x b d ho
    split at hs
    · rename_i q hq
      have hx : a.eval x = .bool q := slot_rep hr hq
      have hrun : (execOp a.eval o).run P c.w = .ok (.value (if q then a.eval b else a.eval d)) c.w := by
        simp only [execOp, ho]
        rw [hx, run_ok (show (asBool (.bool q)).run P c.w = .ok q c.w from rfl)]; rfl
      cases q with
      | true => exact fin (.quiet h.mem hrun (hr b)) hs
      | false => exact fin (.quiet h.mem hrun (hr d)) hs
    · cases hs
  · rename_i cc ho
    split at hs
    · rename_i b hb
      obtain ⟨v, u, e1, e2⟩ := okk hs
      exact fin (core_builtin h.mem hh hf hr ho hb e1) e2
    · rename_i f hb
      refine callk (cc := cc) ?_ hs
      simp only [execOp, ho, resolve, hb]
      show ((Deferred.ofValue (.func (.func f) #[] #[]) (cc.args.map a.eval)) >>= fun d => invoke d.target d.args).run P c.w = _
      unfold Deferred.ofValue
      simp only []
      rw [run_pb]
      simp only [invoke]
      simp
    · rename_i g _ hb
      split at hs
      · rename_i r hs2
        have hg := slot_rep hr hs2
        simp only [RepS] at hg
        cases r with
        | none =>
          exfalso
          -- a call of nil is none
          cases hco : callOut P (restr (idsE o (evO σ.env o)) σ.heap) o.dst o.type [] [] (none : Option Nat).isSome ((none : Option Nat).getD 0) cc.argTypes.toList (cc.args.toList.map (evO σ.env o)) with
          | bad => rw [hco] at hs; cases hs
          | ok b v u => rw [hco] at hs; cases hs
          | call b sg f' as post =>
            rw [hco] at hs
            simp only [callK] at hs
            have hb0 : b = false := by
              unfold callOut at hco
              split at hco
              · dsimp only at hco
                rename_i tup ks hs' _ _
                cases hcnd : (ownOk [] ks && Nat.ble (anyOwn []) 1 && (Nat.beq (anyOwn []) 0 || (fresh (restr (idsE o (evO σ.env o)) σ.heap) o.dst).isSome) && exOk (exAll (cc.args.toList.map (evO σ.env o)) hs') && hs'.all (fun h => disj h.excl h.frz) && (tup == !(Nat.beq ks.length 1))) with
                | false => rw [hcnd] at hco; cases hco
                | true =>
                  rw [hcnd] at hco
                  simp only [cond_true] at hco
                  split at hco
                  · cases hco; rfl
                  · cases hco
              · cases hco
            subst hb0
            cases hs
        | some f =>
          refine callk (cc := cc) ?_ hs
          simp only [execOp, ho, resolve, hb]
          rw [hg]
          show ((Deferred.ofValue (.func (.func f) #[] #[]) (cc.args.map a.eval)) >>= fun d => invoke d.target d.args).run P c.w = _
          unfold Deferred.ofValue
          simp only []
          rw [run_pb]
          simp only [invoke]
          simp
      · rename_i f k x hs2
        have hg := slot_rep hr hs2
        obtain ⟨b, o', vs', g1, g2, g3, g4⟩ := hg
        refine callk' (vs := cc.args.map a.eval ++ #[.pointer (some ⟨b, o', none⟩)]) ?_ ?_ hs
        · rw [Array.toList_append, Array.toList_map]
          refine (lr_map _ hr).append ⟨⟨_, rfl, fun s hs => (by cases hs), b, o', vs', g1, by simp [pathOff], g3, g4⟩, trivial⟩
        · simp only [execOp, ho, resolve, hb]
          rw [g2]
          show ((Deferred.ofValue (.func (.func f) #[] #[.pointer (some ⟨b, o', none⟩)]) (cc.args.map a.eval)) >>= fun d => invoke d.target d.args).run P c.w = _
          unfold Deferred.ofValue
          simp only []
          rw [run_pb]
          simp only [invoke]
          simp
      · cases hs
    · cases hs
  · obtain ⟨v, u, e1, e2⟩ := okk hs
    exact fin (core_ok h.mem h.te hh hf hr hcv e1) e2
theorem rep_tup0 (c : Cx) : RepV c (.tup []) undef := ⟨#[], rfl, trivial⟩
/-- A step's guard. -/
theorem guardK_ok {all : Array Oper} {σ : St} {o : Oper} {K : Bool → List (Nat × AV) → Option R} {rr : R} {a : Act} {w : World} (hs : guardK all σ o K = some rr) (hok : Ok A.te Gl w0 M n lo a0 σ a w) :
    ∃ want env, K want env = some rr ∧ Region.wanted o (yielded all a.tmps) = want ∧ Ok A.te Gl w0 M n lo a0 ⟨env, σ.heap⟩ a w := by
  unfold guardK at hs
  split at hs
  · rename_i hg
    exact ⟨true, σ.env, hs, by simp [Region.wanted, hg], hok⟩
  · rename_i j want hg
    split at hs
    · cases hs
    · rename_i t ht
      split at hs
      · rename_i b hb
        obtain ⟨c, rfl, h⟩ := hok
        have hv : a.tmps.getD t undef = .bool b := by
          have := h.regs.rep t
          rw [hb] at this
          exact repV_inv this
        have hlt : t < a.tmps.size := by
          rcases Nat.lt_or_ge t a.tmps.size with q | q
          · exact q
          · rw [Array.getD_eq_getD_getElem?, Array.getElem?_eq_none q] at hv; cases hv
        have hv' : a.tmps[t]? = some (.bool b) := by
          rw [Array.getD_eq_getD_getElem?, Array.getElem?_eq_getElem hlt] at hv
          rw [Array.getElem?_eq_getElem hlt]; simpa using hv
        have hy : yielded all a.tmps j = some b := by
          unfold yielded
          rw [ht]
          simp only [Option.bind_some, hv']
        have hreg : ∀ q : Bool, q = b → OkAt A.te Gl w0 M n lo a0 ((t, .val false [.bool q]) :: σ.env) (hget σ.heap) a c := by
          rintro q rfl
          refine ⟨h.te, h.hp, h.mem, ⟨h.regs.size, h.regs.defers, fun u => ?_⟩, h.glob, h.pin⟩
          rw [look_cons]
          split
          · rename_i e; subst e; rw [hv]; exact repV_one rfl
          · exact h.regs.rep u
        cases b with
        | true =>
          simp only [cond_true] at hs
          refine ⟨want, _, hs, ?_, c, rfl, hreg true rfl⟩
          simp only [Region.wanted, hg, hy]
          cases want <;> rfl
        | false =>
          simp only [cond_false] at hs
          refine ⟨!want, _, hs, ?_, c, rfl, hreg false rfl⟩
          simp only [Region.wanted, hg, hy]
          cases want <;> rfl
      · rename_i hb
        obtain ⟨c, hcw, h⟩ := hok
        refine ⟨false, σ.env, hs, ?_, c, hcw, h⟩
        have hv : a.tmps.getD t undef = undef := by
          have := h.regs.rep t
          rw [hb] at this
          obtain ⟨arr, e, hl⟩ := this
          have : arr = #[] := by
            have hn := hl.length
            apply Array.ext'
            exact List.eq_nil_of_length_eq_zero hn.symm
          rw [e, this]; rfl
        have hy : yielded all a.tmps j = none := by
          unfold yielded
          rw [ht]
          simp only [Option.bind_some]
          cases hq : a.tmps[t]? with
          | none => rfl
          | some v =>
            rw [Array.getD_eq_getD_getElem?, hq] at hv
            simp at hv
            subst hv
            rfl
        simp only [Region.wanted, hg, hy]
        cases want <;> rfl
      · cases hs
/-- A region, in the order of its text. -/
theorem runOps_ok (hC : SoundC P A.te Gl C) {all : Array Oper} {Q : Exit → Act → World → Prop} {K : St → Option R} {rr : R} (hK : ∀ σ a w, K σ = some rr → Ok A.te Gl w0 M n lo a0 σ a w → Q .normal a w) :
    ∀ (l : List Oper) (is : List Nat) (σ : St) (a : Act) (w : World), l.length = is.length → (∀ (j i : Nat), is[j]? = some i → all[i]? = l[j]?) → runOps P A fid n lo C all l σ K = some rr → Ok A.te Gl w0 M n lo a0 σ a w → wpOps P all Q is a w
  | [], [], σ, a, w, _, _, h, hok => hK σ a w h hok
  | o :: l, i :: is, σ, a, w, hl, hi, h, hok => by
    simp only [runOps] at h
    have ho : all[i]? = some o := by have := hi 0 i rfl; simpa using this
    cases hd : dstOk n lo o with
    | false => rw [hd] at h; cases h
    | true =>
      rw [hd] at h
      simp only [cond_true] at h
      obtain ⟨want, env, h1, h2, h3⟩ := guardK_ok h hok
      simp only [wpOps, ho, h2]
      have hrec : ∀ (σ : St) (a : Act) (w : World), runOps P A fid n lo C all l σ K = some rr → Ok A.te Gl w0 M n lo a0 σ a w → wpOps P all Q is a w :=
        fun σ a w => runOps_ok hC hK l is σ a w (by simpa using hl) (fun j i hj => by have := hi (j + 1) i (by simpa using hj); simpa using this)
      cases want with
      | true =>
        simp only [cond_true] at h1
        simp only [if_true]
        exact .inl (stepK_ok hC h1 h3 hd fun v u v' w' hk hok' => hrec _ _ _ hk hok')
      | false =>
        simp only [cond_false] at h1
        simp only [Bool.false_eq_true, if_false]
        obtain ⟨c, rfl, hc⟩ := h3
        exact hrec _ _ _ h1 ⟨c, rfl, hc.te, hc.hp, hc.mem, hc.regs.put (fun d hd' => (dst_lt hd d hd').1) (rep_tup0 _), hc.glob, pin_put hd hc.pin undef⟩
  | [], _ :: _, _, _, _, hl, _, _, _ => by simp at hl
  | _ :: _, [], _, _, _, hl, _, _, _ => by simp at hl
end
end Go.Eng
