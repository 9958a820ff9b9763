/- A function's code: what comes of it. -/
import Derived.Test.YtdkpbikegheieaaDoorE24
import Derived.LoopN
set_option linter.all false
set_option linter.unusedVariables false
set_option linter.unusedSimpArgs false
set_option linter.deprecated false
namespace Go.Eng
open Go.RowKit
theorem hget_kept (h : List (Nat × Obj)) (id : Nat) : ∀ (keep : List Nat), hget (keptH keep h) id = if id ∈ keep then hget h id else none
  | [] => rfl
  | t :: r => by
    have ih := hget_kept h id r
    unfold keptH at ih ⊢
    rw [List.filterMap_cons]
    cases hq : hget h t with
    | none =>
      simp only
      rw [ih]
      by_cases e : id = t
      · subst e
        simp [hq]
      · simp [e]
    | some o =>
      simp only [hget]
      by_cases e : t = id
      · subst e
        simp [hq]
      · have : Nat.beq t id = false := by
          cases hb : Nat.beq t id with
          | true => exact (e (Nat.eq_of_beq_eq_true hb)).elim
          | false => rfl
        rw [this]
        simp only [cond_false]
        rw [ih]
        have : ¬ id = t := fun h => e h.symm
        simp [this]
theorem hget_map (f : Obj → Obj) (id : Nat) : ∀ (h : List (Nat × Obj)), hget (h.map fun p => (p.1, f p.2)) id = (hget h id).map f
  | [] => rfl
  | (t, o) :: r => by
    simp only [List.map_cons, hget]
    cases Nat.beq t id with
    | true => rfl
    | false => exact hget_map f id r
theorem look_kept (f : AV → AV) (hf : f .undef = .undef) (env : List (Nat × AV)) (t : Nat) : ∀ (keep : List Nat), look ((keptE keep env).map fun p => (p.1, f p.2)) t = f (look env t) ∨ look ((keptE keep env).map fun p => (p.1, f p.2)) t = .undef
  | [] => .inr rfl
  | u :: r => by
    simp only [keptE, List.map_cons, look]
    cases hq : Nat.beq u t with
    | true =>
      have := Nat.eq_of_beq_eq_true hq
      subst this
      exact .inl rfl
    | false => exact look_kept f hf env t r
section
variable {P : Program} {A : Ann} {fid : Nat} {Gl : Nat → Option Go.Obj} {C : CallF} {w0 : World} {M : MS} {n lo : Nat} {a0 : Array Value} {R : Type}
theorem renewS_rep {c c' : Cx} {h : List (Nat × Obj)} (hte : c'.te = c.te) (hw : c'.w = c.w) (hS : c'.S = c.S) (hβ : c'.β = c.β) (hsub : ∀ id o, hget h id = some o → c.hp id = some o) (hhp : ∀ id, c'.hp id = (hget h id).map (renewO h))
    {s : S} {v : Value} (hr : RepS c s v) : RepS c' (renewS h s) v := by
  cases s with
  | undef => exact hr
  | bool b => exact hr
  | int k n => exact hr
  | str s => exact hr
  | err e => simp only [renewS, RepS] at hr ⊢; rw [hte]; exact hr
  | fn f => exact hr
  | nilS => exact hr
  | sl k xs => simp only [renewS, RepS] at hr ⊢; rw [hte, hw, hS]; exact hr
  | vw id g =>
    simp only [renewS]
    split
    · rename_i k xs gen hist frz hq
      cases hg : Nat.beq g gen with
      | false => exact hr.1
      | true =>
        have hg := Nat.eq_of_beq_eq_true hg
        subst hg
        obtain ⟨h1, o, h2, h3⟩ := hr
        have := hsub id _ hq
        rw [h2] at this; cases this
        refine ⟨h1, _, by rw [hhp, hq]; rfl, ?_⟩
        intro k' xs' gen' hist' frz' he
        cases he
        refine ⟨Nat.le_refl _, fun _ => ?_, fun h => (h rfl).elim⟩
        have := (h3 _ _ _ _ _ rfl).2.1 rfl
        unfold VwNow at this ⊢
        rw [hβ, hw]; exact this
    · exact hr.1
  | pv id g off len =>
    simp only [renewS]
    split
    · rename_i k xs gen hist frz hq
      cases hg : Nat.beq g gen with
      | false => exact hr.1
      | true =>
        have hg := Nat.eq_of_beq_eq_true hg
        subst hg
        obtain ⟨h1, o, h2, h3⟩ := hr
        have := hsub id _ hq
        rw [h2] at this; cases this
        refine ⟨h1, _, by rw [hhp, hq]; rfl, ?_⟩
        intro k' xs' gen' hist' frz' he
        cases he
        refine ⟨Nat.le_refl _, fun _ => ?_⟩
        have := (h3 _ _ _ _ _ rfl).2 rfl
        unfold VwNow at this ⊢
        rw [hβ, hw]; exact this
    · exact hr.1
  | ptr id g i p =>
    simp only [renewS]
    split
    · rename_i k xs gen hist frz hq
      cases hg : Nat.beq g gen with
      | false => exact hr.1
      | true =>
        have hg := Nat.eq_of_beq_eq_true hg
        subst hg
        obtain ⟨h1, o, h2, h3, h4, h5⟩ := hr
        have := hsub id _ hq
        rw [h2] at this; cases this
        refine ⟨h1, _, by rw [hhp, hq]; rfl, h3, fun cs he => ?_, fun k' xs' gen' hist' frz' he => ?_⟩
        · cases he
        · cases he
          refine ⟨Nat.le_refl _, fun _ => ?_⟩
          have := (h5 _ _ _ _ _ rfl).2 rfl
          rw [hβ]; exact this
    · rename_i cs hq
      obtain ⟨h1, o, h2, h3, h4, h5⟩ := hr
      have := hsub id _ hq
      rw [h2] at this; cases this
      refine ⟨h1, _, by rw [hhp, hq]; rfl, h3, fun cs' he hne => ?_, fun k' xs' gen' hist' frz' he => ?_⟩
      · cases he
        rw [hβ]
        exact h4 cs rfl (by rintro rfl; exact hne rfl)
      · cases he
    · exact hr.1
  | ipt k x p => simp only [renewS, RepS] at hr ⊢; rw [hte, hw, hS]; exact hr
  | mv k xs => exact hr
  | io k x => exact hr
theorem lr_renew {c c' : Cx} {h : List (Nat × Obj)} (hs : ∀ s v, RepS c s v → RepS c' (renewS h s) v) : ∀ {cs : List S} {vs : List Value}, LR (RepS c) cs vs → LR (RepS c') (cs.map (renewS h)) vs
  | [], [], _ => trivial
  | _ :: _, _ :: _, q => ⟨hs _ _ q.1, lr_renew hs q.2⟩
  | [], _ :: _, q => q.elim
  | _ :: _, [], q => q.elim
theorem lr_renewP {c c' : Cx} {h : List (Nat × Obj)} (hs : ∀ s v, RepS c s v → RepS c' (renewS h s) v) : ∀ {vs : List (Bool × List S)} {us : List Value},
    LR (fun (p : Bool × List S) u => if p.1 then ∃ a, u = Value.agg a ∧ LR (RepS c) p.2 a.toList else ∃ s, p.2 = [s] ∧ RepS c s u) vs us →
    LR (fun (p : Bool × List S) u => if p.1 then ∃ a, u = Value.agg a ∧ LR (RepS c') p.2 a.toList else ∃ s, p.2 = [s] ∧ RepS c' s u) (vs.map fun v => (v.1, v.2.map (renewS h))) us
  | [], [], _ => trivial
  | (true, cs) :: _, _ :: _, q => by
    obtain ⟨⟨a, q1, q2⟩, q3⟩ := q
    exact ⟨⟨a, q1, lr_renew hs q2⟩, lr_renewP hs q3⟩
  | (false, cs) :: _, _ :: _, q => by
    obtain ⟨⟨s, q1, q2⟩, q3⟩ := q
    dsimp only at q1
    subst q1
    exact ⟨⟨renewS h s, rfl, hs _ _ q2⟩, lr_renewP hs q3⟩
  | [], _ :: _, q => q.elim
  | _ :: _, [], q => q.elim
theorem renewV_rep {c c' : Cx} {h : List (Nat × Obj)} (hs : ∀ s v, RepS c s v → RepS c' (renewS h s) v) {a : AV} {v : Value} (hr : RepV c a v) : RepV c' (renewV h a) v := by
  cases a with
  | undef => trivial
  | val g cs =>
    cases g with
    | true => obtain ⟨arr, h1, h2⟩ := hr; exact ⟨arr, h1, lr_renew hs h2⟩
    | false => obtain ⟨s, rfl, h2⟩ := hr; exact ⟨_, rfl, hs _ _ h2⟩
  | tup vs => obtain ⟨arr, h1, h2⟩ := hr; exact ⟨arr, h1, lr_renewP hs h2⟩
theorem renewO_live (h : List (Nat × Obj)) (o : Obj) : (renewO h o).live = o.live := by
  cases o with
  | row k xs g hi f => rfl
  | box cs => cases cs <;> rfl
/-- A loop's head. -/
theorem norm_ok {keep : List Nat} {σ : St} {a : Act} {w : World} (hok : Ok A.te Gl w0 M n lo a0 σ a w) : Ok A.te Gl w0 M n lo a0 (norm keep σ) a w := by
  obtain ⟨c, rfl, hc⟩ := hok
  have hsub : ∀ id o, hget (keptH keep σ.heap) id = some o → c.hp id = some o := by
    intro id o ho
    rw [hget_kept] at ho
    split at ho
    · rw [hc.hp]; exact ho
    · cases ho
  have hhp : ∀ id, hget (norm keep σ).heap id = (hget (keptH keep σ.heap) id).map (renewO (keptH keep σ.heap)) := fun id => hget_map _ id _
  have hs : ∀ s v, RepS c s v → RepS { c with hp := hget (norm keep σ).heap } (renewS (keptH keep σ.heap) s) v := fun s v hr => renewS_rep (c := c) (c' := { c with hp := hget (norm keep σ).heap }) rfl rfl rfl rfl hsub hhp hr
  have hlive : ∀ id b, Live { c with hp := hget (norm keep σ).heap } id b → Live c id b := by
    rintro id b ⟨h1, o, h2, h3⟩
    dsimp only at h2
    rw [hhp] at h2
    cases hq : hget (keptH keep σ.heap) id with
    | none => rw [hq] at h2; cases h2
    | some o' =>
      rw [hq] at h2
      simp only [Option.map_some, Option.some.injEq] at h2
      subst h2
      rw [renewO_live] at h3
      exact ⟨h1, o', hsub id o' hq, h3⟩
  refine ⟨{ c with hp := hget (norm keep σ).heap }, rfl, hc.te, rfl, ⟨hc.mem.fr, hc.mem.below, fun id o ho => ?_, fun id b hl => hc.mem.live id b (hlive id b hl), fun id id' b hl hl' => hc.mem.one id id' b (hlive id b hl) (hlive id' b hl'), hc.mem.sup, hc.mem.inf⟩,
    ⟨hc.regs.size, hc.regs.defers, fun t => ?_⟩, hc.glob, hc.pin⟩
  · dsimp only at ho
    rw [hhp] at ho
    cases hq : hget (keptH keep σ.heap) id with
    | none => rw [hq] at ho; cases ho
    | some o' =>
      rw [hq] at ho
      simp only [Option.map_some, Option.some.injEq] at ho
      subst ho
      have hro := hc.mem.obj id o' (hsub id o' hq)
      cases o' with
      | row k xs gen hist frz => exact hro
      | box cs =>
        intro hne
        obtain ⟨b, arr, h1, h2, h3⟩ := hro (by rintro rfl; exact hne rfl)
        refine ⟨b, arr, h1, h2, ?_⟩
        rw [List.length_map]
        exact lr_renew hs h3
  · rcases look_kept (renewV (keptH keep σ.heap)) rfl σ.env t keep with h | h
    · have h : look (norm keep σ).env t = renewV (keptH keep σ.heap) (look σ.env t) := h
      rw [h]
      exact renewV_rep hs (hc.regs.rep t)
    · have h : look (norm keep σ).env t = .undef := h
      rw [h]; trivial
def exC : Ex → Exit
  | .normal => .normal
  | .ret => .ret
  | .exit id => .exit id
theorem repO_slot {c : Cx} {n : Nat} {env : List (Nat × AV)} {a : Act} (h : Regs c n env a) (x : Operand) : RepV c (evalO env x) (a.eval x) := by
  cases x with
  | tmp t => exact h.rep t
  | const v => exact rep_const c v
  | global g => trivial
  | func f => exact ⟨_, rfl, rfl⟩
theorem runCode_ok (hC : SoundC P A.te Gl C) (hmx : P.follows .mixedOrders = true) {fuel : Nat} {rr : R} : ∀ (c : Code) (blk : Nat) (σ : St) (K : Ex → St → Option R) (a : Act) (w : World) (Q : Exit → Act → World → Prop),
    runCode P A fid n lo fuel C blk c σ K = some rr → Ok A.te Gl w0 M n lo a0 σ a w → (∀ e σ' a' w', K e σ' = some rr → Ok A.te Gl w0 M n lo a0 σ' a' w' → Q (exC e) a' w') → c.wp P Q a w := by
  intro c
  induction c with
  | skip => intro blk σ K a w Q h hok hK; exact wp_skip (hK .normal σ a w h hok)
  | region id ops d =>
    intro blk σ K a w Q h hok hK
    cases d with
    | false =>
      refine wp_region (runOps_ok hC (fun σ' a' w' hk hok' => hK .normal σ' a' w' hk hok') ops.toList (List.range ops.size) σ a w (by simp) (fun j i hj => ?_) h hok)
      rw [List.getElem?_range] at hj
      · cases hj; rw [Array.getElem?_toList]
      · have := (List.getElem?_eq_some_iff.1 hj).1
        simpa using this
    | true =>
      simp only [runCode] at h
      cases hed : edgesOk 0 ops.toList with
      | false => rw [hed] at h; cases h
      | true =>
        rw [hed] at h
        simp only [cond_true] at h
        refine regionD_ok hC hmx h hed (fun lg σ' hk => ?_) hok
        cases hl : logOk ops (Region.before ops) 0 ops.toList lg.reverse with
        | false => rw [hl] at hk; cases hk
        | true =>
          rw [hl] at hk
          simp only [cond_true] at hk
          refine ⟨rfl, fun σ'' a w e1 e2 hok' => hK .normal σ' a w hk ?_⟩
          obtain ⟨c, hcw, hc⟩ := hok'
          exact ⟨c, hcw, hc.te, hc.hp.trans e2, hc.mem, ⟨hc.regs.size, hc.regs.defers, fun t => by rw [← e1]; exact hc.regs.rep t⟩, hc.glob, hc.pin⟩
  | seq x y ihx ihy =>
    intro blk σ K a w Q h hok hK
    simp only [runCode] at h
    refine wp_seq (ihx blk σ _ a w _ h hok fun e σ' a' w' hk hok' => ?_)
    cases e with
    | normal => exact ihy blk σ' K a' w' Q hk hok' hK
    | ret => exact hK .ret σ' a' w' hk hok'
    | exit id => exact hK (.exit id) σ' a' w' hk hok'
  | cond cnd x y ihx ihy =>
    intro blk σ K a w Q h hok hK
    simp only [runCode] at h
    split at h
    · rename_i v hv
      have hb : a.eval cnd = .bool v := by
        obtain ⟨c, rfl, hc⟩ := hok
        exact slot_rep (fun x => repO_slot hc.regs x) hv
      cases v with
      | true => exact wp_cond_true hb (ihx blk σ K a w Q h hok hK)
      | false => exact wp_cond_false hb (ihy blk σ K a w Q h hok hK)
    · cases h
  | block id x ih =>
    intro blk σ K a w Q h hok hK
    simp only [runCode] at h
    refine wp_block (ih id σ _ a w _ h hok fun e σ' a' w' hk hok' => ?_)
    cases e with
    | normal => exact hK .normal σ' a' w' hk hok'
    | ret => exact hK .ret σ' a' w' hk hok'
    | exit j =>
      show if j = id then Q .normal a' w' else Q (.exit j) a' w'
      dsimp only at hk
      cases hq : Nat.beq j id with
      | true =>
        rw [hq] at hk
        rw [if_pos (Nat.eq_of_beq_eq_true hq)]
        exact hK .normal σ' a' w' hk hok'
      | false =>
        rw [hq] at hk
        rw [if_neg (fun e => by rw [e] at hq; simp at hq)]
        exact hK (.exit j) σ' a' w' hk hok'
  | loop x ih =>
    intro blk σ K a w Q h hok hK
    simp only [runCode] at h
    have key : ∀ (m : Nat) (σ : St) (a : Act) (w : World), loopN (A.keep fid blk) (fun σ K' => runCode P A fid n lo fuel C blk x σ K') m σ K = some rr → Ok A.te Gl w0 M n lo a0 σ a w → Code.rounds P x Q m a w := by
      intro m
      induction m with
      | zero => intro σ a w h _; cases h
      | succ m ihm =>
        intro σ a w h hok
        simp only [loopN] at h
        rw [rounds_succ]
        refine ih blk σ _ a w _ h hok fun e σ' a' w' hk hok' => ?_
        cases e with
        | normal => exact ihm _ a' w' hk (norm_ok hok')
        | ret => exact hK .ret σ' a' w' hk hok'
        | exit id => exact hK (.exit id) σ' a' w' hk hok'
    exact wp_loop_rounds fuel (key fuel _ a w h (norm_ok hok))
  | exit id => intro blk σ K a w Q h hok hK; exact wp_exit (hK (.exit id) σ a w h hok)
  | ret => intro blk σ K a w Q h hok hK; exact wp_ret (hK .ret σ a w h hok)
  | _ => intros; rename_i h _ _; cases h
end
end Go.Eng
