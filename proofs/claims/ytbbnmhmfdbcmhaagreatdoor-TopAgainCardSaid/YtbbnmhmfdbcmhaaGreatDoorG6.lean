/- Definitions and lemmas for the law TopAgain: what the program's functions come to. Conditions: as each lemma says. -/
import Derived.Test.YtbbnmhmfdbcmhaaGreatDoorG5
import Derived.Test.YtbbnmhmfdbcmhaaGreatDoorProg
import Derived.StillTailTactics
import Derived.Below
import Derived.WalkKit
import Derived.LaidEql
import Derived.Stop.Asserts
import Derived.RowKitTokens
import Derived.Test.YtbbnmhmfdbcmhaaGreatDoorRows
import Derived.ChangeSame
import Derived.ChangeVars
import Derived.JoinedOf
import Derived.RowKit
import Derived.LaidLaws
import Derived.LaidHandle
import Derived.Stop.Joined
set_option linter.all false
set_option linter.unusedVariables false
set_option linter.unusedSimpArgs false
set_option linter.deprecated false
namespace Go.Eng.Top
open Go.RowKit Go.Eng Go.Eng.LVar Go.Eng.LCrc Go.Eng.LFrm
set_option maxRecDepth 100000
theorem DI.mono {c : DC} {j d t u n u' n' : Nat} (h : DI c j d t u n) (hu : u <= u') (hn : n <= n') : DI c j d t u' n' := by
 obtain ⟨b, r, h1, h2, h3, h4⟩ := h.files
 exact ⟨h.dk, h.jd, h.jt, h.jb, ⟨h.jr.1, Nat.le_trans h.jr.2 hn⟩, h.jk, b, r, h1, h2, fun g hg => ⟨(h3 g hg).1, Nat.le_trans (h3 g hg).2 hu⟩, h4⟩
theorem set_snoc {α : Type} (l : List α) (x y : α) {i : Nat} (h : i = l.length) : (l ++ [x]).set i y = l ++ [y] := by
 subst h; rw [List.set_append_right _ _ (Nat.le_refl _)]; simp
theorem getD_snoc' {α : Type} (l : List α) (x z : α) {i : Nat} (h : i = l.length) : (l ++ [x]).getD i z = x := by
 subst h; exact getD_snoc l x z
theorem new_ev : Ev1 (fun k => CF k g_ops_New n_ops_New []) s0 := Ev1.of_rfl 40 (fun k => by kernel_rfl)
theorem scan_ev : Ev1 (fun k => CF k g_frame_Scan n_frame_Scan [inj BB []]) ([], 0) := Ev1.of_rfl 10 (fun k => by kernel_rfl)
theorem jopen_ev {F : List MF} {L : List Int} {S : List Bool} {jd : List (Option Nat)} {jt : List Int} {jb : List (List Int)} {jr : List (List (List Int))} {jk : List Bool} {B : List (List Int)} {sf : List Int} {d : Nat} (hF : F.getD d [] = []) (hr : jr.length = jd.length) (ht : jt.length = jd.length) :
  Ev1 (fun k => CF k g_journal_Open n_journal_Open [inj (.ref 29) (some d), Cdfiles_ F, Cdleft_ L, Cdstopped_ S, Cjdisk_ jd, Cjturn_ jt, Cjbase_ jb, Cjrecords_ jr, Cjbroken_ jk, Cfbytes_ B, Cfsafe_ sf])
   (some jd.length, none, F, L, S, jd ++ [some d], jt ++ [0], jb ++ [[]], jr ++ [[]], jk ++ [false], B, sf) := by
 refine Ev1.step (fun k => f_journal_Open k (some d) F L S jd jt jb jr jk B sf _ rfl _ rfl _ rfl _ rfl) (Ev1.bind (read_none hF rfl) (Ev1.neg rfl ?_))
 have e2 : w64 (2 + (jt ++ [0]).getD jd.length 0) = 2 := by rw [getD_snoc' jt 0 0 ht.symm]; exact w64_id (by omega)
 have h3 : Ev2 (fun k m => h_journal_Open_3 k m (some d) jd.length [] 0 0 F L S (jd ++ [some d]) (jt ++ [0]) (jb ++ [[]]) (jr ++ [[]]) (jk ++ [false]) B sf)
   (some jd.length, none, F, L, S, jd ++ [some d], jt ++ [0], jb ++ [[]], jr ++ [[]], jk ++ [false], B, sf) := by
  refine Ev2.step (fun k m => h_journal_Open_3_s k m (some d) jd.length [] 0 0 F L S (jd ++ [some d]) (jt ++ [0]) (jb ++ [[]]) (jr ++ [[]]) (jk ++ [false]) B sf _ rfl _ rfl _ rfl) (Ev2.negD (by omega) (Ev2.bind (read_none hF rfl) (Ev2.bind scan_ev (Ev2.neg rfl (Ev2.const ?_)))))
  rw [set_snoc jr [] [] hr.symm]
 have h1 : Ev2 (fun k m => h_journal_Open_1 k m (some d) jd.length F L S (jd ++ [some d]) (jt ++ [0]) (jb ++ [[]]) (jr ++ [[]]) (jk ++ [false]) B sf)
   (some jd.length, none, F, L, S, jd ++ [some d], jt ++ [0], jb ++ [[]], jr ++ [[]], jk ++ [false], B, sf) :=
  Ev2.step (fun k m => h_journal_Open_1_s k m (some d) jd.length F L S (jd ++ [some d]) (jt ++ [0]) (jb ++ [[]]) (jr ++ [[]]) (jk ++ [false]) B sf) (Ev2.bind (names_ev hF) (Ev1.drop h3.diag))
 exact h1.diag
theorem turn_ev' {j : Nat} {jt : List Int} {t : Int} (h : jt.getD j 0 = t) : Ev1 (fun k => CF k g_journal_Journal_Turn n_journal_Journal_Turn [inj (.ref 99) (some j), Cjturn_ jt]) (t, jt) := by
 refine Ev1.step (fun k => f_journal_Journal_Turn k (some j) jt) (Ev1.pos rfl (Ev1.const ?_))
 show some (jt.getD j 0, jt) = _
 rw [h]
theorem recs_ev {j : Nat} {jr : List (List (List Int))} (h : jr.getD j [] = []) : Ev1 (fun k => CF k g_journal_Journal_Records n_journal_Journal_Records [inj (.ref 99) (some j), Cjrecords_ jr]) ([], jr) := by
 refine Ev1.step (fun k => f_journal_Journal_Records k (some j) jr) (Ev1.pos rfl ?_)
 simp only [Option.getD_some]
 rw [h]
 have h2 : Ev2 (fun k m => h_journal_Journal_Records k m (some j) j 0 0 [] jr) ([], jr) := Ev2.step (fun k m => h_journal_Journal_Records_s k m (some j) j 0 0 [] jr _ rfl _ rfl) (Ev2.negD (by omega) (Ev2.now _))
 exact h2.diag
theorem dopen_ev {F : List MF} {L : List Int} {S : List Bool} {ej : List (Option Nat)} {es : List TState} {jd : List (Option Nat)} {jt : List Int} {jb : List (List Int)} {jr : List (List (List Int))} {jk : List Bool} {B : List (List Int)} {sf : List Int} {d : Nat} (hF : F.getD d [] = []) (hr : jr.length = jd.length) (ht : jt.length = jd.length) :
  Ev1 (fun k => CF k g_durable_Open n_durable_Open [inj (.ref 29) (some d), Cdfiles_ F, Cdleft_ L, Cdstopped_ S, CeJournal_ ej, Ces_ es, Cjdisk_ jd, Cjturn_ jt, Cjbase_ jb, Cjrecords_ jr, Cjbroken_ jk, Cfbytes_ B, Cfsafe_ sf])
   (some ej.length, none, F, L, S, ej ++ [some jd.length], es ++ [s0], jd ++ [some d], jt ++ [0], jb ++ [[]], jr ++ [[]], jk ++ [false], B, sf) := by
 have h1 : Ev2 (fun k m => h_durable_Open_1 k m (some d) ej.length [] 0 0 F L S (ej ++ [some jd.length]) (es ++ [s0]) (jd ++ [some d]) (jt ++ [0]) (jb ++ [[]]) (jr ++ [[]]) (jk ++ [false]) B sf)
   (some ej.length, none, F, L, S, ej ++ [some jd.length], es ++ [s0], jd ++ [some d], jt ++ [0], jb ++ [[]], jr ++ [[]], jk ++ [false], B, sf) :=
  Ev2.step (fun k m => h_durable_Open_1_s k m (some d) ej.length [] 0 0 F L S (ej ++ [some jd.length]) (es ++ [s0]) (jd ++ [some d]) (jt ++ [0]) (jb ++ [[]]) (jr ++ [[]]) (jk ++ [false]) B sf) (Ev2.negD (by omega) (Ev2.now _))
 have h0 : Ev2 (fun k m => h_durable_Open k m (some d) (some jd.length) ej.length F L S (ej ++ [some jd.length]) (es ++ [s0]) (jd ++ [some d]) (jt ++ [0]) (jb ++ [[]]) (jr ++ [[]]) (jk ++ [false]) B sf)
   (some ej.length, none, F, L, S, ej ++ [some jd.length], es ++ [s0], jd ++ [some d], jt ++ [0], jb ++ [[]], jr ++ [[]], jk ++ [false], B, sf) :=
  Ev2.step (fun k m => h_durable_Open_s k m (some d) (some jd.length) ej.length F L S (ej ++ [some jd.length]) (es ++ [s0]) (jd ++ [some d]) (jt ++ [0]) (jb ++ [[]]) (jr ++ [[]]) (jk ++ [false]) B sf) (Ev2.bind (recs_ev (getD_snoc' jr [] [] hr.symm)) (Ev1.drop h1.diag))
 exact Ev1.step (fun k => f_durable_Open k (some d) F L S ej es jd jt jb jr jk B sf) (Ev1.bind (jopen_ev hF hr ht) (Ev1.neg rfl (Ev1.bind new_ev (Ev1.bind (turn_ev' (getD_snoc' jt 0 0 ht.symm)) (Ev1.negD (by omega) h0.diag)))))
theorem state_len {s : TState} (h : Inv s) : (encs (stL s)).length <= 100000 := by
 have h0 := h.op.rt.hi
 have h1 := h.op.pl
 have h2 := h.gl
 have h3 := h.kl
 have hl := encs_len (stL_i64 h.st)
 have e0 := fm_len acL 3 (fun _ => rfl) s.1
 have e1 := fm_len payL 8 (fun _ => rfl) s.2.1
 have e2 := fm_len sagL 11 (fun _ => rfl) s.2.2.1
 have e3 := fm_len knL 10 (fun _ => rfl) s.2.2.2.1
 have : (stL s).length <= 5000 := by
  simp only [stL, t1, t2, t3, List.length_cons, List.length_append]
  omega
 omega
theorem eev {x : Nat} {es : List TState} {s : TState} (h : es.getD x ([], [], [], [], 0) = s) : Ev1 (fun k => CF k g_durable_Engine_State n_durable_Engine_State [inj (.ref 30) (some x), Ces_ es]) (s, es) := by
 refine Ev1.step (fun k => f_durable_Engine_State k (some x) es) (Ev1.pos rfl (Ev1.const ?_))
 show some (es.getD x ([], [], [], [], 0), es) = _
 rw [h]
theorem set_same {α : Type} (l : List α) (i : Nat) (z : α) (h : i < l.length) {x : α} (hx : l.getD i z = x) : l.set i x = l := by
 rw [getD_at l i z h] at hx
 rw [<- hx, List.set_getElem_self]
theorem ddo_ev (c : DC) {x j d t u n : Nat} {ej : List (Option Nat)} {es : List TState} {s : TState} (h : DI c j d t u n) (hs : Inv s) (hej : ej.getD x none = some j) (hx : x < es.length) (hes : es.getD x ([], [], [], [], 0) = s) (e : TEvent) (he : I64 (evL e)) (hr : I64 (rqL e.2.1)) (hu : u <= 190000) (hn : n <= 90000) (ht : t <= 90000) :
  ∃ c', Ev1 (fun k => CF k g_durable_Engine_Do n_durable_Engine_Do [inj (.ref 30) (some x), inj KEvent e, Cdfiles_ c.F, Cdroom_ c.R, Cdleft_ c.L, Cdstopped_ c.S, CeJournal_ ej, Ces_ es, Cjdisk_ c.jd, Cjturn_ c.jt, Cjbase_ c.jb, Cjrecords_ c.jr, Cjbroken_ c.jk, Cfbytes_ c.B, Cfsafe_ c.sf])
   ((doF s e).2, c'.F, c'.R, c'.L, c'.S, ej, es.set x (doF s e).1, c'.jd, c'.jt, c'.jb, c'.jr, c'.jk, c'.B, c'.sf) /\ DI c' j d t (u + 86) (n + 1) /\ Lens c c' := by
 have hd := do_ev hs e
 have hi := (do_all hs e hr).1
 have hst := same_st s (doF s e).1 hs.st hi.st
 have hel := event_len e he
 by_cases hq : stL s = stL (doF s e).1
 ·have hqe : (doF s e).1 = s := (stL_inj hq).symm
  refine ⟨c, Ev1.step (fun k => f_durable_Engine_Do k (some x) e c.F c.R c.L c.S ej es c.jd c.jt c.jb c.jr c.jk c.B c.sf s hes.symm) (Ev1.pos rfl ?_), h.mono (by omega) (by omega), Lens.refl c⟩
  simp only [Option.getD_some]
  rw [hej]
  refine Ev1.bind (broken_ev h.jk) (Ev1.neg rfl (Ev1.pos rfl (Ev1.bind hd (Ev1.pos rfl (Ev1.bind hst (Ev1.posD hq (Ev1.const ?_)))))))
  rw [hqe, set_same es x _ hx hes]
 ·obtain ⟨c', ha, hjb, hD, hL⟩ := jappend c h (encs (evL e)) (by omega) (by omega) (by omega) (by omega)
  refine ⟨c', Ev1.step (fun k => f_durable_Engine_Do k (some x) e c.F c.R c.L c.S ej es c.jd c.jt c.jb c.jr c.jk c.B c.sf s hes.symm) (Ev1.pos rfl ?_), hD.mono (by omega) (by omega), hL⟩
  simp only [Option.getD_some]
  rw [hej]
  refine Ev1.bind (broken_ev h.jk) (Ev1.neg rfl (Ev1.pos rfl (Ev1.bind hd (Ev1.pos rfl (Ev1.bind hst (Ev1.negD hq (Ev1.bind (event_ev e he) (Ev1.pos rfl (Ev1.bind ha (Ev1.pos rfl (Ev1.neg rfl ?_)))))))))))
  have h2 : Ev2 (fun k m => h_durable_Engine_Do k m (some x) none 0 0 (doF s e).1.1 (doF s e).1.2.1 (doF s e).1.2.2.1 (doF s e).1.2.2.2.1 (doF s e).1.2.2.2.2 (doF s e).2.1 (doF s e).2.2 c'.F c'.R c'.L c'.S ej es c'.jd c'.jt c.jb c'.jr c'.jk c'.B c'.sf)
   ((doF s e).2, c'.F, c'.R, c'.L, c'.S, ej, es.set x (doF s e).1, c'.jd, c'.jt, c'.jb, c'.jr, c'.jk, c'.B, c'.sf) := by
   rw [hjb]
   exact Ev2.step (fun k m => h_durable_Engine_Do_s k m (some x) none 0 0 (doF s e).1.1 (doF s e).1.2.1 (doF s e).1.2.2.1 (doF s e).1.2.2.2.1 (doF s e).1.2.2.2.2 (doF s e).2.1 (doF s e).2.2 c'.F c'.R c'.L c'.S ej es c'.jd c'.jt c.jb c'.jr c'.jk c'.B c'.sf) (Ev2.neg rfl (Ev2.pos rfl (Ev2.now _)))
  exact h2.diag
theorem dkeep_ev (c : DC) {x j d t u n : Nat} {ej : List (Option Nat)} {es : List TState} {s : TState} (h : DI c j d t u n) (hs : Inv s) (hej : ej.getD x none = some j) (hes : es.getD x ([], [], [], [], 0) = s) (hu : u <= 190000) (ht : t <= 90000) :
  ∃ e c' t', Ev1 (fun k => CF k g_durable_Engine_Keep n_durable_Engine_Keep [inj (.ref 30) (some x), Cdfiles_ c.F, Cdroom_ c.R, Cdleft_ c.L, Cdstopped_ c.S, CeJournal_ ej, Ces_ es, Cjdisk_ c.jd, Cjturn_ c.jt, Cjbase_ c.jb, Cjrecords_ c.jr, Cjbroken_ c.jk, Cfbytes_ c.B, Cfsafe_ c.sf])
   (e, c'.F, c'.R, c'.L, c'.S, ej, es, c'.jd, c'.jt, c'.jb, c'.jr, c'.jk, c'.B, c'.sf) /\ DI c' j d t' u n /\ t <= t' /\ t' <= t + 1 /\ Lens c c' := by
 have hl := state_len hs
 obtain ⟨e, c', t', he, hD, h1, h2, hL⟩ := jsave c h (encs (stL s)) (by omega) (by omega) (by omega)
 refine ⟨e, c', t', Ev1.step (fun k => f_durable_Engine_Keep k (some x) c.F c.R c.L c.S ej es c.jd c.jt c.jb c.jr c.jk c.B c.sf) (Ev1.pos rfl (Ev1.pos rfl ?_)), hD, h1, h2, hL⟩
 simp only [Option.getD_some]
 rw [hej, hes]
 exact Ev1.bind (state_ev s hs.st) (Ev1.bind he (Ev1.now _))
end Go.Eng.Top
namespace Go.Eng.Top
open Go.RowKit Go.Eng Go.Eng.LVar
set_option maxRecDepth 100000
abbrev zS : TSaid := ((0, 0, 0, 0, 0, 0, 0), 0, 0)
abbrev zT : TState := ([], [], [], [], 0)
abbrev zR : TRequest := (0, 0, 0, 0, 0, 0, 0)
abbrev St2 : Type := TState × List TSaid
def askS (p : St2) (r : TRequest) : St2 := ((doF p.1 (0, r, 0, false)).1, p.2 ++ [(r, (doF p.1 (0, r, 0, false)).2)])
def actF (p : St2) (a : TEvent) : St2 :=
 if a.1 = 0 then askS p a.2.1
 else if a.1 = 1 then (if 0 < (p.2.length : Int) then askS p (p.2.getD (Int.toNat (Int.tmod a.2.2.1 (p.2.length : Int))) zS).1 else p)
 else if a.1 = 2 then (if 0 < ((waitsF p.1).length : Int) then ((doF p.1 (1, zR, (waitsF p.1).getD (Int.toNat (Int.tmod a.2.2.1 ((waitsF p.1).length : Int))) 0, a.2.2.2)).1, p.2) else p)
 else if a.1 = 3 then ((doF p.1 (2, zR, 0, false)).1, p.2)
 else p
structure AOk (a : TEvent) : Prop where
 kind : 0 <= a.1 /\ a.1 <= 4
 n : 0 <= a.2.2.1
 rq : I64 (rqL a.2.1)
structure WC where
 wd : List (Option Nat)
 we : List (Option Nat)
 ws : List (List TSaid)
 wn : List (List TEvent)
 wc : List Int
 wr : List (Option Int)
 ww : List TState
 wo : List (List TEvent)
 ej : List (Option Nat)
 es : List TState
 c : DC
structure WI (W : WC) (w x j d : Nat) (s : TState) (said : List TSaid) (t u n : Nat) : Prop where
 wd : W.wd.getD w none = some d
 we : W.we.getD w none = some x
 ws : w < W.ws.length /\ W.ws.getD w [] = said
 wn : w < W.wn.length /\ (W.wn.getD w []).length <= n
 wr : W.wr.getD w none = none
 wo : w < W.wo.length /\ (W.wo.getD w []).length <= n
 ej : W.ej.getD x none = some j
 es : x < W.es.length /\ W.es.getD x zT = s
 di : DI W.c j d t u n
 inv : Inv s
 sl : said.length <= n
 sr : ∀ a ∈ said, I64 (rqL a.1)
structure Fr (W W' : WC) (w x : Nat) : Prop where
 wd : W'.wd = W.wd
 we : W'.we = W.we
 wc : W'.wc = W.wc
 wr : W'.wr = W.wr
 ej : W'.ej = W.ej
 ws : ∀ i, i ≠ w -> W'.ws.getD i [] = W.ws.getD i []
 es : ∀ i, i ≠ x -> W'.es.getD i zT = W.es.getD i zT
 lws : W'.ws.length = W.ws.length
 lwn : W'.wn.length = W.wn.length
 lww : W'.ww.length = W.ww.length
 lwo : W'.wo.length = W.wo.length
 les : W'.es.length = W.es.length
 c : Lens W.c W'.c
theorem Fr.refl (W : WC) (w x : Nat) : Fr W W w x := ⟨rfl, rfl, rfl, rfl, rfl, fun _ _ => rfl, fun _ _ => rfl, rfl, rfl, rfl, rfl, rfl, Lens.refl _⟩
theorem Fr.trans {A B C : WC} {w x : Nat} (h : Fr A B w x) (k : Fr B C w x) : Fr A C w x :=
 ⟨k.wd.trans h.wd, k.we.trans h.we, k.wc.trans h.wc, k.wr.trans h.wr, k.ej.trans h.ej, fun i hi => (k.ws i hi).trans (h.ws i hi), fun i hi => (k.es i hi).trans (h.es i hi), k.lws.trans h.lws, k.lwn.trans h.lwn, k.lww.trans h.lww, k.lwo.trans h.lwo, k.les.trans h.les, h.c.trans k.c⟩
noncomputable abbrev callDoes (k w : Nat) (e : TEvent) (W : WC) := CF k g_world_World_does n_world_World_does [inj (.ref 26) (some w), inj KEvent e, CwEngine_ W.we, CwDone_ W.wn, Cwwas_ W.ww, Cwopen_ W.wo, Cdfiles_ W.c.F, Cdroom_ W.c.R, Cdleft_ W.c.L, Cdstopped_ W.c.S, CeJournal_ W.ej, Ces_ W.es, Cjdisk_ W.c.jd, Cjturn_ W.c.jt, Cjbase_ W.c.jb, Cjrecords_ W.c.jr, Cjbroken_ W.c.jk, Cfbytes_ W.c.B, Cfsafe_ W.c.sf]
abbrev outD (o : TReply) (W : WC) : R6 := (o, W.we, W.wn, W.ww, W.wo, W.c.F, W.c.R, W.c.L, W.c.S, W.ej, W.es, W.c.jd, W.c.jt, W.c.jb, W.c.jr, W.c.jk, W.c.B, W.c.sf)
noncomputable abbrev callAsk (k w : Nat) (r : TRequest) (W : WC) := CF k g_world_World_ask n_world_World_ask [inj (.ref 26) (some w), inj KRequest r, CwEngine_ W.we, CwSaid_ W.ws, CwDone_ W.wn, Cwwas_ W.ww, Cwopen_ W.wo, Cdfiles_ W.c.F, Cdroom_ W.c.R, Cdleft_ W.c.L, Cdstopped_ W.c.S, CeJournal_ W.ej, Ces_ W.es, Cjdisk_ W.c.jd, Cjturn_ W.c.jt, Cjbase_ W.c.jb, Cjrecords_ W.c.jr, Cjbroken_ W.c.jk, Cfbytes_ W.c.B, Cfsafe_ W.c.sf]
abbrev outK (W : WC) : R5 := (W.we, W.ws, W.wn, W.ww, W.wo, W.c.F, W.c.R, W.c.L, W.c.S, W.ej, W.es, W.c.jd, W.c.jt, W.c.jb, W.c.jr, W.c.jk, W.c.B, W.c.sf)
noncomputable abbrev callAct (k w : Nat) (a : TEvent) (keep : Int) (W : WC) := CF k g_world_World_Act n_world_World_Act [inj (.ref 26) (some w), inj KEvent a, inj I keep, CwDisk_ W.wd, CwEngine_ W.we, CwSaid_ W.ws, CwDone_ W.wn, CwCrashes_ W.wc, CwErr_ W.wr, Cwwas_ W.ww, Cwopen_ W.wo, Cdfiles_ W.c.F, Cdroom_ W.c.R, Cdleft_ W.c.L, Cdstopped_ W.c.S, CeJournal_ W.ej, Ces_ W.es, Cjdisk_ W.c.jd, Cjturn_ W.c.jt, Cjbase_ W.c.jb, Cjrecords_ W.c.jr, Cjbroken_ W.c.jk, Cfbytes_ W.c.B, Cfsafe_ W.c.sf]
abbrev outW (W : WC) : R3 := (W.wd, W.we, W.ws, W.wn, W.wc, W.wr, W.ww, W.wo, W.c.F, W.c.R, W.c.L, W.c.S, W.ej, W.es, W.c.jd, W.c.jt, W.c.jb, W.c.jr, W.c.jk, W.c.B, W.c.sf)
theorem does_ev (W : WC) {w x j d : Nat} {s : TState} {said : List TSaid} {t u n : Nat} (h : WI W w x j d s said t u n) (e : TEvent) (he : I64 (evL e)) (hr : I64 (rqL e.2.1)) (hu : u <= 190000) (hn : n <= 90000) (ht : t <= 90000) :
  ∃ W', Ev1 (fun k => callDoes k w e W) (outD (doF s e).2 W') /\ WI W' w x j d (doF s e).1 said t (u + 86) (n + 1) /\ W'.ws = W.ws /\ Fr W W' w x := by
 obtain ⟨c', hd, hD, hL⟩ := ddo_ev W.c h.di h.inv h.ej h.es.1 h.es.2 e he hr hu hn ht
 have hinv := (do_all h.inv e hr).1
 have hsl := h.sl
 have hwn := h.wn.2
 have hwo := h.wo.2
 have base : ∀ (wn' wo' : List (List TEvent)), wn'.length = W.wn.length -> wo'.length = W.wo.length -> (wn'.getD w []).length <= n + 1 -> (wo'.getD w []).length <= n + 1 ->
   WI ⟨W.wd, W.we, W.ws, wn', W.wc, W.wr, W.ww.set w s, wo', W.ej, W.es.set x (doF s e).1, c'⟩ w x j d (doF s e).1 said t (u + 86) (n + 1) /\ Fr W ⟨W.wd, W.we, W.ws, wn', W.wc, W.wr, W.ww.set w s, wo', W.ej, W.es.set x (doF s e).1, c'⟩ w x := by
  intro wn' wo' h1 h2 h3 h4
  refine ⟨⟨h.wd, h.we, h.ws, ⟨by rw [h1]; exact h.wn.1, h3⟩, h.wr, ⟨by rw [h2]; exact h.wo.1, h4⟩, h.ej, ⟨by rw [List.length_set]; exact h.es.1, getD_set_self _ _ _ _ h.es.1⟩, hD, hinv, by omega, h.sr⟩, ⟨rfl, rfl, rfl, rfl, rfl, fun _ _ => rfl, fun i hi => getD_set_ne _ _ _ (Ne.symm hi), rfl, h1, List.length_set, h2, List.length_set, hL⟩⟩
 have go : ∀ {g : Nat -> R9 -> Option R6} {r : R6}, Ev1 (fun k => g k ((doF s e).2, c'.F, c'.R, c'.L, c'.S, W.ej, W.es.set x (doF s e).1, c'.jd, c'.jt, c'.jb, c'.jr, c'.jk, c'.B, c'.sf)) r ->
   Ev1 (fun k => (CF k g_durable_Engine_Do n_durable_Engine_Do [inj (.ref 30) (W.we.getD w none), inj KEvent e, Cdfiles_ W.c.F, Cdroom_ W.c.R, Cdleft_ W.c.L, Cdstopped_ W.c.S, CeJournal_ W.ej, Ces_ W.es, Cjdisk_ W.c.jd, Cjturn_ W.c.jt, Cjbase_ W.c.jb, Cjrecords_ W.c.jr, Cjbroken_ W.c.jk, Cfbytes_ W.c.B, Cfsafe_ W.c.sf]).bind (g k)) r := by
  intro g r hg
  rw [h.we]
  exact Ev1.bind hd hg
 have hst : Ev1 (fun k => CF k g_durable_Engine_State n_durable_Engine_State [inj (.ref 30) (W.we.getD w none), Ces_ W.es]) (s, W.es) := by rw [h.we]; exact eev h.es.2
 by_cases c12 : (doF s e).2.1 = 12
 ·obtain ⟨q1, q2⟩ := base W.wn (W.wo.set w (W.wo.getD w [] ++ [e])) rfl List.length_set (by omega) (by rw [getD_set_self _ _ _ _ h.wo.1, List.length_append]; simp only [List.length_cons, List.length_nil]; omega)
  refine ⟨⟨W.wd, W.we, W.ws, W.wn, W.wc, W.wr, W.ww.set w s, W.wo.set w (W.wo.getD w [] ++ [e]), W.ej, W.es.set x (doF s e).1, c'⟩, Ev1.step (fun k => f_world_World_does k (some w) e W.we W.wn W.ww W.wo W.c.F W.c.R W.c.L W.c.S W.ej W.es W.c.jd W.c.jt W.c.jb W.c.jr W.c.jk W.c.B W.c.sf _ rfl _ rfl) (Ev1.pos rfl (Ev1.bind hst (Ev1.pos rfl (Ev1.pos rfl (go ?_))))), q1, rfl, q2⟩
  exact Ev1.posD c12 (Ev1.pos rfl (Ev1.posD (by simp only [Option.getD_some, List.length_cons, List.length_nil]; omega) (Ev1.pos rfl (Ev1.pos (by simp) (Ev1.now _)))))
 ·by_cases c8 : (doF s e).2.1 = 8
  ·obtain ⟨q1, q2⟩ := base W.wn W.wo rfl rfl (by omega) (by omega)
   refine ⟨⟨W.wd, W.we, W.ws, W.wn, W.wc, W.wr, W.ww.set w s, W.wo, W.ej, W.es.set x (doF s e).1, c'⟩, Ev1.step (fun k => f_world_World_does k (some w) e W.we W.wn W.ww W.wo W.c.F W.c.R W.c.L W.c.S W.ej W.es W.c.jd W.c.jt W.c.jb W.c.jr W.c.jk W.c.B W.c.sf _ rfl _ rfl) (Ev1.pos rfl (Ev1.bind hst (Ev1.pos rfl (Ev1.pos rfl (go ?_))))), q1, rfl, q2⟩
   exact Ev1.negD c12 (Ev1.posD c8 (Ev1.now _))
  ·obtain ⟨q1, q2⟩ := base (W.wn.set w (W.wn.getD w [] ++ [e])) W.wo List.length_set rfl (by rw [getD_set_self _ _ _ _ h.wn.1, List.length_append]; simp only [List.length_cons, List.length_nil]; omega) (by omega)
   refine ⟨⟨W.wd, W.we, W.ws, W.wn.set w (W.wn.getD w [] ++ [e]), W.wc, W.wr, W.ww.set w s, W.wo, W.ej, W.es.set x (doF s e).1, c'⟩, Ev1.step (fun k => f_world_World_does k (some w) e W.we W.wn W.ww W.wo W.c.F W.c.R W.c.L W.c.S W.ej W.es W.c.jd W.c.jt W.c.jb W.c.jr W.c.jk W.c.B W.c.sf _ rfl _ rfl) (Ev1.pos rfl (Ev1.bind hst (Ev1.pos rfl (Ev1.pos rfl (go ?_))))), q1, rfl, q2⟩
   exact Ev1.negD c12 (Ev1.negD c8 (Ev1.pos rfl (Ev1.posD (by simp only [Option.getD_some, List.length_cons, List.length_nil]; omega) (Ev1.pos rfl (Ev1.pos (by simp) (Ev1.now _))))))
theorem i64_ev0 {r : TRequest} (h : I64 (rqL r)) : I64 (evL (0, r, 0, false)) := i64_cons.2 ⟨by simp, by simpa [evL] using h⟩
theorem i64_ev1 {key : Int} (h : -9223372036854775808 <= key /\ key <= 9223372036854775807) (ok : Bool) : I64 (evL (1, zR, key, ok)) := by
 refine i64_cons.2 ⟨by simp, ?_⟩
 simp only [show ¬ ((1 : Int) = 0) by omega, if_false, if_true]
 refine i64_cons.2 ⟨h, ?_⟩
 cases ok <;> simp [I64]
theorem i64_ev2 : I64 (evL (2, zR, 0, false)) := by simp [evL, I64]
theorem ask_w (W : WC) {w x j d : Nat} {s : TState} {said : List TSaid} {t u n : Nat} (h : WI W w x j d s said t u n) (r : TRequest) (hr : I64 (rqL r)) (hu : u <= 190000) (hn : n <= 90000) (ht : t <= 90000) :
  ∃ W', Ev1 (fun k => callAsk k w r W) (outK W') /\ WI W' w x j d (askS (s, said) r).1 (askS (s, said) r).2 t (u + 86) (n + 1) /\ Fr W W' w x := by
 obtain ⟨W', hd, hW, hws, hF⟩ := does_ev W h (0, r, 0, false) (i64_ev0 hr) hr hu hn ht
 have hsl := h.sl
 have hlw : w < W'.ws.length := hW.ws.1
 refine ⟨⟨W'.wd, W'.we, W.ws.set w (W.ws.getD w [] ++ [(r, (doF s (0, r, 0, false)).2)]), W'.wn, W'.wc, W'.wr, W'.ww, W'.wo, W'.ej, W'.es, W'.c⟩, Ev1.step (fun k => f_world_World_ask k (some w) r W.we W.ws W.wn W.ww W.wo W.c.F W.c.R W.c.L W.c.S W.ej W.es W.c.jd W.c.jt W.c.jb W.c.jr W.c.jk W.c.B W.c.sf _ rfl) (Ev1.pos rfl (Ev1.bind hd (Ev1.posD ?_ (Ev1.pos rfl (Ev1.pos (by simp) (Ev1.now _)))))), ⟨hW.wd, hW.we, ⟨by rw [List.length_set]; exact h.ws.1, by rw [getD_set_self _ _ _ _ h.ws.1, h.ws.2]; rfl⟩, hW.wn, hW.wr, hW.wo, hW.ej, hW.es, hW.di, hW.inv, ?_, ?_⟩, ⟨hF.wd, hF.we, hF.wc, hF.wr, hF.ej, fun i hi => getD_set_ne _ _ _ (Ne.symm hi), hF.es, List.length_set, hF.lwn, hF.lww, hF.lwo, hF.les, hF.c⟩⟩
 ·simp only [Option.getD_some]
  rw [h.ws.2]
  simp only [List.length_cons, List.length_nil]
  omega
 ·show (said ++ [_]).length <= n + 1
  rw [List.length_append]; simp only [List.length_cons, List.length_nil]; omega
 ·intro a ha
  rcases List.mem_append.1 (show a ∈ said ++ [_] from ha) with ha | ha
  ·exact h.sr a ha
  ·rw [List.mem_singleton] at ha; rw [ha]; exact hr
theorem stop_ev (W : WC) {w x j d : Nat} {s : TState} {said : List TSaid} {t u n : Nat} (h : WI W w x j d s said t u n) : Ev1 (fun k => CF k g_disk_Disk_Stopped n_disk_Disk_Stopped [inj (.ref 29) (W.wd.getD w none), Cdstopped_ W.c.S]) (false, W.c.S) := by
 rw [h.wd]
 refine Ev1.step (fun k => f_disk_Disk_Stopped k (some d) W.c.S) (Ev1.pos rfl (Ev1.const ?_))
 show some (W.c.S.getD d false, W.c.S) = _
 rw [h.di.dk.stop]
theorem WI.mono {W : WC} {w x j d : Nat} {s : TState} {said : List TSaid} {t u n u' n' : Nat} (h : WI W w x j d s said t u n) (hu : u <= u') (hn : n <= n') : WI W w x j d s said t u' n' :=
 ⟨h.wd, h.we, h.ws, ⟨h.wn.1, Nat.le_trans h.wn.2 hn⟩, h.wr, ⟨h.wo.1, Nat.le_trans h.wo.2 hn⟩, h.ej, h.es, h.di.mono hu hn, h.inv, Nat.le_trans h.sl hn, h.sr⟩
theorem tmod_in {a : Int} (ha : 0 <= a) {n : Nat} (hn : 0 < (n : Int)) : 0 <= Int.tmod a (n : Int) /\ Int.tmod a (n : Int) < (n : Int) := by
 rw [Int.tmod_eq_emod_of_nonneg ha]
 exact ⟨Int.emod_nonneg _ (by omega), Int.emod_lt_of_pos _ hn⟩
theorem getD_mem {α : Type} (l : List α) (z : α) {i : Int} (h : 0 <= i /\ i < (l.length : Int)) : l.getD (Int.toNat i) z ∈ l := by
 obtain ⟨n, rfl⟩ := Int.eq_ofNat_of_zero_le h.1
 rw [Int.toNat_natCast, getD_at l n z (by omega)]
 exact List.getElem_mem _
theorem act_ev (W : WC) {w x j d : Nat} {s : TState} {said : List TSaid} {t u n : Nat} (h : WI W w x j d s said t u n) (a : TEvent) (ha : AOk a) (keep : Int) (hu : u <= 190000) (hn : n <= 90000) (ht : t <= 90000) :
  ∃ W' t', Ev1 (fun k => callAct k w a keep W) (outW W') /\ WI W' w x j d (actF (s, said) a).1 (actF (s, said) a).2 t' (u + 86) (n + 1) /\ t' <= t + 1 /\ Fr W W' w x := by
 have hwr : (W.wr.getD w none).isSome = false := by rw [h.wr]; rfl
 have step := fun k => f_world_World_Act k (some w) a keep W.wd W.we W.ws W.wn W.wc W.wr W.ww W.wo W.c.F W.c.R W.c.L W.c.S W.ej W.es W.c.jd W.c.jt W.c.jb W.c.jr W.c.jk W.c.B W.c.sf said (by simp only [Option.getD_some]; exact h.ws.2.symm) _ rfl _ rfl
 have hsl := h.sl
 unfold actF
 by_cases k0 : a.1 = 0
 ·rw [if_pos k0]
  obtain ⟨W', hk, hW, hF⟩ := ask_w W h a.2.1 ha.rq hu hn ht
  have hstp : Ev1 (fun k => CF k g_disk_Disk_Stopped n_disk_Disk_Stopped [inj (.ref 29) (W.wd.getD w none), Cdstopped_ W'.c.S]) (false, W'.c.S) := by have := stop_ev W' hW; rw [hF.wd] at this; exact this
  refine ⟨⟨W.wd, W'.we, W'.ws, W'.wn, W.wc, W.wr, W'.ww, W'.wo, W'.ej, W'.es, W'.c⟩, t, Ev1.step step (Ev1.pos rfl (Ev1.neg hwr (Ev1.posD k0 (Ev1.bind hk (Ev1.pos rfl (Ev1.bind hstp (Ev1.neg rfl (Ev1.now _)))))))), ⟨h.wd, hW.we, hW.ws, hW.wn, h.wr, hW.wo, hW.ej, hW.es, hW.di, hW.inv, hW.sl, hW.sr⟩, by omega, ⟨rfl, hF.we, rfl, rfl, hF.ej, hF.ws, hF.es, hF.lws, hF.lwn, hF.lww, hF.lwo, hF.les, hF.c⟩⟩
 rw [if_neg k0]
 by_cases k1 : a.1 = 1
 ·rw [if_pos k1]
  by_cases hs : 0 < (said.length : Int)
  ·rw [if_pos hs]
   have hm := tmod_in ha.n hs
   have hmem := getD_mem said zS hm
   obtain ⟨W', hk, hW, hF⟩ := ask_w W h (said.getD (Int.toNat (Int.tmod a.2.2.1 (said.length : Int))) zS).1 (h.sr _ hmem) hu hn ht
   have hstp : Ev1 (fun k => CF k g_disk_Disk_Stopped n_disk_Disk_Stopped [inj (.ref 29) (W.wd.getD w none), Cdstopped_ W'.c.S]) (false, W'.c.S) := by have := stop_ev W' hW; rw [hF.wd] at this; exact this
   refine ⟨⟨W.wd, W'.we, W'.ws, W'.wn, W.wc, W.wr, W'.ww, W'.wo, W'.ej, W'.es, W'.c⟩, t, Ev1.step step (Ev1.pos rfl (Ev1.neg hwr (Ev1.negD k0 (Ev1.posD k1 (Ev1.pos rfl (Ev1.posD hs (Ev1.pos rfl (Ev1.pos rfl (Ev1.pos (by rw [decide_eq_false (show ¬ ((said.length : Int) = 0) by omega)]; rfl) (Ev1.pos (inb_true hm.1 hm.2) (Ev1.bind hk (Ev1.pos rfl (Ev1.bind hstp (Ev1.neg rfl (Ev1.now _))))))))))))))), ⟨h.wd, hW.we, hW.ws, hW.wn, h.wr, hW.wo, hW.ej, hW.es, hW.di, hW.inv, hW.sl, hW.sr⟩, by omega, ⟨rfl, hF.we, rfl, rfl, hF.ej, hF.ws, hF.es, hF.lws, hF.lwn, hF.lww, hF.lwo, hF.les, hF.c⟩⟩
  ·rw [if_neg hs]
   exact ⟨W, t, Ev1.step step (Ev1.pos rfl (Ev1.neg hwr (Ev1.negD k0 (Ev1.posD k1 (Ev1.pos rfl (Ev1.negD hs (Ev1.pos rfl (Ev1.bind (stop_ev W h) (Ev1.neg rfl (Ev1.now _)))))))))), h.mono (by omega) (by omega), by omega, Fr.refl W w x⟩
 rw [if_neg k1]
 by_cases k2 : a.1 = 2
 ·rw [if_pos k2]
  have hst : Ev1 (fun k => CF k g_durable_Engine_State n_durable_Engine_State [inj (.ref 30) (W.we.getD w none), Ces_ W.es]) (s, W.es) := by rw [h.we]; exact eev h.es.2
  have hwt := waits_ev h.inv.gl
  by_cases hs : 0 < ((waitsF s).length : Int)
  ·rw [if_pos hs]
   have hm := tmod_in ha.n hs
   have hmem := getD_mem (waitsF s) 0 hm
   have hkey : -9223372036854775808 <= (waitsF s).getD (Int.toNat (Int.tmod a.2.2.1 ((waitsF s).length : Int))) 0 /\ (waitsF s).getD (Int.toNat (Int.tmod a.2.2.1 ((waitsF s).length : Int))) 0 <= 9223372036854775807 := by
    obtain ⟨g, hg, e⟩ := List.mem_map.1 hmem
    rw [<- e]
    have := h.inv.gs g hg
    unfold sagL rqL at this
    exact (i64_cons.1 this).1
   obtain ⟨W', hk, hW, hws, hF⟩ := does_ev W h (1, zR, (waitsF s).getD (Int.toNat (Int.tmod a.2.2.1 ((waitsF s).length : Int))) 0, a.2.2.2) (i64_ev1 hkey _) (by simp [rqL, I64]) hu hn ht
   have hstp : Ev1 (fun k => CF k g_disk_Disk_Stopped n_disk_Disk_Stopped [inj (.ref 29) (W.wd.getD w none), Cdstopped_ W'.c.S]) (false, W'.c.S) := by have := stop_ev W' hW; rw [hF.wd] at this; exact this
   refine ⟨⟨W.wd, W'.we, W.ws, W'.wn, W.wc, W.wr, W'.ww, W'.wo, W'.ej, W'.es, W'.c⟩, t, Ev1.step step (Ev1.pos rfl (Ev1.neg hwr (Ev1.negD k0 (Ev1.negD k1 (Ev1.posD k2 (Ev1.pos rfl (Ev1.bind hst (Ev1.bind hwt (Ev1.posD hs (Ev1.pos (by rw [decide_eq_false (show ¬ (((waitsF s).length : Int) = 0) by omega)]; rfl) (Ev1.pos (inb_true hm.1 hm.2) (Ev1.bind hk (Ev1.pos rfl (Ev1.bind hstp (Ev1.neg rfl (Ev1.now _)))))))))))))))), ⟨h.wd, hW.we, h.ws, hW.wn, h.wr, hW.wo, hW.ej, hW.es, hW.di, hW.inv, hW.sl, hW.sr⟩, by omega, ⟨rfl, hF.we, rfl, rfl, hF.ej, fun _ _ => rfl, hF.es, rfl, hF.lwn, hF.lww, hF.lwo, hF.les, hF.c⟩⟩
  ·rw [if_neg hs]
   exact ⟨W, t, Ev1.step step (Ev1.pos rfl (Ev1.neg hwr (Ev1.negD k0 (Ev1.negD k1 (Ev1.posD k2 (Ev1.pos rfl (Ev1.bind hst (Ev1.bind hwt (Ev1.negD hs (Ev1.pos rfl (Ev1.bind (stop_ev W h) (Ev1.neg rfl (Ev1.now _))))))))))))), h.mono (by omega) (by omega), by omega, Fr.refl W w x⟩
 rw [if_neg k2]
 by_cases k3 : a.1 = 3
 ·rw [if_pos k3]
  obtain ⟨W', hk, hW, hws, hF⟩ := does_ev W h (2, zR, 0, false) i64_ev2 (by simp [rqL, I64]) hu hn ht
  have hstp : Ev1 (fun k => CF k g_disk_Disk_Stopped n_disk_Disk_Stopped [inj (.ref 29) (W.wd.getD w none), Cdstopped_ W'.c.S]) (false, W'.c.S) := by have := stop_ev W' hW; rw [hF.wd] at this; exact this
  refine ⟨⟨W.wd, W'.we, W.ws, W'.wn, W.wc, W.wr, W'.ww, W'.wo, W'.ej, W'.es, W'.c⟩, t, Ev1.step step (Ev1.pos rfl (Ev1.neg hwr (Ev1.negD k0 (Ev1.negD k1 (Ev1.negD k2 (Ev1.posD k3 (Ev1.bind hk (Ev1.pos rfl (Ev1.bind hstp (Ev1.neg rfl (Ev1.now _))))))))))), ⟨h.wd, hW.we, h.ws, hW.wn, h.wr, hW.wo, hW.ej, hW.es, hW.di, hW.inv, hW.sl, hW.sr⟩, by omega, ⟨rfl, hF.we, rfl, rfl, hF.ej, fun _ _ => rfl, hF.es, rfl, hF.lwn, hF.lww, hF.lwo, hF.les, hF.c⟩⟩
 rw [if_neg k3]
 have k4 : a.1 = 4 := by have := ha.kind; omega
 obtain ⟨e, c', t', hk, hD, h1, h2, hL⟩ := dkeep_ev W.c h.di h.inv h.ej h.es.2 hu ht
 have hst : Ev1 (fun k => CF k g_disk_Disk_Stopped n_disk_Disk_Stopped [inj (.ref 29) (W.wd.getD w none), Cdstopped_ c'.S]) (false, c'.S) := by
  rw [h.wd]
  refine Ev1.step (fun k => f_disk_Disk_Stopped k (some d) c'.S) (Ev1.pos rfl (Ev1.const ?_))
  show some (c'.S.getD d false, c'.S) = _
  rw [hD.dk.stop]
 have hk2 : Ev1 (fun k => CF k g_durable_Engine_Keep n_durable_Engine_Keep [inj (.ref 30) (W.we.getD w none), Cdfiles_ W.c.F, Cdroom_ W.c.R, Cdleft_ W.c.L, Cdstopped_ W.c.S, CeJournal_ W.ej, Ces_ W.es, Cjdisk_ W.c.jd, Cjturn_ W.c.jt, Cjbase_ W.c.jb, Cjrecords_ W.c.jr, Cjbroken_ W.c.jk, Cfbytes_ W.c.B, Cfsafe_ W.c.sf])
   (e, c'.F, c'.R, c'.L, c'.S, W.ej, W.es, c'.jd, c'.jt, c'.jb, c'.jr, c'.jk, c'.B, c'.sf) := by rw [h.we]; exact hk
 refine ⟨⟨W.wd, W.we, W.ws, W.wn, W.wc, W.wr, W.ww, W.wo, W.ej, W.es, c'⟩, t', Ev1.step step (Ev1.pos rfl (Ev1.neg hwr (Ev1.negD k0 (Ev1.negD k1 (Ev1.negD k2 (Ev1.negD k3 (Ev1.posD k4 (Ev1.pos rfl (Ev1.bind hk2 (Ev1.pos rfl (Ev1.bind hst (Ev1.neg rfl (Ev1.now _))))))))))))), (WI.mono ⟨h.wd, h.we, h.ws, h.wn, h.wr, h.wo, h.ej, h.es, hD, h.inv, h.sl, h.sr⟩ (by omega) (by omega)), h2, ⟨rfl, rfl, rfl, rfl, rfl, fun _ _ => rfl, fun _ _ => rfl, rfl, rfl, rfl, rfl, rfl, hL⟩⟩
end Go.Eng.Top
namespace Go.Eng.Top
open Go.RowKit Go.Eng Go.Eng.LVar
set_option maxRecDepth 100000
set_option maxHeartbeats 1000000
def oneR (n a1 a2 a3 a4 a5 : Int) : TRequest :=
 (n, a1 % 8, (if a1 % 8 = 0 then a2 % 3 else if 4 <= a1 % 8 then a2 % 4 else 9 + a2 % 6), 9 + a3 % 6, 1 + a4 * 7, (if a1 % 8 = 2 then a5 % 4 else 0), (if a1 % 8 = 3 then 1 + a5 % 8 else 0))
def oneF (a0 a1 a2 a3 a4 a5 n : Int) : TEvent :=
 if a0 % 12 = 0 then (1, zR, a1, false)
 else if a0 % 12 < 4 then (2, zR, a1, decide (0 < a2 % 4))
 else if a0 % 12 = 4 then (3, zR, 0, false)
 else if a0 % 12 = 5 then (if 0 < a1 % 4 then (4, zR, 0, false) else (5, zR, a2 % 4, false))
 else (0, oneR n a1 a2 a3 a4 a5, 0, false)
theorem tm {x d : Int} (h : 0 <= x) : Int.tmod x d = x % d := Int.tmod_eq_emod_of_nonneg h
theorem one_eq (a0 a1 a2 a3 a4 a5 n : Int) (h0 : 0 <= a0 /\ a0 <= 255) (h1 : 0 <= a1 /\ a1 <= 255) (h2 : 0 <= a2 /\ a2 <= 255) (h3 : 0 <= a3 /\ a3 <= 255) (h4 : 0 <= a4 /\ a4 <= 255) (h5 : 0 <= a5 /\ a5 <= 255) :
  Ev1 (fun k => CF k g_script_one n_script_one [inj BB [a0, a1, a2, a3, a4, a5], inj (.int .i64) n]) (oneF a0 a1 a2 a3 a4 a5 n) := by
 refine Ev1.step (fun k => f_script_one k [a0, a1, a2, a3, a4, a5] n a5 rfl a2 rfl a1 rfl (a0 % 12) (tm h0.1).symm (a1 % 4) (tm h1.1).symm (a2 % 4) (tm h2.1).symm (a1 % 8) ?_ (9 + a3 % 6) ?_ (9 + a2 % 6) ?_ (1 + a4 * 7) ?_ _ rfl _ rfl _ rfl _ rfl _ rfl _ rfl _ rfl) (Ev1.const ?_)
 ·rw [tm h1.1, w64_id (by omega)]
 ·show _ = w64 (9 + w64 (Int.tmod a3 6)); rw [tm h3.1, w64_id (x := a3 % 6) (by omega), w64_id (by omega)]
 ·show _ = w64 (9 + w64 (Int.tmod a2 6)); rw [tm h2.1, w64_id (x := a2 % 6) (by omega), w64_id (by omega)]
 ·show _ = w64 (1 + w64 (w64 a4 * 7)); rw [w64_id (x := a4) (by omega), w64_id (x := a4 * 7) (by omega), w64_id (by omega)]
 rw [tm h2.1, tm h5.1, tm h5.1, w64_id (x := a1) (by omega), w64_id (x := a2 % 4) (by omega), w64_id (x := a2 % 3) (by omega), w64_id (x := a5 % 4) (by omega), w64_id (x := a5 % 8) (by omega), w64_id (x := 1 + a5 % 8) (by omega)]
 have q0 : inb 0 [a0, a1, a2, a3, a4, a5].length = true := rfl
 have q1 : inb 1 [a0, a1, a2, a3, a4, a5].length = true := rfl
 have q2 : inb 2 [a0, a1, a2, a3, a4, a5].length = true := rfl
 have q3 : inb 3 [a0, a1, a2, a3, a4, a5].length = true := rfl
 have q4 : inb 4 [a0, a1, a2, a3, a4, a5].length = true := rfl
 have q5 : inb 5 [a0, a1, a2, a3, a4, a5].length = true := rfl
 simp only [q0, q1, q2, q3, q4, q5, cond_true]
 clear q0 q1 q2 q3 q4 q5
 have hb : 0 <= a0 % 12 /\ a0 % 12 < 12 := by omega
 have hc : 0 <= a1 % 8 /\ a1 % 8 < 8 := by omega
 have hd : 0 <= a1 % 4 := by omega
 unfold oneF oneR zR
 generalize a0 % 12 = m at hb ⊢
 generalize a1 % 8 = o at hc ⊢
 generalize a1 % 4 = u at hd ⊢
 rcases (by omega : m = 0 \/ m = 1 \/ m = 2 \/ m = 3 \/ m = 4 \/ m = 5 \/ 6 <= m) with rfl | rfl | rfl | rfl | rfl | rfl | h
 ·rfl
 ·rfl
 ·rfl
 ·rfl
 ·rfl
 ·by_cases hu : 0 < u
  ·simp [hu]
  ·simp [hu]
 ·rw [if_neg (by omega), if_neg (by omega), if_neg (by omega), if_neg (by omega)]
  simp only [decide_eq_false (show ¬ m = 0 by omega), decide_eq_false (show ¬ m = 1 by omega), decide_eq_false (show ¬ m = 2 by omega), decide_eq_false (show ¬ m = 3 by omega), decide_eq_false (show ¬ m = 4 by omega), decide_eq_false (show ¬ m = 5 by omega), cond_false]
  rcases (by omega : o = 0 \/ o = 1 \/ o = 2 \/ o = 3 \/ o = 4 \/ o = 5 \/ o = 6 \/ o = 7) with rfl | rfl | rfl | rfl | rfl | rfl | rfl | rfl <;> rfl
def actAt (b : List Int) (i : Nat) (n : Int) : TEvent := oneF (b.getD (6 * i) 0) (b.getD (6 * i + 1) 0) (b.getD (6 * i + 2) 0) (b.getD (6 * i + 3) 0) (b.getD (6 * i + 4) 0) (b.getD (6 * i + 5) 0) n
def acts (b : List Int) : List TEvent := (List.range (b.length / 6)).map fun i => actAt b i (i : Int)
theorem acts_len (b : List Int) : (acts b).length = b.length / 6 := by simp [acts]
theorem getD_drop (b : List Int) (m j : Nat) : (b.drop m).getD j 0 = b.getD (m + j) 0 := by
 rw [List.getD_eq_getElem?_getD, List.getD_eq_getElem?_getD, List.getElem?_drop]
theorem six6 (b : List Int) (h : 6 <= b.length) : b.take 6 = [b.getD 0 0, b.getD 1 0, b.getD 2 0, b.getD 3 0, b.getD 4 0, b.getD 5 0] := by
 rcases b with _ | ⟨a0, _ | ⟨a1, _ | ⟨a2, _ | ⟨a3, _ | ⟨a4, _ | ⟨a5, r⟩⟩⟩⟩⟩⟩ <;> first | rfl | (simp at h)
theorem byt_get {b : List Int} (h : Byt b) (i : Nat) : 0 <= b.getD i 0 /\ b.getD i 0 <= 255 := by
 rw [List.getD_eq_getElem?_getD]
 cases hq : b[i]? with
 | none => simp
 | some y => exact h y (List.mem_of_getElem? hq)
theorem acts_l (b : List Int) (hb : Byt b) (hl : b.length <= 4000000) : ∀ (d i : Nat), i + d = b.length / 6 -> Ev2 (fun k m => h_script_Acts k m (b.drop (6 * i)) ((List.range i).map fun j => actAt b j (j : Int))) (acts b) := by
 intro d
 induction d with
 | zero =>
  intro i hi
  refine Ev2.step (fun k m => h_script_Acts_s k m (b.drop (6 * i)) _ _ rfl) (Ev2.negD (by rw [List.length_drop]; omega) ?_)
  rw [show i = b.length / 6 by omega]
  exact Ev2.now _
 | succ d ih =>
  intro i hi
  have hle : 6 * i + 6 <= b.length := by omega
  have hd : (6 : Int) <= ((b.drop (6 * i)).length : Int) := by rw [List.length_drop]; omega
  refine Ev2.step (fun k m => h_script_Acts_s k m (b.drop (6 * i)) _ _ rfl) (Ev2.posD hd (Ev2.posD hd ?_))
  rw [six6 (b.drop (6 * i)) (by omega)]
  simp only [getD_drop, Nat.add_zero, List.length_map, List.length_range]
  refine Ev2.bind (one_eq _ _ _ _ _ _ (i : Int) (byt_get hb _) (byt_get hb _) (byt_get hb _) (byt_get hb _) (byt_get hb _) (byt_get hb _)) (Ev2.posD (by simp only [List.length_cons, List.length_nil]; omega) (Ev2.posD hd ?_))
  have e1 : (b.drop (6 * i)).drop 6 = b.drop (6 * (i + 1)) := by rw [List.drop_drop, Nat.mul_succ]
  have e2 : (List.range i).map (fun j => actAt b j (j : Int)) ++ [actAt b i (i : Int)] = (List.range (i + 1)).map fun j => actAt b j (j : Int) := by
   rw [List.range_succ, List.map_append]; rfl
  rw [e1]
  have := ih (i + 1) (by omega)
  rw [<- e2] at this
  exact this
theorem acts_ev (b : List Int) (hb : Byt b) (hl : b.length <= 4000000) : Ev1 (fun k => CF k g_script_Acts n_script_Acts [inj BB b]) (acts b) :=
 Ev1.step (fun k => f_script_Acts k b) (Ev2.diag (f := fun k m => h_script_Acts k m b []) (acts_l b hb hl (b.length / 6) 0 (by omega)))
theorem oneR_i64 {n a1 a2 a3 a4 a5 : Int} (hn : 0 <= n /\ n <= 1000000) (h1 : 0 <= a1 /\ a1 <= 255) (h2 : 0 <= a2 /\ a2 <= 255) (h3 : 0 <= a3 /\ a3 <= 255) (h4 : 0 <= a4 /\ a4 <= 255) (h5 : 0 <= a5 /\ a5 <= 255) : I64 (rqL (oneR n a1 a2 a3 a4 a5)) := by
 simp only [oneR, rqL, I64, List.mem_cons, List.not_mem_nil, or_false, forall_eq_or_imp, forall_eq]
 refine ⟨by omega, by omega, ?_, by omega, by omega, ?_, ?_⟩
 ·split
  ·omega
  ·split <;> omega
 ·split <;> omega
 ·split <;> omega
theorem one_ok {a0 a1 a2 a3 a4 a5 n : Int} (hn : 0 <= n /\ n <= 1000000) (h0 : 0 <= a0 /\ a0 <= 255) (h1 : 0 <= a1 /\ a1 <= 255) (h2 : 0 <= a2 /\ a2 <= 255) (h3 : 0 <= a3 /\ a3 <= 255) (h4 : 0 <= a4 /\ a4 <= 255) (h5 : 0 <= a5 /\ a5 <= 255) : (oneF a0 a1 a2 a3 a4 a5 n).1 = 5 \/ AOk (oneF a0 a1 a2 a3 a4 a5 n) := by
 unfold oneF
 split
 ·exact .inr ⟨by simp, h1.1, by simp [rqL, I64]⟩
 ·split
  ·exact .inr ⟨by simp, h1.1, by simp [rqL, I64]⟩
  ·split
   ·exact .inr ⟨by simp, by simp, by simp [rqL, I64]⟩
   ·split
    ·split
     ·exact .inr ⟨by simp, by simp, by simp [rqL, I64]⟩
     ·exact .inl rfl
    ·exact .inr ⟨by simp, by simp, oneR_i64 hn h1 h2 h3 h4 h5⟩
theorem acts_ok (b : List Int) (hb : Byt b) (hl : b.length <= 4000000) : ∀ a ∈ acts b, a.1 = 5 \/ AOk a := by
 intro a ha
 obtain ⟨i, hi, rfl⟩ := List.mem_map.1 ha
 have := List.mem_range.1 hi
 exact one_ok (by omega) (byt_get hb _) (byt_get hb _) (byt_get hb _) (byt_get hb _) (byt_get hb _) (byt_get hb _)
def richL : List Int := [6, 0, 0, 0, 0, 0, 6, 0, 1, 0, 0, 0, 6, 0, 2, 0, 0, 0, 6, 0, 3, 0, 0, 0, 6, 0, 4, 0, 0, 0, 6, 0, 5, 0, 0, 0, 6, 1, 0, 0, 250, 0, 6, 1, 1, 0, 250, 0, 6, 1, 2, 0, 250, 0, 6, 1, 3, 0, 250, 0, 6, 1, 4, 0, 250, 0, 6, 1, 5, 0, 250, 0]
theorem rich_ev : Ev1 (fun k => CF k g_law24_Rich n_law24_Rich []) richL := Ev1.of_rfl 30 (fun k => by kernel_rfl)
def allL (b : List Int) : List Int := richL ++ b.take 3000
theorem all24_ev (b : List Int) (hl : b.length <= 211106232532000) : Ev1 (fun k => CF k g_law24_All n_law24_All [inj BB b]) (allL b) := by
 have he : ∀ m : Int, m = minI (b.length : Int) 3000 -> Int.toNat m = min b.length 3000 /\ 0 <= m /\ m <= (b.length : Int) := by
  intro m hm
  subst hm
  unfold minI
  by_cases h : (3000 : Int) < (b.length : Int)
  ·rw [decide_eq_true h, cond_true]; omega
  ·rw [decide_eq_false h, cond_false]; omega
 obtain ⟨e1, e2, e3⟩ := he _ rfl
 have et : b.take (Int.toNat (minI (b.length : Int) 3000)) = b.take 3000 := by
  rw [e1]
  by_cases h : b.length <= 3000
  ·rw [List.take_of_length_le (by omega), List.take_of_length_le h]
  ·rw [show min b.length 3000 = 3000 by omega]
 refine Ev1.step (fun k => f_law24_All k b _ rfl _ rfl _ rfl) (Ev1.bind rich_ev (Ev1.pos (by rw [decide_eq_true e2, decide_eq_true e3]; rfl) ?_))
 rw [et]
 have : (b.take 3000).length <= 3000 := by rw [List.length_take]; omega
 exact Ev1.posD (by show (72 + (b.take 3000).length) * 1 <= 211106232532992; omega) (Ev1.now _)
theorem allL_byt {b : List Int} (hb : Byt b) : Byt (allL b) := by
 intro x hx
 rcases List.mem_append.1 hx with hx | hx
 ·simp only [richL, List.mem_cons, List.not_mem_nil, or_false] at hx
  omega
 ·exact hb x (List.mem_of_mem_take hx)
theorem allL_len (b : List Int) : (allL b).length <= 3072 := by
 unfold allL
 rw [List.length_append, List.length_take]
 have : richL.length = 72 := rfl
 omega
theorem tacts_ev (b : List Int) (hb : Byt b) (hl : b.length <= 211106232532000) : Ev1 (fun k => CF k g_top_acts n_top_acts [inj BB b]) (acts (allL b)) := by
 have := allL_len b
 exact Ev1.step (fun k => f_top_acts k b) (Ev1.bind (all24_ev b hl) (Ev1.bind (acts_ev (allL b) (allL_byt hb) (by omega)) (Ev1.now _)))
end Go.Eng.Top
namespace Go.Eng.Top
open Go.RowKit Go.Eng Go.Eng.LVar
set_option maxRecDepth 100000
structure Al (W : WC) : Prop where
 we : W.we.length = W.wd.length
 ws : W.ws.length = W.wd.length
 wn : W.wn.length = W.wd.length
 wr : W.wr.length = W.wd.length
 ww : W.ww.length = W.wd.length
 wo : W.wo.length = W.wd.length
 es : W.es.length = W.ej.length
 jt : W.c.jt.length = W.c.jd.length
 jb : W.c.jb.length = W.c.jd.length
 jr : W.c.jr.length = W.c.jd.length
 jk : W.c.jk.length = W.c.jd.length
 R : W.c.R.length = W.c.F.length
 L : W.c.L.length = W.c.F.length
 S : W.c.S.length = W.c.F.length
theorem Al.fr {W W' : WC} {w x : Nat} (h : Al W) (f : Fr W W' w x) : Al W' :=
 ⟨by rw [f.we, f.wd]; exact h.we, by rw [f.lws, f.wd]; exact h.ws, by rw [f.lwn, f.wd]; exact h.wn, by rw [f.wr, f.wd]; exact h.wr, by rw [f.lww, f.wd]; exact h.ww, by rw [f.lwo, f.wd]; exact h.wo, by rw [f.les, f.ej]; exact h.es,
  by rw [f.c.jt, f.c.jd]; exact h.jt, by rw [f.c.jb, f.c.jd]; exact h.jb, by rw [f.c.jr, f.c.jd]; exact h.jr, by rw [f.c.jk, f.c.jd]; exact h.jk, by rw [f.c.R, f.c.F]; exact h.R, by rw [f.c.L, f.c.F]; exact h.L, by rw [f.c.S, f.c.F]; exact h.S⟩
def newW (W : WC) : WC := ⟨W.wd ++ [some W.c.F.length], W.we ++ [some W.ej.length], W.ws ++ [[]], W.wn ++ [[]], W.wc ++ [0], W.wr ++ [none], W.ww ++ [zT], W.wo ++ [[]], W.ej ++ [some W.c.jd.length], W.es ++ [s0],
 ⟨W.c.F ++ [[]], W.c.R ++ [262144], W.c.L ++ [-1], W.c.S ++ [false], W.c.jd ++ [some W.c.F.length], W.c.jt ++ [0], W.c.jb ++ [[]], W.c.jr ++ [[]], W.c.jk ++ [false], W.c.B, W.c.sf⟩⟩
noncomputable abbrev callOf (k : Nat) (W : WC) := CF k g_world_Of n_world_Of [inj I (262144 : Int), CwDisk_ W.wd, CwEngine_ W.we, CwSaid_ W.ws, CwDone_ W.wn, CwCrashes_ W.wc, CwErr_ W.wr, Cwwas_ W.ww, Cwopen_ W.wo, Cdfiles_ W.c.F, Cdroom_ W.c.R, Cdleft_ W.c.L, Cdstopped_ W.c.S, CeJournal_ W.ej, Ces_ W.es, Cjdisk_ W.c.jd, Cjturn_ W.c.jt, Cjbase_ W.c.jb, Cjrecords_ W.c.jr, Cjbroken_ W.c.jk, Cfbytes_ W.c.B, Cfsafe_ W.c.sf]
abbrev outO (w : Nat) (W : WC) : R1 := (some w, W.wd, W.we, W.ws, W.wn, W.wc, W.wr, W.ww, W.wo, W.c.F, W.c.R, W.c.L, W.c.S, W.ej, W.es, W.c.jd, W.c.jt, W.c.jb, W.c.jr, W.c.jk, W.c.B, W.c.sf)
theorem wof_ev (W : WC) (h : Al W) : Ev1 (fun k => callOf k W) (outO W.wd.length (newW W)) := by
 have hd := diskOf_ev (F := W.c.F) (R := W.c.R) (L := W.c.L) (S := W.c.S) 262144
 have ho := dopen_ev (F := W.c.F ++ [[]]) (L := W.c.L ++ [-1]) (S := W.c.S ++ [false]) (ej := W.ej) (es := W.es) (jd := W.c.jd) (jt := W.c.jt) (jb := W.c.jb) (jr := W.c.jr) (jk := W.c.jk) (B := W.c.B) (sf := W.c.sf) (d := W.c.F.length) (getD_snoc _ _ _) h.jr h.jt
 have e1 : (W.wd ++ [some W.c.F.length]).getD W.wd.length none = some W.c.F.length := getD_snoc _ _ _
 refine Ev1.step (fun k => f_world_Of k 262144 W.wd W.we W.ws W.wn W.wc W.wr W.ww W.wo W.c.F W.c.R W.c.L W.c.S W.ej W.es W.c.jd W.c.jt W.c.jb W.c.jr W.c.jk W.c.B W.c.sf) (Ev1.bind hd ?_)
 dsimp only
 rw [e1]
 refine Ev1.bind ho (Ev1.const ?_)
 dsimp only
 rw [set_snoc W.we _ _ h.we.symm, set_snoc W.wr _ _ h.wr.symm]
 rfl
theorem al_new (W : WC) (h : Al W) : Al (newW W) := by
 constructor <;> simp only [newW, List.length_append, List.length_cons, List.length_nil, h.we, h.ws, h.wn, h.wr, h.ww, h.wo, h.es, h.jt, h.jb, h.jr, h.jk, h.R, h.L, h.S]
theorem wi_new (W : WC) (h : Al W) : WI (newW W) W.wd.length W.ej.length W.c.jd.length W.c.F.length s0 [] 0 0 0 where
 wd := getD_snoc _ _ _
 we := getD_snoc' _ _ _ h.we.symm
 ws := ⟨by simp only [newW, List.length_append, List.length_cons, List.length_nil, h.ws]; omega, getD_snoc' _ _ _ h.ws.symm⟩
 wn := ⟨by simp only [newW, List.length_append, List.length_cons, List.length_nil, h.wn]; omega, by show ((W.wn ++ [[]]).getD W.wd.length []).length <= 0; rw [getD_snoc' _ _ _ h.wn.symm]; exact Nat.le_refl _⟩
 wr := getD_snoc' _ _ _ h.wr.symm
 wo := ⟨by simp only [newW, List.length_append, List.length_cons, List.length_nil, h.wo]; omega, by show ((W.wo ++ [[]]).getD W.wd.length []).length <= 0; rw [getD_snoc' _ _ _ h.wo.symm]; exact Nat.le_refl _⟩
 ej := getD_snoc _ _ _
 es := ⟨by simp only [newW, List.length_append, List.length_cons, List.length_nil, h.es]; omega, getD_snoc' _ _ _ h.es.symm⟩
 di := {
  dk := ⟨by simp only [newW, List.length_append, List.length_cons, List.length_nil]; omega, getD_snoc' _ _ _ h.R.symm, getD_snoc' _ _ _ h.L.symm, getD_snoc' _ _ _ h.S.symm⟩
  jd := getD_snoc _ _ _
  jt := ⟨by simp only [newW, List.length_append, List.length_cons, List.length_nil, h.jt]; omega, getD_snoc' _ _ _ h.jt.symm⟩
  jb := by simp only [newW, List.length_append, List.length_cons, List.length_nil, h.jb]; omega
  jr := ⟨by simp only [newW, List.length_append, List.length_cons, List.length_nil, h.jr]; omega, by show ((W.c.jr ++ [[]]).getD W.c.jd.length []).length <= 0; rw [getD_snoc' _ _ _ h.jr.symm]; exact Nat.le_refl _⟩
  jk := getD_snoc' _ _ _ h.jk.symm
  files := ⟨none, none, getD_snoc _ _ _, fun g hg => (by cases hg), fun g hg => (by cases hg), fun g h hg => (by cases hg)⟩ }
 inv := inv0
 sl := Nat.le_refl _
 sr := fun a ha => by cases ha
structure Old (W W' : WC) : Prop where
 wd : ∀ i, i < W.wd.length -> W'.wd.getD i none = W.wd.getD i none
 we : ∀ i, i < W.wd.length -> W'.we.getD i none = W.we.getD i none
 ws : ∀ i, i < W.wd.length -> W'.ws.getD i [] = W.ws.getD i []
 wr : ∀ i, i < W.wd.length -> W'.wr.getD i none = W.wr.getD i none
 es : ∀ i, i < W.ej.length -> W'.es.getD i zT = W.es.getD i zT
theorem old_new (W : WC) (h : Al W) : Old W (newW W) :=
 ⟨fun i hi => getD_app _ _ _ hi, fun i hi => getD_app _ _ _ (by rw [h.we]; exact hi), fun i hi => getD_app _ _ _ (by rw [h.ws]; exact hi), fun i hi => getD_app _ _ _ (by rw [h.wr]; exact hi), fun i hi => getD_app _ _ _ (by rw [h.es]; exact hi)⟩
theorem Old.fr {W V V' : WC} (h : Old W V) (f : Fr V V' W.wd.length W.ej.length) : Old W V' :=
 ⟨fun i hi => by rw [f.wd]; exact h.wd i hi, fun i hi => by rw [f.we]; exact h.we i hi, fun i hi => by rw [f.ws i (by omega)]; exact h.ws i hi, fun i hi => by rw [f.wr]; exact h.wr i hi, fun i hi => by rw [f.es i (by omega)]; exact h.es i hi⟩
def outB (wo : List Int) (a : TEvent) : Bool := wo.any fun k => decide (a.1 = k)
def runS (wo : List Int) : List TEvent -> St2 -> St2
 | [], p => p
 | a :: l, p => runS wo l (bif outB wo a then p else actF p a)
noncomputable abbrev hRun (k m : Nat) (wo : List Int) (w : Nat) (ac : List TEvent) (i : Int) (W : WC) : Option R1 := h_top_run k m wo (some w) ac (ac.length : Int) i W.wd W.we W.ws W.wn W.wc W.wr W.ww W.wo W.c.F W.c.R W.c.L W.c.S W.ej W.es W.c.jd W.c.jt W.c.jb W.c.jr W.c.jk W.c.B W.c.sf
noncomputable abbrev hRun1 (k m1 m : Nat) (wo : List Int) (w : Nat) (out : Bool) (ac : List TEvent) (i jj : Int) (a : TEvent) (W : WC) : Option R1 := h_top_run_1 k m1 m wo (some w) out ac (ac.length : Int) i wo (wo.length : Int) jj a.1 a.2.1.1 a.2.1.2.1 a.2.1.2.2.1 a.2.1.2.2.2.1 a.2.1.2.2.2.2.1 a.2.1.2.2.2.2.2.1 a.2.1.2.2.2.2.2.2 a.2.2.1 a.2.2.2 W.wd W.we W.ws W.wn W.wc W.wr W.ww W.wo W.c.F W.c.R W.c.L W.c.S W.ej W.es W.c.jd W.c.jt W.c.jb W.c.jr W.c.jk W.c.B W.c.sf
theorem in_l (wo : List Int) (hw : wo.length <= 10) (w : Nat) (ac : List TEvent) (i : Nat) (hi : i <= 10000) (a : TEvent) (W : WC) (R : R1)
  (hskip : ∀ o, o = true -> Ev2 (fun k m => hRun k m wo w ac ((i + 1 : Nat) : Int) W) R \/ True)
  (hT : outB wo a = true -> Ev2 (fun k m => hRun k m wo w ac ((i + 1 : Nat) : Int) W) R)
  (hF : outB wo a = false -> ∃ W', Ev1 (fun k => callAct k w a 0 W) (outW W') /\ Ev2 (fun k m => hRun k m wo w ac ((i + 1 : Nat) : Int) W') R) :
  ∀ (dd jj : Nat) (out : Bool), jj + dd = wo.length -> (out || ((wo.drop jj).any fun k => decide (a.1 = k))) = outB wo a -> Ev3 (fun k m1 m => hRun1 k m1 m wo w out ac (i : Int) (jj : Int) a W) R
 | 0, jj, out, h, ho => by
  rw [List.drop_of_length_le (by omega), List.any_nil, Bool.or_false] at ho
  refine Ev3.step (fun k m1 m => h_top_run_1_s k m1 m wo (some w) out ac (ac.length : Int) (i : Int) wo (wo.length : Int) (jj : Int) a.1 a.2.1.1 a.2.1.2.1 a.2.1.2.2.1 a.2.1.2.2.2.1 a.2.1.2.2.2.2.1 a.2.1.2.2.2.2.2.1 a.2.1.2.2.2.2.2.2 a.2.2.1 a.2.2.2 W.wd W.we W.ws W.wn W.wc W.wr W.ww W.wo W.c.F W.c.R W.c.L W.c.S W.ej W.es W.c.jd W.c.jt W.c.jb W.c.jr W.c.jk W.c.B W.c.sf _ rfl ((i + 1 : Nat) : Int) (wnat (by omega)).symm) (Ev3.negD (by omega) ?_)
  cases out with
  | true => exact Ev3.neg rfl (Ev2.drop (hT ho.symm))
  | false =>
   obtain ⟨W', h1, h2⟩ := hF ho.symm
   exact Ev3.pos rfl (Ev3.bind h1 (Ev2.drop h2))
 | dd + 1, jj, out, h, ho => by
  have hlt : jj < wo.length := by omega
  have he : wo.getD (Int.toNat (jj : Int)) 0 = wo[jj] := by rw [Int.toNat_natCast]; exact getD_at wo jj _ hlt
  rw [List.drop_eq_getElem_cons hlt, List.any_cons] at ho
  refine Ev3.step (fun k m1 m => h_top_run_1_s k m1 m wo (some w) out ac (ac.length : Int) (i : Int) wo (wo.length : Int) (jj : Int) a.1 a.2.1.1 a.2.1.2.1 a.2.1.2.2.1 a.2.1.2.2.2.1 a.2.1.2.2.2.2.1 a.2.1.2.2.2.2.2.1 a.2.1.2.2.2.2.2.2 a.2.2.1 a.2.2.2 W.wd W.we W.ws W.wn W.wc W.wr W.ww W.wo W.c.F W.c.R W.c.L W.c.S W.ej W.es W.c.jd W.c.jt W.c.jb W.c.jr W.c.jk W.c.B W.c.sf ((jj + 1 : Nat) : Int) (wnat (by omega)).symm _ rfl) (Ev3.posD (by omega) (Ev3.pos (inb_true (by omega) (by omega)) ?_))
  rw [he]
  cases out with
  | true => exact Ev3.pos rfl (in_l wo hw w ac i hi a W R hskip hT hF dd (jj + 1) true (by omega) (by rw [<- ho]; simp))
  | false => exact Ev3.neg rfl (in_l wo hw w ac i hi a W R hskip hT hF dd (jj + 1) _ (by omega) (by rw [<- ho]; simp))
theorem run_l (wo : List Int) (hw : wo.length <= 10) (ac : List TEvent) (hl : ac.length <= 1000) (hok : ∀ a ∈ ac, outB wo a = false -> AOk a) (w x j d : Nat) : ∀ (dd i : Nat) (W : WC) (p : St2) (t u n : Nat), i + dd = ac.length -> WI W w x j d p.1 p.2 t u n -> u <= 86 * i -> n <= i -> t <= i ->
  ∃ W' t' u' n', Ev2 (fun k m => hRun k m wo w ac (i : Int) W) (outO w W') /\ WI W' w x j d (runS wo (ac.drop i) p).1 (runS wo (ac.drop i) p).2 t' u' n' /\ u' <= 86000 /\ n' <= 1000 /\ t' <= 1000 /\ Fr W W' w x
 | 0, i, W, p, t, u, n, hi, h, hu, hn, ht => by
  refine ⟨W, t, u, n, ?_, by rw [List.drop_of_length_le (by omega)]; exact h, by omega, by omega, by omega, Fr.refl W w x⟩
  exact Ev2.step (fun k m => h_top_run_s k m wo (some w) ac (ac.length : Int) (i : Int) W.wd W.we W.ws W.wn W.wc W.wr W.ww W.wo W.c.F W.c.R W.c.L W.c.S W.ej W.es W.c.jd W.c.jt W.c.jb W.c.jr W.c.jk W.c.B W.c.sf _ rfl _ rfl) (Ev2.negD (by omega) (Ev2.now _))
 | dd + 1, i, W, p, t, u, n, hi, h, hu, hn, ht => by
  have hlt : i < ac.length := by omega
  have he : ac.getD (Int.toNat (i : Int)) ((0 : Int), ((0 : Int), (0 : Int), (0 : Int), (0 : Int), (0 : Int), (0 : Int), (0 : Int)), (0 : Int), false) = ac[i] := by rw [Int.toNat_natCast]; exact getD_at ac i _ hlt
  have st := fun k m => h_top_run_s k m wo (some w) ac (ac.length : Int) (i : Int) W.wd W.we W.ws W.wn W.wc W.wr W.ww W.wo W.c.F W.c.R W.c.L W.c.S W.ej W.es W.c.jd W.c.jt W.c.jb W.c.jr W.c.jk W.c.B W.c.sf ac[i] he.symm _ rfl
  cases ho : outB wo ac[i] with
  | true =>
   obtain ⟨W', t', u', n', h1, h2, h3, h4, h5, h6⟩ := run_l wo hw ac hl hok w x j d dd (i + 1) W p t u n (by omega) h (by omega) (by omega) (by omega)
   refine ⟨W', t', u', n', Ev2.step st (Ev2.posD (by omega) (Ev2.pos (inb_true (by omega) (by omega)) ?_)), ?_, h3, h4, h5, h6⟩
   ·have := in_l wo hw w ac i (by omega) ac[i] W (outO w W') (fun _ _ => .inr trivial) (fun _ => h1) (fun q => by rw [ho] at q; cases q) wo.length 0 false (by omega) (by rw [Bool.false_or, List.drop_zero]; rfl)
    exact this.diag
   ·rw [List.drop_eq_getElem_cons hlt]
    show WI W' w x j d (runS wo (ac.drop (i + 1)) (bif outB wo ac[i] then p else actF p ac[i])).1 _ t' u' n'
    rw [ho]
    have e : runS wo (ac[i] :: ac.drop (i + 1)) p = runS wo (ac.drop (i + 1)) p := by
     show runS wo (ac.drop (i + 1)) (bif outB wo ac[i] then p else actF p ac[i]) = _
     rw [ho]; rfl
    rw [e]
    exact h2
  | false =>
   obtain ⟨W1, t1, g1, g2, g3, g4⟩ := act_ev W h ac[i] (hok _ (List.getElem_mem hlt) ho) 0 (by omega) (by omega) (by omega)
   obtain ⟨W', t', u', n', h1, h2, h3, h4, h5, h6⟩ := run_l wo hw ac hl hok w x j d dd (i + 1) W1 (actF p ac[i]) t1 (u + 86) (n + 1) (by omega) g2 (by omega) (by omega) (by omega)
   refine ⟨W', t', u', n', Ev2.step st (Ev2.posD (by omega) (Ev2.pos (inb_true (by omega) (by omega)) ?_)), ?_, h3, h4, h5, g4.trans h6⟩
   ·have := in_l wo hw w ac i (by omega) ac[i] W (outO w W') (fun _ _ => .inr trivial) (fun q => by rw [ho] at q; cases q) (fun _ => ⟨W1, g1, h1⟩) wo.length 0 false (by omega) (by rw [Bool.false_or, List.drop_zero]; rfl)
    exact this.diag
   ·have e : runS wo (ac.drop i) p = runS wo (ac.drop (i + 1)) (actF p ac[i]) := by
     rw [List.drop_eq_getElem_cons hlt]
     show runS wo (ac.drop (i + 1)) (bif outB wo ac[i] then p else actF p ac[i]) = _
     rw [ho]; rfl
    rw [e]
    exact h2
noncomputable abbrev callRun (k : Nat) (ac : List TEvent) (wo : List Int) (W : WC) := CF k g_top_run n_top_run [inj (.slice KEvent) ac, inj (.slice I) wo, CwDisk_ W.wd, CwEngine_ W.we, CwSaid_ W.ws, CwDone_ W.wn, CwCrashes_ W.wc, CwErr_ W.wr, Cwwas_ W.ww, Cwopen_ W.wo, Cdfiles_ W.c.F, Cdroom_ W.c.R, Cdleft_ W.c.L, Cdstopped_ W.c.S, CeJournal_ W.ej, Ces_ W.es, Cjdisk_ W.c.jd, Cjturn_ W.c.jt, Cjbase_ W.c.jb, Cjrecords_ W.c.jr, Cjbroken_ W.c.jk, Cfbytes_ W.c.B, Cfsafe_ W.c.sf]
theorem run_ev (W : WC) (h : Al W) (ac : List TEvent) (hl : ac.length <= 1000) (wo : List Int) (hw : wo.length <= 10) (hok : ∀ a ∈ ac, outB wo a = false -> AOk a) :
  ∃ W' t u n, Ev1 (fun k => callRun k ac wo W) (outO W.wd.length W') /\ WI W' W.wd.length W.ej.length W.c.jd.length W.c.F.length (runS wo ac (s0, [])).1 (runS wo ac (s0, [])).2 t u n /\ Al W' /\ Old W W' /\ W'.wd.length = W.wd.length + 1 /\ W'.ej.length = W.ej.length + 1 /\ n <= 1000 := by
 obtain ⟨W', t, u, n, h1, h2, h3, h4, h5, h6⟩ := run_l wo hw ac hl hok W.wd.length W.ej.length W.c.jd.length W.c.F.length ac.length 0 (newW W) (s0, []) 0 0 0 (by omega) (wi_new W h) (by omega) (by omega) (by omega)
 refine ⟨W', t, u, n, ?_, h2, (al_new W h).fr h6, (old_new W h).fr h6, by rw [h6.wd]; simp [newW], by rw [h6.ej]; simp [newW], h4⟩
 exact Ev1.step (fun k => f_top_run k ac wo W.wd W.we W.ws W.wn W.wc W.wr W.ww W.wo W.c.F W.c.R W.c.L W.c.S W.ej W.es W.c.jd W.c.jt W.c.jb W.c.jr W.c.jk W.c.B W.c.sf) (Ev1.bind (wof_ev W h) h1.diag)
end Go.Eng.Top
namespace Go.Eng.Top
open Go.RowKit Go.Eng Go.Eng.LVar
set_option maxRecDepth 100000
noncomputable abbrev hWRun (k m : Nat) (b : List Int) (w : Nat) (ac : List TEvent) (i : Int) (W : WC) : Option R1 := h_world_Run k m b (some w) ac (ac.length : Int) i W.wd W.we W.ws W.wn W.wc W.wr W.ww W.wo W.c.F W.c.R W.c.L W.c.S W.ej W.es W.c.jd W.c.jt W.c.jb W.c.jr W.c.jk W.c.B W.c.sf
theorem wrun_l (b : List Int) (ac : List TEvent) (hl : ac.length <= 1000) (hb : 6 * ac.length <= b.length) (hok : ∀ a ∈ ac, AOk a) (w x j d : Nat) : ∀ (dd i : Nat) (W : WC) (p : St2) (t u n : Nat), i + dd = ac.length -> WI W w x j d p.1 p.2 t u n -> u <= 86 * i -> n <= i -> t <= i ->
  ∃ W' t' u' n', Ev2 (fun k m => hWRun k m b w ac (i : Int) W) (outO w W') /\ WI W' w x j d ((ac.drop i).foldl actF p).1 ((ac.drop i).foldl actF p).2 t' u' n' /\ Fr W W' w x
 | 0, i, W, p, t, u, n, hi, h, hu, hn, ht => by
  refine ⟨W, t, u, n, ?_, by rw [List.drop_of_length_le (by omega)]; exact h, Fr.refl W w x⟩
  exact Ev2.step (fun k m => h_world_Run_s k m b (some w) ac (ac.length : Int) (i : Int) W.wd W.we W.ws W.wn W.wc W.wr W.ww W.wo W.c.F W.c.R W.c.L W.c.S W.ej W.es W.c.jd W.c.jt W.c.jb W.c.jr W.c.jk W.c.B W.c.sf _ rfl) (Ev2.negD (by omega) (Ev2.now _))
 | dd + 1, i, W, p, t, u, n, hi, h, hu, hn, ht => by
  have hlt : i < ac.length := by omega
  have he : ac.getD (Int.toNat (i : Int)) ((0 : Int), ((0 : Int), (0 : Int), (0 : Int), (0 : Int), (0 : Int), (0 : Int), (0 : Int)), (0 : Int), false) = ac[i] := by rw [Int.toNat_natCast]; exact getD_at ac i _ hlt
  have hk : ((6 * i + 5 : Nat) : Int) = w64 (w64 (6 * (i : Int)) + 5) := by rw [w64_id (x := 6 * (i : Int)) (by omega), w64_id (by omega)]; omega
  have st := fun k m => h_world_Run_s k m b (some w) ac (ac.length : Int) (i : Int) W.wd W.we W.ws W.wn W.wc W.wr W.ww W.wo W.c.F W.c.R W.c.L W.c.S W.ej W.es W.c.jd W.c.jt W.c.jb W.c.jr W.c.jk W.c.B W.c.sf ((6 * i + 5 : Nat) : Int) hk
  obtain ⟨W1, t1, g1, g2, g3, g4⟩ := act_ev W h ac[i] (hok _ (List.getElem_mem hlt)) (w64 (w64 (b.getD (Int.toNat ((6 * i + 5 : Nat) : Int)) 0) * 7)) (by omega) (by omega) (by omega)
  obtain ⟨W', t', u', n', h1, h2, h6⟩ := wrun_l b ac hl hb hok w x j d dd (i + 1) W1 (actF p ac[i]) t1 (u + 86) (n + 1) (by omega) g2 (by omega) (by omega) (by omega)
  refine ⟨W', t', u', n', Ev2.step st (Ev2.posD (by omega) (Ev2.pos (inb_true (by omega) (by omega)) (Ev2.pos (inb_true (by omega) (by omega)) ?_))), ?_, g4.trans h6⟩
  ·rw [he]
   refine Ev2.bind g1 ?_
   rw [wnat (by omega)]
   exact h1
  ·rw [List.drop_eq_getElem_cons hlt, List.foldl_cons]
   exact h2
noncomputable abbrev callWRun (k : Nat) (b : List Int) (W : WC) := CF k g_world_Run n_world_Run [inj BB b, inj I (262144 : Int), CwDisk_ W.wd, CwEngine_ W.we, CwSaid_ W.ws, CwDone_ W.wn, CwCrashes_ W.wc, CwErr_ W.wr, Cwwas_ W.ww, Cwopen_ W.wo, Cdfiles_ W.c.F, Cdroom_ W.c.R, Cdleft_ W.c.L, Cdstopped_ W.c.S, CeJournal_ W.ej, Ces_ W.es, Cjdisk_ W.c.jd, Cjturn_ W.c.jt, Cjbase_ W.c.jb, Cjrecords_ W.c.jr, Cjbroken_ W.c.jk, Cfbytes_ W.c.B, Cfsafe_ W.c.sf]
theorem wrun_ev (W : WC) (h : Al W) (b : List Int) (hb : Byt b) (hl : b.length <= 4000) (hok : ∀ a ∈ acts b, AOk a) :
  ∃ W' t u n, Ev1 (fun k => callWRun k b W) (outO W.wd.length W') /\ WI W' W.wd.length W.ej.length W.c.jd.length W.c.F.length ((acts b).foldl actF (s0, [])).1 ((acts b).foldl actF (s0, [])).2 t u n /\ Al W' := by
 have hal := acts_len b
 obtain ⟨W', t, u, n, h1, h2, h3⟩ := wrun_l b (acts b) (by omega) (by omega) hok W.wd.length W.ej.length W.c.jd.length W.c.F.length (acts b).length 0 (newW W) (s0, []) 0 0 0 (by omega) (wi_new W h) (by omega) (by omega) (by omega)
 refine ⟨W', t, u, n, ?_, h2, (al_new W h).fr h3⟩
 exact Ev1.step (fun k => f_world_Run k b 262144 W.wd W.we W.ws W.wn W.wc W.wr W.ww W.wo W.c.F W.c.R W.c.L W.c.S W.ej W.es W.c.jd W.c.jt W.c.jb W.c.jr W.c.jk W.c.B W.c.sf) (Ev1.bind (wof_ev W h) (Ev1.bind (acts_ev b hb (by omega)) h1.diag))
def exL : List Int := [6, 2, 0, 3, 10, 2, 1, 0, 1, 0, 0, 0, 1, 0, 1, 0, 0, 0, 1, 0, 1, 0, 0, 0]
abbrev outT (b : Bool) (W : WC) : R2 := (b, W.wd, W.we, W.ws, W.wn, W.wc, W.wr, W.ww, W.wo, W.c.F, W.c.R, W.c.L, W.c.S, W.ej, W.es, W.c.jd, W.c.jt, W.c.jb, W.c.jr, W.c.jk, W.c.B, W.c.sf)
noncomputable abbrev callAwake (k : Nat) (W : WC) := CF k g_top_awake n_top_awake [CwDisk_ W.wd, CwEngine_ W.we, CwSaid_ W.ws, CwDone_ W.wn, CwCrashes_ W.wc, CwErr_ W.wr, Cwwas_ W.ww, Cwopen_ W.wo, Cdfiles_ W.c.F, Cdroom_ W.c.R, Cdleft_ W.c.L, Cdstopped_ W.c.S, CeJournal_ W.ej, Ces_ W.es, Cjdisk_ W.c.jd, Cjturn_ W.c.jt, Cjbase_ W.c.jb, Cjrecords_ W.c.jr, Cjbroken_ W.c.jk, Cfbytes_ W.c.B, Cfsafe_ W.c.sf]
def exS : St2 := (acts (allL exL)).foldl actF (s0, [])
theorem ex_byt : Byt (allL exL) := allL_byt (by intro x hx; simp only [exL, List.mem_cons, List.not_mem_nil, or_false] at hx; omega)
theorem ex_kinds : (acts (allL exL)).all (fun a => !decide (a.1 = 5)) = true := by decide +kernel
theorem ex_ok : ∀ a ∈ acts (allL exL), AOk a := by
 intro a ha
 have h1 := List.all_eq_true.1 ex_kinds a ha
 have h2 := allL_len exL
 exact (acts_ok _ ex_byt (by omega) a ha).resolve_left (by simpa using h1)
theorem ex_val : exS.2.length = 13 /\ exS.1.1.length = 15 /\ (exS.1.1.getD 9 (0, 0, 0)).2.1 = 1680 /\ (exS.1.1.getD 12 (0, 0, 0)).2.1 = 1822 /\ exS.1.2.2.1.length = 0 := by decide +kernel
theorem awake_ev (W : WC) (h : Al W) : ∃ W', Ev1 (fun k => callAwake k W) (outT true W') /\ Al W' := by
 have hlen := allL_len exL
 obtain ⟨W', t, u, n, h1, h2, h3⟩ := wrun_ev W h (allL exL) ex_byt (by omega) ex_ok
 obtain ⟨v1, v2, v3, v4, v5⟩ := ex_val
 refine ⟨W', ?_, h3⟩
 have hst : Ev1 (fun k => CF k g_durable_Engine_State n_durable_Engine_State [inj (.ref 30) (W'.we.getD W.wd.length none), Ces_ W'.es]) (exS.1, W'.es) := by rw [h2.we]; exact eev h2.es.2
 have h4 : Ev2 (fun k m => h_top_awake k m (some W.wd.length) W'.wd W'.we W'.ws W'.wn W'.wc W'.wr W'.ww W'.wo W'.c.F W'.c.R W'.c.L W'.c.S W'.ej W'.es W'.c.jd W'.c.jt W'.c.jb W'.c.jr W'.c.jk W'.c.B W'.c.sf) (outT true W') := by
  refine Ev2.step (fun k m => h_top_awake_s k m (some W.wd.length) W'.wd W'.we W'.ws W'.wn W'.wc W'.wr W'.ww W'.wo W'.c.F W'.c.R W'.c.L W'.c.S W'.ej W'.es W'.c.jd W'.c.jt W'.c.jb W'.c.jr W'.c.jk W'.c.B W'.c.sf) (Ev2.pos rfl (Ev2.bind hst (Ev2.pos rfl (Ev2.pos ?_ (Ev2.pos rfl (Ev2.posD ?_ (Ev2.posD (by rw [v2]; rfl) (Ev2.pos (inb_true (by omega) (by rw [v2]; omega)) (Ev2.posD v3 (Ev2.pos (inb_true (by omega) (by rw [v2]; omega)) (Ev2.posD v4 (Ev2.const ?_))))))))))))
  ·show (!(W'.wr.getD W.wd.length none).isSome) = true
   rw [h2.wr]; rfl
  ·show ((W'.ws.getD W.wd.length []).length : Int) = 13
   rw [h2.ws.2]
   show (exS.2.length : Int) = 13
   rw [v1]; rfl
  ·rw [v5]; rfl
 refine Ev1.step (fun k => f_top_awake k W.wd W.we W.ws W.wn W.wc W.wr W.ww W.wo W.c.F W.c.R W.c.L W.c.S W.ej W.es W.c.jd W.c.jt W.c.jb W.c.jr W.c.jk W.c.B W.c.sf) (Ev1.bind (all24_ev exL (by decide)) (Ev1.bind h1 (Ev1.neg rfl (Ev1.pos rfl (Ev1.neg ?_ h4.diag)))))
 show (!(W'.we.getD W.wd.length none).isSome) = false
 rw [h2.we]; rfl
theorem s15_l (s : TState) (hl : s.2.1.length <= 1000) : ∀ (d i : Nat), i + d = s.2.1.length -> Ev2 (fun k m => h_law15_Same_1 k m (s.2.1.length : Int) (i : Int) s.1 s.2.1 s.2.2.1 s.2.2.2.1 s.2.2.2.2 s.1 s.2.1 s.2.2.1 s.2.2.2.1 s.2.2.2.2) true
 | 0, i, h => Ev2.step (fun k m => h_law15_Same_1_s k m (s.2.1.length : Int) (i : Int) s.1 s.2.1 s.2.2.1 s.2.2.2.1 s.2.2.2.2 s.1 s.2.1 s.2.2.1 s.2.2.2.1 s.2.2.2.2 _ rfl _ rfl) (Ev2.negD (by omega) (Ev2.now _))
 | d + 1, i, h => by
  refine Ev2.step (fun k m => h_law15_Same_1_s k m (s.2.1.length : Int) (i : Int) s.1 s.2.1 s.2.2.1 s.2.2.2.1 s.2.2.2.2 s.1 s.2.1 s.2.2.1 s.2.2.2.1 s.2.2.2.2 _ rfl _ rfl) (Ev2.posD (by omega) (Ev2.pos (inb_true (by omega) (by omega)) (Ev2.pos (inb_true (by omega) (by omega)) (Ev2.neg (by simp) ?_))))
  rw [wnat (by omega)]
  exact s15_l s hl d (i + 1) (by omega)
theorem s17_l (s : TState) (hl : s.2.2.1.length <= 1000) : ∀ (d i : Nat), i + d = s.2.2.1.length -> Ev2 (fun k m => h_law17_Same_1 k m (s.2.2.1.length : Int) (i : Int) s.1 s.2.1 s.2.2.1 s.2.2.2.1 s.2.2.2.2 s.1 s.2.1 s.2.2.1 s.2.2.2.1 s.2.2.2.2) true
 | 0, i, h => Ev2.step (fun k m => h_law17_Same_1_s k m (s.2.2.1.length : Int) (i : Int) s.1 s.2.1 s.2.2.1 s.2.2.2.1 s.2.2.2.2 s.1 s.2.1 s.2.2.1 s.2.2.2.1 s.2.2.2.2 _ rfl _ rfl) (Ev2.negD (by omega) (Ev2.now _))
 | d + 1, i, h => by
  refine Ev2.step (fun k m => h_law17_Same_1_s k m (s.2.2.1.length : Int) (i : Int) s.1 s.2.1 s.2.2.1 s.2.2.2.1 s.2.2.2.2 s.1 s.2.1 s.2.2.1 s.2.2.2.1 s.2.2.2.2 _ rfl _ rfl) (Ev2.posD (by omega) (Ev2.pos (inb_true (by omega) (by omega)) (Ev2.pos (inb_true (by omega) (by omega)) (Ev2.neg (by simp) ?_))))
  rw [wnat (by omega)]
  exact s17_l s hl d (i + 1) (by omega)
theorem same17_ev {s : TState} (h : Inv s) : Ev1 (fun k => CF k g_law17_Same n_law17_Same [inj KState s, inj KState s]) true := by
 have h1 := h.op.rt.hi
 have h2 := h.op.pl
 have h3 := h.gl
 have h4 := h.kl
 have e15 : Ev2 (fun k m => h_law15_Same k m s.1 s.2.1 s.2.2.1 s.2.2.2.1 s.2.2.2.2 s.1 s.2.1 s.2.2.1 s.2.2.2.1 s.2.2.2.2) true :=
  Ev2.step (fun k m => h_law15_Same_s k m s.1 s.2.1 s.2.2.1 s.2.2.2.1 s.2.2.2.2 s.1 s.2.1 s.2.2.1 s.2.2.2.1 s.2.2.2.2) (Ev1.drop (s15_l s (by omega) s.2.1.length 0 (by omega)).diag)
 have e17 : Ev2 (fun k m => h_law17_Same k m s.1 s.2.1 s.2.2.1 s.2.2.2.1 s.2.2.2.2 s.1 s.2.1 s.2.2.1 s.2.2.2.1 s.2.2.2.2) true :=
  Ev2.step (fun k m => h_law17_Same_s k m s.1 s.2.1 s.2.2.1 s.2.2.2.1 s.2.2.2.2 s.1 s.2.1 s.2.2.1 s.2.2.2.1 s.2.2.2.2) (Ev1.drop (s17_l s (by omega) s.2.2.1.length 0 (by omega)).diag)
 have f15 : Ev1 (fun k => CF k g_law15_Same n_law15_Same [inj KState s, inj KState s]) true :=
  Ev1.step (fun k => f_law15_Same k s s) (Ev1.bind (same_ev s.1 h1) (Ev1.neg rfl (Ev1.neg (by simp) (Ev1.neg (by simp) e15.diag))))
 have f16 : Ev1 (fun k => CF k g_law16_Same n_law16_Same [inj KState s, inj KState s]) true :=
  Ev1.step (fun k => f_law16_Same k s s) (Ev1.bind f15 (Ev1.pos rfl (Ev1.bind (ksame_ev s.2.2.2.1 (by omega)) (Ev1.now _))))
 exact Ev1.step (fun k => f_law17_Same k s s) (Ev1.bind f16 (Ev1.neg rfl (Ev1.neg (by simp) e17.diag)))
def Good (px py : St2) : Prop := (∃ e ∈ px.2, e.2.1 = 7) \/ (px.1 = py.1 /\ (∀ e ∈ px.2, settled px.1 e.1) /\ py.2.length <= px.2.length)
structure PI (p : St2) : Prop where
 inv : Inv p.1
 sr : ∀ e ∈ p.2, I64 (rqL e.1)
theorem ask_pi {p : St2} (h : PI p) {r : TRequest} (hr : I64 (rqL r)) : PI (askS p r) /\ grows p.1 (askS p r).1 /\ ((doF p.1 (0, r, 0, false)).2.1 = 7 \/ settled (askS p r).1 r) := by
 have h1 := sub_all h.inv r hr
 have e : doF p.1 (0, r, 0, false) = subF p.1 r := rfl
 unfold askS
 rw [e]
 refine ⟨⟨h1.1, fun x hx => ?_⟩, h1.2.1, h1.2.2⟩
 rcases List.mem_append.1 hx with hx | hx
 ·exact h.sr x hx
 ·rw [List.mem_singleton] at hx; rw [hx]; exact hr
theorem act_pi {p : St2} (h : PI p) {a : TEvent} (ha : AOk a) : PI (actF p a) /\ grows p.1 (actF p a).1 /\ ∃ l, (actF p a).2 = p.2 ++ l := by
 unfold actF
 split
 ·have := ask_pi h ha.rq; exact ⟨this.1, this.2.1, _, rfl⟩
 split
 ·split
  ·rename_i hs
   have hm := tmod_in ha.n hs
   have := ask_pi h (h.sr _ (getD_mem p.2 zS hm))
   exact ⟨this.1, this.2.1, _, rfl⟩
  ·exact ⟨h, grows_refl _, [], (List.append_nil _).symm⟩
 split
 ·split
  ·have := do_all h.inv (1, zR, (waitsF p.1).getD (Int.toNat (Int.tmod a.2.2.1 ((waitsF p.1).length : Int))) 0, a.2.2.2) (by simp [rqL, I64])
   exact ⟨⟨this.1, h.sr⟩, this.2, [], (List.append_nil _).symm⟩
  ·exact ⟨h, grows_refl _, [], (List.append_nil _).symm⟩
 split
 ·have := do_all h.inv (2, zR, 0, false) (by simp [rqL, I64])
  exact ⟨⟨this.1, h.sr⟩, this.2, [], (List.append_nil _).symm⟩
 ·exact ⟨h, grows_refl _, [], (List.append_nil _).symm⟩
theorem act_good {px py : St2} (h : PI px) {a : TEvent} (ha : AOk a) (h1 : a.1 ≠ 1) (hg : Good px py) : Good (actF px a) (actF py a) := by
 rcases hg with ⟨e, he, h7⟩ | ⟨q1, q2, q3⟩
 ·obtain ⟨l, hl⟩ := (act_pi h ha).2.2
  exact .inl ⟨e, by rw [hl]; exact List.mem_append_left _ he, h7⟩
 ·have hgr := (act_pi h ha).2.1
  have hold : ∀ e ∈ px.2, settled (actF px a).1 e.1 := fun e he => settled_grows hgr (q2 e he)
  unfold actF at hold hgr ⊢
  by_cases k0 : a.1 = 0
  ·rw [if_pos k0] at hold ⊢
   rw [if_pos k0]
   obtain ⟨r1, r2, r3⟩ := ask_pi h ha.rq
   unfold askS at r3 hold ⊢
   rw [q1] at *
   rcases r3 with r3 | r3
   ·exact .inl ⟨_, List.mem_append_right _ (List.mem_singleton_self _), r3⟩
   ·refine .inr ⟨rfl, fun e he => ?_, ?_⟩
    ·rcases List.mem_append.1 he with he | he
     ·exact hold e he
     ·rw [List.mem_singleton] at he; rw [he]; exact r3
    ·dsimp only
     rw [List.length_append, List.length_append]
     simp only [List.length_cons, List.length_nil]; omega
  rw [if_neg k0] at hold ⊢
  rw [if_neg k0, if_neg h1, if_neg h1]
  rw [if_neg h1] at hold
  by_cases k2 : a.1 = 2
  ·rw [if_pos k2] at hold ⊢
   rw [if_pos k2]
   rw [<- q1]
   by_cases hs : 0 < ((waitsF px.1).length : Int)
   ·rw [if_pos hs] at hold ⊢
    rw [if_pos hs]
    exact .inr ⟨rfl, hold, q3⟩
   ·rw [if_neg hs, if_neg hs]
    exact .inr ⟨q1, q2, q3⟩
  rw [if_neg k2] at hold ⊢
  rw [if_neg k2]
  by_cases k3 : a.1 = 3
  ·rw [if_pos k3] at hold ⊢
   rw [if_pos k3, <- q1]
   exact .inr ⟨rfl, hold, q3⟩
  ·rw [if_neg k3, if_neg k3]
   exact .inr ⟨q1, q2, q3⟩
theorem again_good1 {px py : St2} (h : PI px) {a : TEvent} (ha : AOk a) (h1 : a.1 = 1) (hg : Good px py) : Good (actF px a) py := by
 rcases hg with ⟨e, he, h7⟩ | ⟨q1, q2, q3⟩
 ·obtain ⟨l, hl⟩ := (act_pi h ha).2.2
  exact .inl ⟨e, by rw [hl]; exact List.mem_append_left _ he, h7⟩
 ·unfold actF
  rw [if_neg (by omega), if_pos h1]
  split
  ·rename_i hs
   have hm := tmod_in ha.n hs
   have hmem := getD_mem px.2 zS hm
   have hse := q2 _ hmem
   have e : doF px.1 (0, (px.2.getD (Int.toNat (Int.tmod a.2.2.1 (px.2.length : Int))) zS).1, 0, false) = subF px.1 (px.2.getD (Int.toNat (Int.tmod a.2.2.1 (px.2.length : Int))) zS).1 := rfl
   have hs2 := sub_settled hse
   unfold askS
   rw [e]
   refine .inr ⟨by dsimp only; rw [hs2]; exact q1, fun x hx => ?_, by dsimp only; rw [List.length_append]; omega⟩
   dsimp only at hx ⊢
   rw [hs2]
   rcases List.mem_append.1 hx with hx | hx
   ·exact q2 x hx
   ·rw [List.mem_singleton] at hx; rw [hx]; exact hse
  ·exact .inr ⟨q1, q2, q3⟩
theorem run_good : ∀ (ac : List TEvent) (px py : St2), (∀ a ∈ ac, a.1 = 5 \/ AOk a) -> PI px -> Good px py -> Good (runS [5] ac px) (runS [5, 1] ac py)
 | [], px, py, _, _, hg => hg
 | a :: l, px, py, ho, h, hg => by
  have hl : ∀ x ∈ l, x.1 = 5 \/ AOk x := fun x hx => ho x (List.mem_cons_of_mem _ hx)
  unfold runS
  by_cases k5 : a.1 = 5
  ·have e1 : outB [5] a = true := by unfold outB; simp [k5]
   have e2 : outB [5, 1] a = true := by unfold outB; simp [k5]
   rw [e1, e2]
   exact run_good l px py hl h hg
  ·have ha := (ho a (List.mem_cons_self ..)).resolve_left k5
   have e1 : outB [5] a = false := by unfold outB; simp [k5]
   rw [e1, cond_false]
   by_cases k1 : a.1 = 1
   ·have e2 : outB [5, 1] a = true := by unfold outB; simp [k1]
    rw [e2, cond_true]
    exact run_good l _ py hl (act_pi h ha).1 (again_good1 h ha k1 hg)
   ·have e2 : outB [5, 1] a = false := by unfold outB; simp [k5, k1]
    rw [e2, cond_false]
    exact run_good l _ _ hl (act_pi h ha).1 (act_good h ha k1 hg)
theorem ta_l (W : WC) {w1 w2 : Nat} {px : St2} (hs : W.ws.getD w1 [] = px.2) (hl : px.2.length <= 1000) (hfin : (∀ e ∈ px.2, e.2.1 ≠ 7) -> Ev2 (fun k m => h_top_TopAgain k m (some w1) (some w2) w1 (px.2.length : Int) (px.2.length : Int) W.wd W.we W.ws W.wn W.wc W.wr W.ww W.wo W.c.F W.c.R W.c.L W.c.S W.ej W.es W.c.jd W.c.jt W.c.jb W.c.jr W.c.jk W.c.B W.c.sf) (outT true W)) :
  ∀ (d i : Nat), i + d = px.2.length -> (∀ e ∈ px.2.take i, e.2.1 ≠ 7) -> Ev2 (fun k m => h_top_TopAgain k m (some w1) (some w2) w1 (px.2.length : Int) (i : Int) W.wd W.we W.ws W.wn W.wc W.wr W.ww W.wo W.c.F W.c.R W.c.L W.c.S W.ej W.es W.c.jd W.c.jt W.c.jb W.c.jr W.c.jk W.c.B W.c.sf) (outT true W)
 | 0, i, h, hn => by
  rw [List.take_of_length_le (by omega)] at hn
  rw [show i = px.2.length by omega]
  exact hfin hn
 | d + 1, i, h, hn => by
  have hlt : i < px.2.length := by omega
  have he : px.2.getD (Int.toNat (i : Int)) (((0 : Int), (0 : Int), (0 : Int), (0 : Int), (0 : Int), (0 : Int), (0 : Int)), (0 : Int), (0 : Int)) = px.2[i] := by rw [Int.toNat_natCast]; exact getD_at px.2 i _ hlt
  refine Ev2.step (fun k m => h_top_TopAgain_s k m (some w1) (some w2) w1 (px.2.length : Int) (i : Int) W.wd W.we W.ws W.wn W.wc W.wr W.ww W.wo W.c.F W.c.R W.c.L W.c.S W.ej W.es W.c.jd W.c.jt W.c.jb W.c.jr W.c.jk W.c.B W.c.sf px.2 hs.symm) (Ev2.posD (by omega) (Ev2.pos (inb_true (by omega) (by omega)) ?_))
  rw [he]
  refine Ev2.iff (fun _ => Ev2.now _) (fun h7 => ?_)
  rw [wnat (by omega)]
  refine ta_l W hs hl hfin d (i + 1) (by omega) (fun e hm => ?_)
  rw [List.take_succ_eq_append_getElem hlt] at hm
  rcases List.mem_append.1 hm with hm | hm
  ·exact hn e hm
  ·rw [List.mem_singleton] at hm; rw [hm]; exact h7
noncomputable abbrev callTA (k : Nat) (b : List Int) (W : WC) := CF k g_top_TopAgain n_top_TopAgain [inj BB b, CwDisk_ W.wd, CwEngine_ W.we, CwSaid_ W.ws, CwDone_ W.wn, CwCrashes_ W.wc, CwErr_ W.wr, Cwwas_ W.ww, Cwopen_ W.wo, Cdfiles_ W.c.F, Cdroom_ W.c.R, Cdleft_ W.c.L, Cdstopped_ W.c.S, CeJournal_ W.ej, Ces_ W.es, Cjdisk_ W.c.jd, Cjturn_ W.c.jt, Cjbase_ W.c.jb, Cjrecords_ W.c.jr, Cjbroken_ W.c.jk, Cfbytes_ W.c.B, Cfsafe_ W.c.sf]
theorem topAgain (b : List Int) (hb : Byt b) (hbl : b.length <= 211106232532000) (W : WC) (h : Al W) : ∃ W', Ev1 (fun k => callTA k b W) (outT true W') := by
 have hlen := allL_len b
 have hal := acts_len (allL b)
 have hacts := acts_ok (allL b) (allL_byt hb) (by omega)
 obtain ⟨W1, ha, hA1⟩ := awake_ev W h
 obtain ⟨W2, t2, u2, n2, hx, hX, hA2, hO2, hw2, hj2, hn2⟩ := run_ev W1 hA1 (acts (allL b)) (by omega) [5] (by simp) (fun a hm ho => (hacts a hm).resolve_left (by intro e; unfold outB at ho; simp [e] at ho))
 obtain ⟨W3, t3, u3, n3, hy, hY, hA3, hO3, hw3, hj3, hn3⟩ := run_ev W2 hA2 (acts (allL b)) (by omega) [5, 1] (by simp) (fun a hm ho => (hacts a hm).resolve_left (by intro e; unfold outB at ho; simp [e] at ho))
 have hgood := run_good (acts (allL b)) (s0, []) (s0, []) hacts ⟨inv0, fun e he => by cases he⟩ (.inr ⟨rfl, fun e he => (by cases he), Nat.le_refl _⟩)
 generalize runS [5] (acts (allL b)) (s0, []) = px at hX hgood
 generalize runS [5, 1] (acts (allL b)) (s0, []) = py at hY hgood
 have hw1 : W1.wd.length < W2.wd.length := by omega
 have hj1 : W1.ej.length < W2.ej.length := by omega
 have xws : W3.ws.getD W1.wd.length [] = px.2 := (hO3.ws _ hw1).trans hX.ws.2
 have xwr : W3.wr.getD W1.wd.length none = none := (hO3.wr _ hw1).trans hX.wr
 have xwe : W3.we.getD W1.wd.length none = some W1.ej.length := (hO3.we _ hw1).trans hX.we
 have xes : W3.es.getD W1.ej.length zT = px.1 := (hO3.es _ hj1).trans hX.es.2
 have hxl : px.2.length <= 1000 := Nat.le_trans hX.sl hn2
 have hst : Ev1 (fun k => CF k g_durable_Engine_State n_durable_Engine_State [inj (.ref 30) (W3.we.getD W1.wd.length none), Ces_ W3.es]) (px.1, W3.es) := by rw [xwe]; exact eev xes
 have hst2 : Ev1 (fun k => CF k g_durable_Engine_State n_durable_Engine_State [inj (.ref 30) (W3.we.getD W2.wd.length none), Ces_ W3.es]) (py.1, W3.es) := by rw [hY.we]; exact eev hY.es.2
 have hT := ta_l W3 (w1 := W1.wd.length) (w2 := W2.wd.length) (px := px) xws hxl (fun hn => by
  rcases hgood with ⟨e, he, h7⟩ | ⟨q1, q2, q3⟩
  ·exact (hn e he h7).elim
  ·have hsm := same17_ev hX.inv
   refine Ev2.step (fun k m => h_top_TopAgain_s k m (some W1.wd.length) (some W2.wd.length) W1.wd.length (px.2.length : Int) (px.2.length : Int) W3.wd W3.we W3.ws W3.wn W3.wc W3.wr W3.ww W3.wo W3.c.F W3.c.R W3.c.L W3.c.S W3.ej W3.es W3.c.jd W3.c.jt W3.c.jb W3.c.jr W3.c.jk W3.c.B W3.c.sf px.2 xws.symm) (Ev2.negD (by omega) (Ev2.pos rfl (Ev2.pos ?_ (Ev2.pos rfl (Ev2.pos ?_ (Ev2.pos rfl (Ev2.bind hst (Ev2.pos rfl (Ev2.bind hst2 (Ev2.bind (x := true) ?_ (Ev2.pos rfl (Ev2.pos rfl (Ev2.pos rfl (Ev2.const ?_))))))))))))))
   ·show (!(W3.wr.getD W1.wd.length none).isSome) = true
    rw [xwr]; rfl
   ·show (!(W3.wr.getD W2.wd.length none).isSome) = true
    rw [hY.wr]; rfl
   ·dsimp only
    rw [<- q1]
    exact hsm
   ·have : decide (((W3.ws.getD W2.wd.length []).length : Int) <= ((W3.ws.getD W1.wd.length []).length : Int)) = true := by
     rw [xws, hY.ws.2]; exact decide_eq_true (by omega)
    simp only [Option.getD_some]
    rw [this]) px.2.length 0 (by omega) (fun e he => by simp at he)
 refine ⟨W3, Ev1.step (fun k => f_top_TopAgain k b W.wd W.we W.ws W.wn W.wc W.wr W.ww W.wo W.c.F W.c.R W.c.L W.c.S W.ej W.es W.c.jd W.c.jt W.c.jb W.c.jr W.c.jk W.c.B W.c.sf) (Ev1.bind ha (Ev1.neg rfl (Ev1.bind (tacts_ev b hb hbl) (Ev1.bind hx (Ev1.bind hy (Ev1.pos rfl ?_))))))⟩
 have hd := hT.diag
 rw [<- xws] at hd
 exact hd
end Go.Eng.Top
namespace Go.Proofs.YtbbnmhmfdbcmhaaGreatDoorW.As
open Go.RowKit Go.Extern.Stop Go.Stop Go.Extern Go.Proofs
theorem below_alloc {w W : World} (h : Below w.heap.size w W) (o : Obj) : Below w.heap.size w (W.alloc o) := h.alloc h.size o
theorem below_set {w W : World} {g j : Nat} {v : Value} (h : Below w.heap.size w W) (hg : w.heap.size <= g) : Below w.heap.size w (W.setCell ⟨g, j, none⟩ v) := h.setCell hg _
def GH (w : World) : Prop := w.cell? ⟨0, 0, none⟩ = some (.iface 240 (.agg #[.pointer (some ⟨1, 34, none⟩)]))
theorem GH.lt {w : World} (h : GH w) : 0 < w.heap.size := by
 unfold GH at h
 rcases Nat.eq_zero_or_pos w.heap.size with h0 | h1
 ·simp [World.cell?, h0] at h
 ·exact h1
theorem GH.below {B : Nat} {w w' : World} (h : GH w) (hb : Below B w w') (hB : w.heap.size <= B) : GH w' := by
 have hlt := h.lt
 unfold GH at *
 rw [<- h]
 exact hb.cell (p := ⟨0, 0, none⟩) (by show 0 < B; omega)
theorem GH.step {w w' : World} (h : GH w) (hb : Below w.heap.size w w') : GH w' := h.below hb (Nat.le_refl _)
theorem as_nil (t : Value) (w : World) :
  Calls Tryz.prog 73 #[.nilIface, t] w fun e w' => e = .returned (.bool false) /\ w' = w := by
 go_enter Tryz.func73, Tryz.ntmps73
 go_wp2
 go_ret
 exact ⟨rfl, rfl⟩
theorem xvalueOfP (t : Addr) (w : World) : (ReflectliteValue.unpack (.iface 154 (.pointer (some t)))).run Tryz.prog w
  = .ok (.agg #[.pointer (some ⟨1, 154, none⟩), .pointer (some ⟨w.heap.size, 0, none⟩), .int .u64 150]) (w.alloc (.cells #[.pointer (some t)] 154)) := by kernel_rfl
theorem xtypeP (a : Addr) (w : World) : (ReflectliteValue.methodAny (ReflectliteValue.valueError "reflectlite.Value.Type" 0) (fun t _ _ _ => ReflectliteType.toType t) #[.agg #[.pointer (some ⟨1, 154, none⟩), .pointer (some a), .int .u64 150]]).run Tryz.prog w
  = .ok (.iface 240 (.agg #[.pointer (some ⟨1, 154, none⟩)])) w := by kernel_rfl
theorem xmethodKind (h : Value) (w : World) : (Go.method 437 240 (.agg #[h]) "Kind").run Tryz.prog w = .ok (206, h) w := by kernel_rfl
theorem xkindP (w : World) : ((ReflectliteType.abiMethod fun t => (fun a : Nat => Value.int IntKind.u8 (a : Int)) <$> Rtype.kind t) #[.pointer (some ⟨1, 154, none⟩)]).run Tryz.prog w = .ok (.int .u8 22) w := by kernel_rfl
theorem xkindE (w : World) : ((ReflectliteType.abiMethod fun t => (fun a : Nat => Value.int IntKind.u8 (a : Int)) <$> Rtype.kind t) #[.pointer (some ⟨1, 46, none⟩)]).run Tryz.prog w = .ok (.int .u8 2) w := by kernel_rfl
theorem rlm (z : Sem Value) (f : TypeId -> Addr -> Nat -> Nat -> Sem Value) (v : Value) :
  ReflectliteValue.method z f #[v] = (do match <- ReflectliteValue.parts v with | none => z | some (t, a, fl) => f t a fl (fl % 32)) := rfl
theorem xpartsP (a : Addr) (w : World) : (ReflectliteValue.parts (.agg #[.pointer (some ⟨1, 154, none⟩), .pointer (some a), .int .u64 150])).run Tryz.prog w = .ok (some (154, a, 150)) w := by kernel_rfl
theorem xisNilP (a p : Addr) (W : World) (ha : W.cell? a = some (.pointer (some p))) :
  (ReflectliteValue.method (ReflectliteValue.valueError "reflectlite.Value.IsNil" 0) ReflectliteValue.isNil #[.agg #[.pointer (some ⟨1, 154, none⟩), .pointer (some a), .int .u64 150]]).run Tryz.prog W = .ok (.bool false) W := by
 rw [rlm]
 simp only [Sem.run_bind, xpartsP, Result.andThen]
 simp [ReflectliteValue.isNil, loadVar, isAgg, underlying, Tryz.underlying154, ha, Result.andThen]
theorem xmethodElem (h : Value) (w : World) : (Go.method 437 240 (.agg #[h]) "Elem").run Tryz.prog w = .ok (222, .agg #[h]) w := by kernel_rfl
theorem xmethodImplements (h : Value) (w : World) : (Go.method 437 240 (.agg #[h]) "Implements").run Tryz.prog w = .ok (223, .agg #[h]) w := by kernel_rfl
theorem xmethodAssignableTo (h : Value) (w : World) : (Go.method 437 240 (.agg #[h]) "AssignableTo").run Tryz.prog w = .ok (220, .agg #[h]) w := by kernel_rfl
theorem xelemP (w : World) : (ReflectliteType.method ReflectliteType.elem #[.agg #[.pointer (some ⟨1, 154, none⟩)]]).run Tryz.prog w = .ok (.iface 240 (.agg #[.pointer (some ⟨1, 46, none⟩)])) w := by kernel_rfl
theorem ximplementsE (w : World) : (ReflectliteType.relation "Implements" ReflectliteType.implements_ #[.agg #[.pointer (some ⟨1, 46, none⟩)], .iface 240 (.agg #[.pointer (some ⟨1, 34, none⟩)])]).run Tryz.prog w = .ok (.bool true) w := by kernel_rfl
theorem xtypeOfE (v : Value) (w : World) : (ReflectliteType.typeOf #[.iface 46 v]).run Tryz.prog w = .ok (.iface 240 (.agg #[.pointer (some ⟨1, 46, none⟩)])) w := by kernel_rfl
theorem xassignableE (w : World) : (ReflectliteType.relation "AssignableTo" ReflectliteType.assignableTo #[.agg #[.pointer (some ⟨1, 46, none⟩)], .iface 240 (.agg #[.pointer (some ⟨1, 46, none⟩)])]).run Tryz.prog w = .ok (.bool true) w := by kernel_rfl
theorem xvalueOfE (c : Int) (w : World) : (ReflectliteValue.unpack (.iface 46 (.int .i64 c))).run Tryz.prog w
  = .ok (.agg #[.pointer (some ⟨1, 46, none⟩), .pointer (some ⟨w.heap.size, 0, none⟩), .int .u64 130]) (w.alloc (.cells #[.int .i64 c] 46)) := by kernel_rfl
theorem xelemOfP (w : World) : (Rtype.elem? 154).run Tryz.prog w = .ok (some 46) w := by kernel_rfl
theorem xmkE (p : Addr) (w : World) : (ReflectliteValue.mk 46 p ReflectliteValue.flagAddr).run Tryz.prog w = .ok (.agg #[.pointer (some ⟨1, 46, none⟩), .pointer (some p), .int .u64 386]) w := by kernel_rfl
theorem xelemVP (a p : Addr) (W : World) (ha : W.cell? a = some (.pointer (some p))) :
  (ReflectliteValue.method (ReflectliteValue.valueError "reflectlite.Value.Elem" 0) ReflectliteValue.elem #[.agg #[.pointer (some ⟨1, 154, none⟩), .pointer (some a), .int .u64 150]]).run Tryz.prog W
   = .ok (.agg #[.pointer (some ⟨1, 46, none⟩), .pointer (some p), .int .u64 386]) W := by
 rw [rlm]
 simp only [Sem.run_bind, xpartsP, Result.andThen]
 simp [ReflectliteValue.elem, loadVar, isAgg, underlying, Tryz.underlying154, ha, Result.andThen, xelemOfP, xmkE]
theorem rls (v x : Value) : ReflectliteValue.set #[v, x] = (do
  let (some (dst, a, fl), some (src, b, _)) := (<- ReflectliteValue.parts v, <- ReflectliteValue.parts x)
   | unsupported (.noEntry "extern/(internal/reflectlite.Value).Set.zeroValue")
  if fl / ReflectliteValue.flagAddr % 2 == 0 then unsupported (.noEntry "extern/(internal/reflectlite.Value).Set.unaddressable")
  let val <- loadVar src b
  if <- Rtype.directlyAssignable dst src then storeVar dst a val
  else if <- Rtype.implements dst src then
   if (<- Rtype.kind src) == 20 then
    match val with
    | .nilIface => unsupported (.noEntry "extern/reflectlite: a nil value of one interface type handed on as a value of another")
    | _ => storeVar dst a val
   else storeVar dst a (.iface src val)
  else panicString ("reflectlite.Set: value of type " ++ (<- Rtype.spelt src) ++ " is not assignable to type " ++ (<- Rtype.spelt dst))
  pure (.tuple #[])) := rfl
theorem xpartsEa (a : Addr) (w : World) : (ReflectliteValue.parts (.agg #[.pointer (some ⟨1, 46, none⟩), .pointer (some a), .int .u64 386])).run Tryz.prog w = .ok (some (46, a, 386)) w := by kernel_rfl
theorem xpartsE (a : Addr) (w : World) : (ReflectliteValue.parts (.agg #[.pointer (some ⟨1, 46, none⟩), .pointer (some a), .int .u64 130])).run Tryz.prog w = .ok (some (46, a, 130)) w := by kernel_rfl
theorem xdirectE (w : World) : (Rtype.directlyAssignable 46 46).run Tryz.prog w = .ok true w := by kernel_rfl
theorem xsetE (ta b : Addr) (c : Int) (old : Value) (W : World) (hb : W.cell? b = some (.int .i64 c)) (ht : W.cell? ta = some old) (hf : W.frozen? ta = false) :
  (ReflectliteValue.set #[.agg #[.pointer (some ⟨1, 46, none⟩), .pointer (some ta), .int .u64 386], .agg #[.pointer (some ⟨1, 46, none⟩), .pointer (some b), .int .u64 130]]).run Tryz.prog W
   = .ok (.tuple #[]) (W.setCell ta (.int .i64 c)) := by
 rw [rls]
 simp only [Sem.run_bind, xpartsEa, xpartsE, Result.andThen]
 simp [ReflectliteValue.flagAddr, loadVar, isAgg, underlying, Tryz.underlying46, hb, Result.andThen, xdirectE, storeVar, Value.cells, storeCells, Addr.add]
 rw [run_store Tryz.prog W ta _ _ (by rfl)]
 simp [ht, hf]
def asWorld (w : World) (t : Addr) (c : Int) : World := ((((w.alloc (.cells #[.pointer (some t)] 154)).alloc (.cells #[.pointer (some ⟨1, 154, none⟩), .pointer (some ⟨w.heap.size, 0, none⟩), .int .u64 150] 195)).alloc (.cells #[.pointer (some ⟨1, 154, none⟩), .pointer (some ⟨w.heap.size, 0, none⟩), .int .u64 150] 195)).alloc (.cells #[.int .i64 c] 46)).setCell t (.int .i64 c)
set_option maxHeartbeats 4000000 in
theorem as_hit (c : Int) (t : Addr) (old : Value) (w : World) (hg : GH w) (ht0 : w.cell? t = some old) (hf0 : w.frozen? t = false) :
  Calls Tryz.prog 73 #[.iface 46 (.int .i64 c), .iface 154 (.pointer (some t))] w fun ev w' => ev = .returned (.bool true) /\ w' = asWorld w t c := by
 unfold GH at hg
 unfold asWorld
 have h6 := @run_callFunc_extern Tryz.prog 106 _ (fun args => ReflectliteValue.unpack (args.getD 0 (.tuple #[]))) Tryz.func106 (by kernel_rfl) (by kernel_rfl) (by kernel_rfl) (by kernel_rfl)
 have h7 := @run_callFunc_extern Tryz.prog 107 _ (ReflectliteValue.methodAny (ReflectliteValue.valueError "reflectlite.Value.Type" 0) (fun t _ _ _ => ReflectliteType.toType t)) Tryz.func107 (by kernel_rfl) (by kernel_rfl) (by kernel_rfl) (by kernel_rfl)
 have h8 := @run_callFunc_extern Tryz.prog 108 _ (ReflectliteValue.method (ReflectliteValue.valueError "reflectlite.Value.IsNil" 0) ReflectliteValue.isNil) Tryz.func108 (by kernel_rfl) (by kernel_rfl) (by kernel_rfl) (by kernel_rfl)
 have h27 := @run_callFunc_extern Tryz.prog 206 _ (ReflectliteType.abiMethod fun t => do pure (.int .u8 (<- Rtype.kind t))) Tryz.func206 (by kernel_rfl) (by kernel_rfl) (by kernel_rfl) (by kernel_rfl)
 have h37 := @run_callFunc_extern Tryz.prog 222 _ (ReflectliteType.method ReflectliteType.elem) Tryz.func222 (by kernel_rfl) (by kernel_rfl) (by kernel_rfl) (by kernel_rfl)
 have h38 := @run_callFunc_extern Tryz.prog 223 _ (ReflectliteType.relation "Implements" ReflectliteType.implements_) Tryz.func223 (by kernel_rfl) (by kernel_rfl) (by kernel_rfl) (by kernel_rfl)
 have h10 := @run_callFunc_extern Tryz.prog 141 _ ReflectliteType.typeOf Tryz.func141 (by kernel_rfl) (by kernel_rfl) (by kernel_rfl) (by kernel_rfl)
 have h35 := @run_callFunc_extern Tryz.prog 220 _ (ReflectliteType.relation "AssignableTo" ReflectliteType.assignableTo) Tryz.func220 (by kernel_rfl) (by kernel_rfl) (by kernel_rfl) (by kernel_rfl)
 have h11 := @run_callFunc_extern Tryz.prog 142 _ (ReflectliteValue.method (ReflectliteValue.valueError "reflectlite.Value.Elem" 0) ReflectliteValue.elem) Tryz.func142 (by kernel_rfl) (by kernel_rfl) (by kernel_rfl) (by kernel_rfl)
 have h12 := @run_callFunc_extern Tryz.prog 143 _ ReflectliteValue.set Tryz.func143 (by kernel_rfl) (by kernel_rfl) (by kernel_rfl) (by kernel_rfl)
 have tO := xtypeOfE
 have mA := xmethodAssignableTo
 have a25 := xassignableE
 have v25 := xvalueOfE
 have f6 := xvalueOfP
 have f7 := xtypeP
 have mK := xmethodKind
 have mE := xmethodElem
 have mI := xmethodImplements
 have k27 := xkindP
 have k25 := xkindE
 have e27 := xelemP
 have i25 := ximplementsE
 have n8 := xisNilP ⟨w.heap.size, 0, none⟩ t ((w.alloc (.cells #[.pointer (some t)] 154)).alloc (.cells #[.pointer (some ⟨1, 154, none⟩), .pointer (some ⟨w.heap.size, 0, none⟩), .int .u64 150] 195)) (by simp)
 have hlt : 0 < w.heap.size := by
  rcases Nat.eq_zero_or_pos w.heap.size with h0 | h
  ·simp [World.cell?, h0] at hg
  ·exact h
 have hg2 : ((w.alloc (.cells #[.pointer (some t)] 154)).alloc (.cells #[.pointer (some ⟨1, 154, none⟩), .pointer (some ⟨w.heap.size, 0, none⟩), .int .u64 150] 195)).cell? ⟨0, 0, none⟩ = some (.iface 240 (.agg #[.pointer (some ⟨1, 34, none⟩)])) := by
  rw [World.cell?_alloc_lt _ _ ⟨0, 0, none⟩ (by simp), World.cell?_alloc_lt _ _ ⟨0, 0, none⟩ hlt]; exact hg
 have htl : t.block < w.heap.size := by
  rcases Nat.lt_or_ge t.block w.heap.size with h | h
  ·exact h
  ·simp [World.cell?, Array.getElem?_eq_none h] at ht0
 have el := xelemVP ⟨w.heap.size, 0, none⟩ t (((w.alloc (.cells #[.pointer (some t)] 154)).alloc (.cells #[.pointer (some ⟨1, 154, none⟩), .pointer (some ⟨w.heap.size, 0, none⟩), .int .u64 150] 195)).alloc (.cells #[.pointer (some ⟨1, 154, none⟩), .pointer (some ⟨w.heap.size, 0, none⟩), .int .u64 150] 195)) (by rw [World.cell?_alloc_lt _ _ ⟨w.heap.size, 0, none⟩ (by simp; omega)]; simp)
 have st := xsetE t ⟨w.heap.size + 1 + 1 + 1, 0, none⟩ c old ((((w.alloc (.cells #[.pointer (some t)] 154)).alloc (.cells #[.pointer (some ⟨1, 154, none⟩), .pointer (some ⟨w.heap.size, 0, none⟩), .int .u64 150] 195)).alloc (.cells #[.pointer (some ⟨1, 154, none⟩), .pointer (some ⟨w.heap.size, 0, none⟩), .int .u64 150] 195)).alloc (.cells #[.int .i64 c] 46))
  (by rw [World.cell?_alloc_at _ _ _ _ (by simp)]; rfl)
  (by rw [World.cell?_alloc_lt _ _ t (by simp; omega), World.cell?_alloc_lt _ _ t (by simp; omega), World.cell?_alloc_lt _ _ t (by simp; omega), World.cell?_alloc_lt _ _ t htl]; exact ht0)
  (by rw [World.frozen?_alloc_old _ _ t (by simp; omega), World.frozen?_alloc_old _ _ t (by simp; omega), World.frozen?_alloc_old _ _ t (by simp; omega), World.frozen?_alloc_old _ _ t (Nat.ne_of_lt htl)]; exact hf0)
 go_enter Tryz.func73, Tryz.ntmps73
 go_wp2
 refine wp_loop_rounds 1 ?_
 rw [rounds_succ]
 go_wp2
 go_ret
 exact ⟨rfl, rfl⟩
theorem number_nil (w : World) : Calls Tryz.prog 36 #[.nilIface] w fun e w' => e = .returned (.int .i64 0) /\ Below w.heap.size w w' := by
 go_enter Tryz.func36, Tryz.ntmps36
 go_wp2_with (go_at_call 73; refine (as_nil _ _).mono ?_; rintro e w' ⟨rfl, rfl⟩)
 go_ret
 exact ⟨rfl, below_alloc (Below.refl _ _) _⟩
theorem number_some (c : Int) (w : World) (hg : GH w) : Calls Tryz.prog 36 #[.iface 46 (.int .i64 c)] w fun e w' => e = .returned (.int .i64 c) /\ Below w.heap.size w w' := by
 have hg1 : GH (w.alloc (.cells #[.int .i64 0] 46)) := hg.step (below_alloc (Below.refl _ _) _)
 have hb : Below w.heap.size w (asWorld (w.alloc (.cells #[.int .i64 0] 46)) ⟨w.heap.size, 0, none⟩ c) := by
  unfold asWorld
  refine below_set ?_ (Nat.le_refl _)
  exact below_alloc (below_alloc (below_alloc (below_alloc (below_alloc (Below.refl _ _) _) _) _) _) _
 have hc : (asWorld (w.alloc (.cells #[.int .i64 0] 46)) ⟨w.heap.size, 0, none⟩ c).cell? ⟨w.heap.size, 0, none⟩ = some (.int .i64 c) := by
  unfold asWorld
  exact World.cell?_setCell_same _ _ _ (u := .int .i64 0) (by
   rw [World.cell?_alloc_lt _ _ _ (by simp; omega), World.cell?_alloc_lt _ _ _ (by simp; omega), World.cell?_alloc_lt _ _ _ (by simp; omega), World.cell?_alloc_lt _ _ _ (by simp), World.cell?_alloc_at _ _ _ _ (by simp)]; rfl)
 go_enter Tryz.func36, Tryz.ntmps36
 go_wp2_with (go_at_call 73; refine (as_hit c ⟨w.heap.size, 0, none⟩ (.int .i64 0) _ hg1 (by simp) (by simp)).mono ?_; rintro e w' ⟨rfl, rfl⟩)
 go_ret
 exact ⟨rfl, hb⟩
end Go.Proofs.YtbbnmhmfdbcmhaaGreatDoorW.As
namespace Go.Proofs.YtbbnmhmfdbcmhaaGreatDoorW.Laid
open Go.ChangeShapes Go.WideShapes Go.RowKit Go.Proofs.YtbbnmhmfdbcmhaaGreatDoor Go.Proofs.YtbbnmhmfdbcmhaaGreatDoorW
theorem et0 : Tryz.prog.globalNamed "errors.errorType" = some 0 := by kernel_rfl
theorem rt0 : (Tryz.prog.cutTypes.find? (·.1 == "internal/reflectlite.rtype")).map (·.2) = some 240 := by kernel_rfl
theorem oneRow : ((List.range 337).filter fun t => Tryz.prog.rowNamed t [101, 114, 114, 111, 114]) = [34] := by kernel_rfl
theorem size : Tryz.prog.types.size = 337 := by kernel_rfl
theorem handle_of_laid {W : World} (h : laidMetH Tryz.prog [("errors.errorType", Rows.laid_errors_errorType)] W) : As.GH W := by
 have h' : laidMet Tryz.prog [] W /\ handlesMet Tryz.prog [("errors.errorType", Rows.laid_errors_errorType)] W := h
 obtain ⟨name, u, ty, e1, e2, e3, e4, e5⟩ := h'.2 _ (List.mem_singleton.2 rfl)
 have en : name = [101, 114, 114, 111, 114] := (Option.some.inj e1).symm
 subst en
 obtain rfl := Option.some.inj (rt0.symm.trans e2)
 have hm : ty ∈ (List.range 337).filter fun t => Tryz.prog.rowNamed t [101, 114, 114, 111, 114] := List.mem_filter.2 ⟨List.mem_range.2 (by rw [<- size]; exact e3), e4⟩
 rw [oneRow] at hm
 obtain rfl := List.mem_singleton.1 hm
 have hh : typeHandle Tryz.prog 34 = .pointer (some ⟨1, 34, none⟩) := by kernel_rfl
 rw [hh] at e5
 unfold As.GH
 simpa using World.var?_cell et0 e5 0
noncomputable def laidWorld (os : Os) : World :=
 let w0 := World.holding Tryz.prog os ⟨#[], #[], []⟩
 { w0 with heap := w0.heap.modify 0 fun
   | .cells _ t frozen => .cells #[.iface 240 (.agg #[.pointer (some ⟨1, 34, none⟩)])] t frozen
   | o => o }
theorem laidWorld_met (os : Os) (args : Array Value) : laidMetH Tryz.prog [("errors.errorType", Rows.laid_errors_errorType)] ((laidWorld os).forCall (fun _ _ => 0) ⟨#[], args, []⟩).memory :=
 laidMetH_of_parts (laidMet_nil _ _) (by kernel_rfl)
end Go.Proofs.YtbbnmhmfdbcmhaaGreatDoorW.Laid
