/- Definitions and lemmas for the law TopBank: what the program's functions come to. Conditions: as each lemma says. -/
import Derived.Test.YtbbnmhmfdbcmhaaGreatDoorG4
import Derived.Test.YtbbnmhmfdbcmhaaGreatDoorProg
import Derived.StillTailTactics
import Derived.Below
import Derived.WalkKit
import Derived.LaidEql
import Derived.Stop.Asserts
import Derived.RowKitTokens
import Derived.Test.YtbbnmhmfdbcmhaaGreatDoorRows
import Derived.ChangeSame
import Derived.ChangeVars
import Derived.JoinedOf
import Derived.RowKit
import Derived.LaidLaws
import Derived.LaidHandle
import Derived.Stop.Joined
set_option linter.all false
set_option linter.unusedVariables false
set_option linter.unusedSimpArgs false
set_option linter.deprecated false
namespace Go.Eng.Top
open Go.RowKit Go.Eng Go.Eng.LVar
set_option maxRecDepth 100000
theorem Ev2.inn {α:Type} {f:Nat->Nat->Nat->Option α} {g:Nat->Nat->Option α} {r:α} (h:∀ k m j,f k m (j+1)=g k m)(hg:Ev2 g r):Ev2 (fun k m=>f k m k) r:=by
 obtain ⟨K,hK⟩:=hg
 refine ⟨K+1,fun k m hk hm=>?_⟩
 obtain ⟨j,rfl⟩:∃ j,k=j+1:=⟨k - 1,by omega⟩
 exact (h (j+1) m j).trans (hK (j+1) m (by omega) (by omega))
theorem Ev3.inn {α:Type} {f:Nat->Nat->Nat->Nat->Option α} {g:Nat->Nat->Nat->Option α} {r:α} (h:∀ k m m2 j,f k m m2 (j+1)=g k m m2)(hg:Ev3 g r):Ev3 (fun k m m2=>f k m m2 k) r:=by
 obtain ⟨K,hK⟩:=hg
 refine ⟨K+1,fun k m m2 hk hm hm2=>?_⟩
 obtain ⟨j,rfl⟩:∃ j,k=j+1:=⟨k - 1,by omega⟩
 exact (h (j+1) m m2 j).trans (hK (j+1) m m2 (by omega) (by omega) (by omega))
theorem next_ev (l:List Bool):Ev1 (fun k=>CF k g_bank_Legs_next n_bank_Legs_next [.val false [.io (.slice .bool) l]]) (l.headD true,l.tail):=by
 refine Ev1.step (fun k=>f_bank_Legs_next k l _ rfl) ?_
 cases l with
 | nil=>exact Ev1.posD rfl (Ev1.now _)
 | cons b r =>
  refine Ev1.negD (by simp only [List.length_cons];omega) (Ev1.pos (inb_true (by omega) (by simp only [List.length_cons];omega)) (Ev1.posD (by simp only [List.length_cons];omega) (Ev1.const ?_)))
  rfl
noncomputable abbrev hW2 (k m:Nat)(n asked:Int)(r:TRequest)(t:TState)(g:TSaga):=h_bw_2 k m n asked r.1 r.2.1 r.2.2.1 r.2.2.2.1 r.2.2.2.2.1 r.2.2.2.2.2.1 r.2.2.2.2.2.2 0 0 0 t.1 t.2.1 t.2.2.1 t.2.2.2.1 t.2.2.2.2 g.1.1 g.1.2.1 g.1.2.2.1 g.1.2.2.2.1 g.1.2.2.2.2.1 g.1.2.2.2.2.2.1 g.1.2.2.2.2.2.2 g.2.1 g.2.2.1 g.2.2.2.1 g.2.2.2.2
noncomputable abbrev hW1 (k m:Nat)(n asked:Int)(r:TRequest)(t:TState)(g:TSaga):=h_bw_1 k m n asked r.1 r.2.1 r.2.2.1 r.2.2.2.1 r.2.2.2.2.1 r.2.2.2.2.2.1 r.2.2.2.2.2.2 0 0 0 t.1 t.2.1 t.2.2.1 t.2.2.2.1 t.2.2.2.2 g.1.1 g.1.2.1 g.1.2.2.1 g.1.2.2.2.1 g.1.2.2.2.2.1 g.1.2.2.2.2.2.1 g.1.2.2.2.2.2.2 g.2.1 g.2.2.1 g.2.2.2.1 g.2.2.2.2
noncomputable abbrev hW0 (k m:Nat)(n asked:Int)(r:TRequest)(t:TState)(l:List Bool)(g:TSaga):=h_bw k m n asked r.1 r.2.1 r.2.2.1 r.2.2.2.1 r.2.2.2.2.1 r.2.2.2.2.2.1 r.2.2.2.2.2.2 0 0 0 t.1 t.2.1 t.2.2.1 t.2.2.2.1 t.2.2.2.2 l g.1.1 g.1.2.1 g.1.2.2.1 g.1.2.2.2.1 g.1.2.2.2.2.1 g.1.2.2.2.2.2.1 g.1.2.2.2.2.2.2 g.2.1 g.2.2.1 g.2.2.2.1 g.2.2.2.2
theorem whole2_ev {t:TState} (h:Op t t)(r:TRequest)(g:TSaga)(n asked:Int):Ev1 (fun k=>hW2 k k n asked r t g) ((undoA t.1 r,t.2),(g.2.2.2.2,0),minI asked n):=by
 refine Ev2.diag (f:=fun k m=>hW2 k m n asked r t g) ?_
 refine Ev2.step (fun k m=>h_bw_2_s k m n asked r.1 r.2.1 r.2.2.1 r.2.2.2.1 r.2.2.2.2.1 r.2.2.2.2.2.1 r.2.2.2.2.2.2 0 0 0 t.1 t.2.1 t.2.2.1 t.2.2.2.1 t.2.2.2.2 g.1.1 g.1.2.1 g.1.2.2.1 g.1.2.2.2.1 g.1.2.2.2.2.1 g.1.2.2.2.2.2.1 g.1.2.2.2.2.2.2 g.2.1 g.2.2.1 g.2.2.2.1 g.2.2.2.2) (Ev2.bind (undo_ev h r) (Ev2.const ?_))
 rw [undo_a]
theorem finA_eq {a:List LChart.Acc} {g:TSaga} {r:TRequest} (hg:g.1=r):finA a g=((if g.2.1=0 then (match (setlA a r).2 with | none=>((setlA a r).1,((0,0):TReply)) | some c=>(undoA a r,((c,0):TReply))) else (undoA a r,((g.2.2.2.2,0):TReply))):List LChart.Acc × TReply):=by subst hg;rfl
theorem whole1_ev {t:TState} (h:Op t t)(r:TRequest)(g:TSaga)(hg:g.1=r)(n asked:Int):Ev1 (fun k=>hW1 k k n asked r t g) (((finA t.1 g).1,t.2),(finA t.1 g).2,minI asked n):=by
 refine Ev2.diag (f:=fun k m=>hW1 k m n asked r t g) ?_
 refine Ev2.step (fun k m=>h_bw_1_s k m n asked r.1 r.2.1 r.2.2.1 r.2.2.2.1 r.2.2.2.2.1 r.2.2.2.2.2.1 r.2.2.2.2.2.2 0 0 0 t.1 t.2.1 t.2.2.1 t.2.2.2.1 t.2.2.2.2 g.1.1 g.1.2.1 g.1.2.2.1 g.1.2.2.2.1 g.1.2.2.2.2.1 g.1.2.2.2.2.2.1 g.1.2.2.2.2.2.2 g.2.1 g.2.2.1 g.2.2.2.1 g.2.2.2.2) ?_
 rw [finA_eq hg]
 refine Ev2.iff (fun c=>?_) (fun c=>?_)
 ·rw [if_pos c]
  refine Ev2.bind (setl_ev h r) ?_
  rw [setl_a]
  cases hc:(setlA t.1 r).2 with
  | none=>exact Ev2.pos rfl (Ev2.now _)
  | some e =>
   refine Ev2.neg rfl (Ev2.bind (num_ev _) (Ev2.bind (turn_ev g _) (Ev1.drop ?_)))
   have:=whole2_ev h r (turnF g e) n asked
   have hw:(turnF g e).2.2.2.2=e:=by unfold turnF;rw [if_pos c]
   rw [hw] at this
   exact this
 ·rw [if_neg c]
  exact Ev1.drop (whole2_ev h r g n asked)
theorem whole_l {t:TState} (h:Op t t)(r:TRequest)(n:Int):∀ (m:Nat)(g:TSaga)(l:List Bool)(asked:Int),SOk g->g.1=r->mu g<=(m:Int) ->
  ∃ cnt,Ev2 (fun k mm=>hW0 k mm n asked r t l g) (((finA t.1 (legsF m g l)).1,t.2),(finA t.1 (legsF m g l)).2,cnt):=by
 intro m
 induction m with
 | zero =>
  intro g l asked hs hg hm
  have hc:¬ (g.2.1=0/\¬ (g.1.2.2.2.2.2.1<=g.2.2.1)):=fun q=>by have:=mu_pos hs q;omega
  refine ⟨minI asked n,Ev2.step (fun k mm=>h_bw_s k mm n asked r.1 r.2.1 r.2.2.1 r.2.2.2.1 r.2.2.2.2.1 r.2.2.2.2.2.1 r.2.2.2.2.2.2 0 0 0 t.1 t.2.1 t.2.2.1 t.2.2.2.1 t.2.2.2.2 l g.1.1 g.1.2.1 g.1.2.2.1 g.1.2.2.2.1 g.1.2.2.2.2.1 g.1.2.2.2.2.2.1 g.1.2.2.2.2.2.2 g.2.1 g.2.2.1 g.2.2.2.1 g.2.2.2.2 g rfl) ?_⟩
  refine Ev2.iff (fun c=>?_) (fun c=>Ev1.drop (whole1_ev h r g hg n asked))
  have hr:ready g:=⟨c,by by_cases q:g.1.2.2.2.2.2.1<=g.2.2.1;exact q;exact (hc ⟨c,q⟩).elim⟩
  exact Ev2.bind (ready_ev g) (Ev2.neg (by rw [decide_eq_true hr];rfl) (Ev1.drop (whole1_ev h r g hg n asked)))
 | succ m ih =>
  intro g l asked hs hg hm
  by_cases hc:g.2.1=0/\¬ (g.1.2.2.2.2.2.1<=g.2.2.1)
  ·obtain ⟨q1,q2,q3⟩:=sok_leg hs hc (l.headD true)
   have hmu:mu (legF g (l.headD true))<=(m:Int):=by
    rcases q3 with q3 | q3
    ·omega
    ·unfold mu;rw [if_neg (by omega)];omega
   obtain ⟨cnt,hev⟩:=ih (legF g (l.headD true)) l.tail (w64 (asked+1)) q1 (q2.trans hg) hmu
   refine ⟨cnt,Ev2.step (fun k mm=>h_bw_s k mm n asked r.1 r.2.1 r.2.2.1 r.2.2.2.1 r.2.2.2.2.1 r.2.2.2.2.2.1 r.2.2.2.2.2.2 0 0 0 t.1 t.2.1 t.2.2.1 t.2.2.2.1 t.2.2.2.2 l g.1.1 g.1.2.1 g.1.2.2.1 g.1.2.2.2.1 g.1.2.2.2.2.1 g.1.2.2.2.2.2.1 g.1.2.2.2.2.2.2 g.2.1 g.2.2.1 g.2.2.2.1 g.2.2.2.2 g rfl) ?_⟩
   have hr:¬ ready g:=fun q=>hc.2 q.2
   have e:legsF (m+1) g l=legsF m (legF g (l.headD true)) l.tail:=by
    show (if _ then _ else _)=_
    rw [if_pos hc]
   rw [e]
   exact Ev2.posD hc.1 (Ev2.bind (ready_ev g) (Ev2.pos (by rw [decide_eq_false hr];rfl) (Ev2.bind (next_ev l) (Ev2.bind (leg_ev g _) hev))))
  ·rw [legsF_stop _ _ _ hc]
   refine ⟨minI asked n,Ev2.step (fun k mm=>h_bw_s k mm n asked r.1 r.2.1 r.2.2.1 r.2.2.2.1 r.2.2.2.2.1 r.2.2.2.2.2.1 r.2.2.2.2.2.2 0 0 0 t.1 t.2.1 t.2.2.1 t.2.2.2.1 t.2.2.2.2 l g.1.1 g.1.2.1 g.1.2.2.1 g.1.2.2.2.1 g.1.2.2.2.2.1 g.1.2.2.2.2.2.1 g.1.2.2.2.2.2.2 g.2.1 g.2.2.1 g.2.2.2.1 g.2.2.2.2 g rfl) ?_⟩
   refine Ev2.iff (fun c=>?_) (fun c=>Ev1.drop (whole1_ev h r g hg n asked))
   have hr:ready g:=⟨c,by by_cases q:g.1.2.2.2.2.2.1<=g.2.2.1;exact q;exact (hc ⟨c,q⟩).elim⟩
   exact Ev2.bind (ready_ev g) (Ev2.neg (by rw [decide_eq_true hr];rfl) (Ev1.drop (whole1_ev h r g hg n asked)))
theorem may_legs {r:TRequest} (h:mayB r=true):0<=r.2.2.2.2.2.1/\r.2.2.2.2.2.1<=4:=by
 unfold mayB at h
 split at h
 ·cases h
 ·omega
theorem sok0 {r:TRequest} (h:mayB r=true):SOk (r,0,0,0,0):=⟨may_legs h,⟨by simp,(may_legs h).1⟩,by simp,.inl rfl,fun _=>by simp⟩
theorem mu0 {r:TRequest} (h:mayB r=true):mu (r,0,0,0,0)<=16:=by
 have:=may_legs h
 unfold mu
 rw [if_pos rfl]
 dsimp only
 omega
theorem res_rest (s:TState)(r:TRequest):(resF s r).1.2=s.2:=by
 unfold resF
 split
 ·split
  ·rfl
  ·unfold withA;split<;>rfl
 ·rfl
theorem bdo_ev {s:TState} (h:Inv s)(r:TRequest)(legs:List Bool):∃ cnt,Ev1 (fun k=>CF k g_bank_Do n_bank_Do [inj KState s,inj KRequest r,inj (.slice .bool) legs]) ((bankF legs s r).1,(bankF legs s r).2,cnt):=by
 have hkl:=h.kl
 have stp:=fun k=>f_bank_Do k s r legs
 unfold bankF
 cases hm:mayB r with
 | false=>rw [if_pos rfl];exact ⟨0,Ev1.step stp (Ev1.bind (may_ev r) (Ev1.pos (by rw [hm];rfl) (Ev1.now _)))⟩
 | true =>
  rw [if_neg (by simp)]
  have hask:=ask_ev s.2.2.2.1 r (by omega)
  cases ha:(askF s.2.2.2.1 r).2 with
  | true=>rw [if_pos rfl];exact ⟨0,Ev1.step stp (Ev1.bind (may_ev r) (Ev1.neg (by rw [hm];rfl) (Ev1.bind hask (Ev1.pos ha (Ev1.now _)))))⟩
  | false =>
   rw [if_neg (by simp)]
   have hf:fnd r.1 s.2.2.2.1=none:=by
    rw [ask_fnd] at ha
    cases hf:fnd r.1 s.2.2.2.1 with
    | none=>rfl
    | some i=>rw [hf] at ha;simp at ha
   have hput:=put_ev s.2.2.2.1 r (by omega)
   rw [put_none hf] at hput
   by_cases h256:256<=s.2.2.2.1.length
   ·rw [if_pos h256] at hput ⊢
    exact ⟨0,Ev1.step stp (Ev1.bind (may_ev r) (Ev1.neg (by rw [hm];rfl) (Ev1.bind hask (Ev1.neg ha (Ev1.bind hput (Ev1.pos rfl (Ev1.bind (num_ev _) (Ev1.now _))))))))⟩
   ·rw [if_neg h256] at hput ⊢
    have htell:∀ o:TReply,Ev1 (fun k=>CF k g_keys_Tell n_keys_Tell [inj KL (s.2.2.2.1++[(r,(0,0),false)]),inj I r.1,inj KReply o]) (told r s.2.2.2.1 o,none):=by
     intro o
     have:=tell_ev (s.2.2.2.1++[(r,(0,0),false)]) r.1 o (by rw [List.length_append];simp only [List.length_cons,List.length_nil];omega)
     rw [tell_last hf] at this
     exact this
    have hfin:∀ (t:TState) (o:TReply) (n:Int),Ev1 (fun k=>h_bank_Do k k (s.2.2.2.1++[(r,(0,0),false)]) n r.1 r.2.1 r.2.2.1 r.2.2.2.1 r.2.2.2.2.1 r.2.2.2.2.2.1 r.2.2.2.2.2.2 0 0 0 t.1 t.2.1 t.2.2.1 t.2.2.2.1 t.2.2.2.2 o.1 o.2) ((t.1,t.2.1,t.2.2.1,told r s.2.2.2.1 o,t.2.2.2.2),o,n):=by
     intro t o n
     refine Ev2.diag (f:=fun k m=>h_bank_Do k m (s.2.2.2.1++[(r,(0,0),false)]) n r.1 r.2.1 r.2.2.1 r.2.2.2.1 r.2.2.2.2.1 r.2.2.2.2.2.1 r.2.2.2.2.2.2 0 0 0 t.1 t.2.1 t.2.2.1 t.2.2.2.1 t.2.2.2.2 o.1 o.2) ?_
     exact Ev2.step (fun k m=>h_bank_Do_s k m (s.2.2.2.1++[(r,(0,0),false)]) n r.1 r.2.1 r.2.2.1 r.2.2.2.1 r.2.2.2.2.1 r.2.2.2.2.2.1 r.2.2.2.2.2.2 0 0 0 t.1 t.2.1 t.2.2.1 t.2.2.2.1 t.2.2.2.2 o.1 o.2) (Ev2.bind (htell o) (Ev2.now _))
    by_cases hlo:long r
    ·rw [if_pos hlo]
     have hrr:=res_rest s r
     have hro:=(res_op h.op r).1
     have hrev:=res_ev h.op r
     cases hc:(resF s r).2 with
     | some c =>
      have hwh:Ev1 (fun k=>CF k g_bw n_bw [inj KState s,inj KRequest r,inj (.slice .bool) legs]) (s,(c,0),0):=by
       refine Ev1.step (fun k=>f_bw k s r legs) (Ev1.bind hrev ?_)
       rw [hc]
       exact Ev1.pos rfl (Ev1.bind (num_ev _) (Ev1.now _))
      exact ⟨0,Ev1.step stp (Ev1.bind (may_ev r) (Ev1.neg (by rw [hm];rfl) (Ev1.bind hask (Ev1.neg ha (Ev1.bind hput (Ev1.neg rfl (Ev1.bind (long_ev r) (Ev1.posD hlo (Ev1.bind hwh (hfin s (c,0) 0))))))))))⟩
     | none =>
      obtain ⟨cnt,hl⟩:=whole_l (t:=(resF s r).1) hro.self r (legs.length:Int) 20 (r,0,0,0,0) legs 0 (sok0 hm) rfl (by have:=mu0 hm;omega)
      have hwh:Ev1 (fun k=>CF k g_bw n_bw [inj KState s,inj KRequest r,inj (.slice .bool) legs]) (((finA (resF s r).1.1 (legsF 20 (r,0,0,0,0) legs)).1,(resF s r).1.2),(finA (resF s r).1.1 (legsF 20 (r,0,0,0,0) legs)).2,cnt):=by
       refine Ev1.step (fun k=>f_bw k s r legs) (Ev1.bind hrev ?_)
       exact Ev1.neg (by rw [hc];rfl) (Ev1.bind (begin_ev r) hl.diag)
      rw [hrr] at hwh
      exact ⟨cnt,Ev1.step stp (Ev1.bind (may_ev r) (Ev1.neg (by rw [hm];rfl) (Ev1.bind hask (Ev1.neg ha (Ev1.bind hput (Ev1.neg rfl (Ev1.bind (long_ev r) (Ev1.posD hlo (Ev1.bind hwh (hfin (_,s.2) _ cnt))))))))))⟩
    ·rw [if_neg hlo]
     have q1:(opsF s r).1.2.2.1=s.2.2.1:=by rw [ops_rest]
     have q2:(opsF s r).1.2.2.2.2=s.2.2.2.2:=by rw [ops_rest]
     have:=hfin (opsF s r).1 (opsF s r).2 0
     rw [q1,q2] at this
     exact ⟨0,Ev1.step stp (Ev1.bind (may_ev r) (Ev1.neg (by rw [hm];rfl) (Ev1.bind hask (Ev1.neg ha (Ev1.bind hput (Ev1.neg rfl (Ev1.bind (long_ev r) (Ev1.negD hlo (Ev1.bind (ops_ev h.op r) (by rw [q1,q2];exact this))))))))))⟩
theorem encs_small:∀ {l:List Int},(∀ n ∈ l,-8192<=n/\n < 8192)->(encs l).length<=2 * l.length
 | [],_=>by simp [encs]
 | n::l,h=>by
  have h1:=h n (List.mem_cons_self ..)
  have hz:zig n < 128 ^ (1+1):=by unfold zig;split<;>omega
  have:=enc_len 1 (zig n) hz
  have ih:=encs_small (l:=l) fun x hx=>h x (List.mem_cons_of_mem _ hx)
  show (enc (zig n)++encs l).length<=_
  rw [List.length_append,List.length_cons]
  omega
structure Small (r:TRequest):Prop where
 may:mayB r=true
 sm:∀ n ∈ rqL r,-8192<=n/\n < 8192
theorem small_ask {r:TRequest} (h:Small r):(encs (evL (0,r,0,false))).length<=16:=by
 have:=encs_small (l:=evL (0,r,0,false)) (by
  intro n hn
  rcases List.mem_cons.1 hn with rfl | hn
  ·simp
  ·exact h.sm n hn)
 exact this
theorem small_step {key:Int} (h:-8192<=key/\key < 8192)(ok:Bool):(encs (evL (1,zR,key,ok))).length<=6:=by
 have:=encs_small (l:=evL (1,zR,key,ok)) (by
  intro n hn
  have e:evL (1,zR,key,ok)=[1,key,if ok=true then 1 else 0]:=rfl
  rw [e] at hn
  simp only [List.mem_cons,List.not_mem_nil,or_false] at hn
  rcases hn with rfl | rfl | rfl
  ·omega
  ·exact h
  ·split<;>omega)
 exact this
theorem small_tick:(encs (evL (2,zR,0,false))).length<=2:=encs_small (l:=[2]) (by intro n hn;simp at hn;subst hn;omega)
theorem one_small {n a1 a2 a3 a4 a5:Int} (hn:0<=n/\n<=1000)(h1:0<=a1/\a1<=255)(h2:0<=a2/\a2<=255)(h3:0<=a3/\a3<=255)(h4:0<=a4/\a4<=255)(h5:0<=a5/\a5<=255):Small (oneR n a1 a2 a3 a4 a5):=by
 have e8:0<=a1 % 8/\a1 % 8 < 8:=by omega
 refine ⟨?_,?_⟩
 ·unfold mayB oneR amtB
  dsimp only
  rcases (by omega:a1 % 8=0\/a1 % 8=1\/a1 % 8=2\/a1 % 8=3\/a1 % 8=4\/a1 % 8=5\/a1 % 8=6\/a1 % 8=7) with e | e | e | e | e | e | e | e<;>rw [e]<;>simp<;>omega
 ·simp only [oneR,rqL,List.mem_cons,List.not_mem_nil,or_false,forall_eq_or_imp,forall_eq]
  refine ⟨by omega,by omega,?_,by omega,by omega,?_,?_⟩
  ·split
   ·omega
   ·split<;>omega
  ·split<;>omega
  ·split<;>omega
theorem acts_small (b:List Int)(hb:Byt b)(hl:b.length<=4000):∀ a ∈ acts b,a.1=0->Small a.2.1:=by
 intro a ha
 obtain ⟨i,hi,rfl⟩:=List.mem_map.1 ha
 have:=List.mem_range.1 hi
 unfold actAt oneF
 intro h
 split at h
 ·simp at h
 ·split at h
  ·simp at h
  ·split at h
   ·simp at h
   ·split at h
    ·split at h<;>simp at h
    ·rename_i c1 c2 c3 c4
     rw [if_neg c1,if_neg c2,if_neg c3,if_neg c4]
     exact one_small (by omega) (byt_get hb _) (byt_get hb _) (byt_get hb _) (byt_get hb _) (byt_get hb _)
theorem act_mid (a:List LChart.Acc)(s:TState)(g:TSaga)(said:List TSaid)(ok:Bool):actF (mid a s g,said) (2,zR,0,ok)=((stepF (mid a s g) g.1.1 ok).1,said):=by
 unfold actF
 rw [if_neg (by simp),if_neg (by simp),if_pos rfl]
 have e:waitsF (mid a s g)=[g.1.1]:=rfl
 dsimp only
 rw [e,if_pos (by simp)]
 rfl
section
variable (legs:List Bool)(w:Nat)(ac:List TEvent)(i:Int)
noncomputable abbrev hB0 (k m:Nat)(s:TState)(W:WC):Option R2:=h_tB k m legs (some w) ac (ac.length:Int) i s.1 s.2.1 s.2.2.1 s.2.2.2.1 s.2.2.2.2 W.wd W.we W.ws W.wn W.wc W.wr W.ww W.wo W.c.F W.c.R W.c.L W.c.S W.ej W.es W.c.jd W.c.jt W.c.jb W.c.jr W.c.jk W.c.B W.c.sf
noncomputable abbrev hB1 (k m1 m:Nat)(s:TState)(a:TEvent)(W:WC):Option R2:=h_tB_1 k m1 m legs (some w) ac (ac.length:Int) i s.1 s.2.1 s.2.2.1 s.2.2.2.1 s.2.2.2.2 a.1 a.2.1.1 a.2.1.2.1 a.2.1.2.2.1 a.2.1.2.2.2.1 a.2.1.2.2.2.2.1 a.2.1.2.2.2.2.2.1 a.2.1.2.2.2.2.2.2 a.2.2.1 a.2.2.2 W.wd W.we W.ws W.wn W.wc W.wr W.ww W.wo W.c.F W.c.R W.c.L W.c.S W.ej W.es W.c.jd W.c.jt W.c.jb W.c.jr W.c.jk W.c.B W.c.sf
noncomputable abbrev hB2 (k m1 m:Nat)(s:TState)(a:TEvent)(W:WC):Option R2:=h_tB_2 k m1 m legs (some w) ac (ac.length:Int) i s.1 s.2.1 s.2.2.1 s.2.2.2.1 s.2.2.2.2 a.1 a.2.1.1 a.2.1.2.1 a.2.1.2.2.1 a.2.1.2.2.2.1 a.2.1.2.2.2.2.1 a.2.1.2.2.2.2.2.1 a.2.1.2.2.2.2.2.2 a.2.2.1 a.2.2.2 W.wd W.we W.ws W.wn W.wc W.wr W.ww W.wo W.c.F W.c.R W.c.L W.c.S W.ej W.es W.c.jd W.c.jt W.c.jb W.c.jr W.c.jk W.c.B W.c.sf
noncomputable abbrev hB3 (k m1 m:Nat)(n:Int)(s:TState)(a:TEvent)(W:WC):Option R2:=h_tB_3 k m1 m legs (some w) n ac (ac.length:Int) i s.1 s.2.1 s.2.2.1 s.2.2.2.1 s.2.2.2.2 a.1 a.2.1.1 a.2.1.2.1 a.2.1.2.2.1 a.2.1.2.2.2.1 a.2.1.2.2.2.2.1 a.2.1.2.2.2.2.2.1 a.2.1.2.2.2.2.2.2 a.2.2.1 a.2.2.2 W.wd W.we W.ws W.wn W.wc W.wr W.ww W.wo W.c.F W.c.R W.c.L W.c.S W.ej W.es W.c.jd W.c.jt W.c.jb W.c.jr W.c.jk W.c.B W.c.sf
noncomputable abbrev hB4 (k m1 m2 m:Nat)(n:Int)(s:TState)(a:TEvent)(W:WC):Option R2:=h_tB_4 k m1 m2 m legs (some w) n ac (ac.length:Int) i s.1 s.2.1 s.2.2.1 s.2.2.2.1 s.2.2.2.2 a.1 a.2.1.1 a.2.1.2.1 a.2.1.2.2.1 a.2.1.2.2.2.1 a.2.1.2.2.2.2.1 a.2.1.2.2.2.2.2.1 a.2.1.2.2.2.2.2.2 a.2.2.1 a.2.2.2 W.wd W.we W.ws W.wn W.wc W.wr W.ww W.wo W.c.F W.c.R W.c.L W.c.S W.ej W.es W.c.jd W.c.jt W.c.jb W.c.jr W.c.jk W.c.B W.c.sf
noncomputable abbrev hB5 (k m1 m:Nat)(s:TState)(a:TEvent)(W:WC):Option R2:=h_tB_5 k m1 m legs (some w) ac (ac.length:Int) i s.1 s.2.1 s.2.2.1 s.2.2.2.1 s.2.2.2.2 a.1 a.2.1.1 a.2.1.2.1 a.2.1.2.2.1 a.2.1.2.2.2.1 a.2.1.2.2.2.2.1 a.2.1.2.2.2.2.2.1 a.2.1.2.2.2.2.2.2 a.2.2.1 a.2.2.2 W.wd W.we W.ws W.wn W.wc W.wr W.ww W.wo W.c.F W.c.R W.c.L W.c.S W.ej W.es W.c.jd W.c.jt W.c.jb W.c.jr W.c.jk W.c.B W.c.sf
end
theorem no_steps {legs:List Bool} {w x j d:Nat} {ac:List TEvent} {i:Int} {s e:TState} {a:TEvent} {W:WC} {said:List TSaid} {t u nn:Nat} (h:WI W w x j d e said t u nn)(h0:e.2.2.1=[])(n:Int) {R:R2}
  (h5:Ev2 (fun k m1=>hB5 legs w ac i k m1 k s a W) R):Ev3 (fun k m1 m=>hB3 legs w ac i k m1 m n s a W) R:=by
 have hst:Ev1 (fun k=>CF k g_dE_State n_dE_State [inj (.ref 30) (W.we.getD w none),Cn W.es]) (e,W.es):=by rw [h.we];exact eev h.es.2
 refine Ev3.step (fun k m1 m=>h_tB_3_s k m1 m legs (some w) n ac (ac.length:Int) i s.1 s.2.1 s.2.2.1 s.2.2.2.1 s.2.2.2.2 a.1 a.2.1.1 a.2.1.2.1 a.2.1.2.2.1 a.2.1.2.2.2.1 a.2.1.2.2.2.2.1 a.2.1.2.2.2.2.2.1 a.2.1.2.2.2.2.2.2 a.2.2.1 a.2.2.2 W.wd W.we W.ws W.wn W.wc W.wr W.ww W.wo W.c.F W.c.R W.c.L W.c.S W.ej W.es W.c.jd W.c.jt W.c.jb W.c.jr W.c.jk W.c.B W.c.sf) (Ev3.pos rfl (Ev3.bind hst (Ev3.negD (by rw [h0];simp) (Ev2.drop h5))))
theorem one_step (legs:List Bool) {w x j d:Nat} (ac:List TEvent)(i:Int)(s:TState)(a:TEvent) {W:WC} {b:List LChart.Acc} {q:TState} {g:TSaga} {said:List TSaid} {t u nn:Nat} (h:WI W w x j d (mid b q g) said t u nn)(hk:-8192<=g.1.1/\g.1.1 < 8192)(n:Nat)(hn:n < 40)(hu:u<=190000)(hnn:nn<=90000)(ht:t<=90000) :
  ∃ W' t',WI W' w x j d (stepF (mid b q g) g.1.1 ((legs.drop n).headD true)).1 said t' (u+12) (nn+1)/\t'<=t+1/\Fr W W' w x /\
   ∀ R,Ev3 (fun k m1 m=>hB3 legs w ac i k m1 m ((n+1:Nat):Int) s a W') R->Ev3 (fun k m1 m=>hB3 legs w ac i k m1 m (n:Int) s a W) R:=by
 obtain ⟨W',t',e1,e2,e3,e4⟩:=actl_ev W h (2,zR,0,(legs.drop n).headD true) ⟨by simp,by simp,by simp [rqL,I64]⟩ 0 (l:=6) (by omega) (fun q=>by simp at q) (fun q=>by simp at q) (Nat.le_trans small_tick (by omega)) (fun _ q hq=>by
  have:q=g.1.1:=by simpa [waitsF,mid] using hq
  rw [this];exact small_step hk _) hu hnn ht
 rw [act_mid] at e2
 refine ⟨W',t',e2,e3,e4,fun R hR=>?_⟩
 have hst:Ev1 (fun k=>CF k g_dE_State n_dE_State [inj (.ref 30) (W.we.getD w none),Cn W.es]) (mid b q g,W.es):=by rw [h.we];exact eev h.es.2
 refine Ev3.step (fun k m1 m=>h_tB_3_s k m1 m legs (some w) (n:Int) ac (ac.length:Int) i s.1 s.2.1 s.2.2.1 s.2.2.2.1 s.2.2.2.2 a.1 a.2.1.1 a.2.1.2.1 a.2.1.2.2.1 a.2.1.2.2.2.1 a.2.1.2.2.2.2.1 a.2.1.2.2.2.2.2.1 a.2.1.2.2.2.2.2.2 a.2.2.1 a.2.2.2 W.wd W.we W.ws W.wn W.wc W.wr W.ww W.wo W.c.F W.c.R W.c.L W.c.S W.ej W.es W.c.jd W.c.jt W.c.jb W.c.jr W.c.jk W.c.B W.c.sf) (Ev3.pos rfl (Ev3.bind hst (Ev3.posD (by simp [mid]) (Ev3.posD (by omega) ?_))))
 refine Ev3.inn (f:=fun k m1 m2 m=>hB4 legs w ac i k m1 m2 m (n:Int) s a W) (fun k m1 m2 m=>h_tB_4_s k m1 m2 m legs (some w) (n:Int) ac (ac.length:Int) i s.1 s.2.1 s.2.2.1 s.2.2.2.1 s.2.2.2.2 a.1 a.2.1.1 a.2.1.2.1 a.2.1.2.2.1 a.2.1.2.2.2.1 a.2.1.2.2.2.2.1 a.2.1.2.2.2.2.2.1 a.2.1.2.2.2.2.2.2 a.2.2.1 a.2.2.2 W.wd W.we W.ws W.wn W.wc W.wr W.ww W.wo W.c.F W.c.R W.c.L W.c.S W.ej W.es W.c.jd W.c.jt W.c.jb W.c.jr W.c.jk W.c.B W.c.sf ((n+1:Nat):Int) (wnat (by omega)).symm) ?_
 by_cases hl:legs.length<=n
 ·have:(legs.drop n).headD true=true:=by rw [List.drop_of_length_le hl];rfl
  rw [this] at e1
  exact Ev3.posD (by omega) (Ev3.bind e1 hR)
 ·have:(legs.drop n).headD true=legs.getD (Int.toNat (n:Int)) false:=by
   rw [Int.toNat_natCast,getD_at legs n false (by omega),List.drop_eq_getElem_cons (by omega)];rfl
  rw [this] at e1
  exact Ev3.negD (by omega) (Ev3.pos (inb_true (by omega) (by omega)) (Ev3.bind e1 hR))
theorem steps_l (legs:List Bool) {w x j d:Nat} (ac:List TEvent)(i:Int)(s:TState)(a:TEvent)(b:List LChart.Acc)(q:TState)(r:TRequest)(hk:-8192<=r.1/\r.1 < 8192)(hf:fnd r.1 q.2.2.2.1=none):∀ (m:Nat)(g:TSaga)(n:Nat)(W:WC)(said:List TSaid)(t u nn:Nat),SOk g->g.1=r->mu g<=(m:Int)->n+m+2<=40->WI W w x j d (mid b q g) said t u nn->u+12 * (m+2)<=190000->nn+(m+2)<=90000->t+(m+2)<=90000 ->
  ∃ W' t' u' n',WI W' w x j d (done_ (finA b (legsF m g (legs.drop n))).1 q r (finA b (legsF m g (legs.drop n))).2) said t' u' n'/\u'<=u+12 * (m+2)/\n'<=nn+(m+2)/\t'<=t+(m+2)/\Fr W W' w x /\
   ∀ R,Ev2 (fun k m1=>hB5 legs w ac i k m1 k s a W') R->Ev3 (fun k m1 m=>hB3 legs w ac i k m1 m (n:Int) s a W) R:=by
 -- a saga that goes back
 have back_:∀ (g:TSaga) (n:Nat) (W:WC) (said:List TSaid) (t u nn:Nat),g.1=r->g.2.1=1->n < 40->WI W w x j d (mid b q g) said t u nn->u<=190000->nn<=90000->t<=90000 ->
   ∃ W' t',WI W' w x j d (done_ (finA b g).1 q r (finA b g).2) said t' (u+12) (nn+1)/\t'<=t+1/\Fr W W' w x/\∀ R,Ev2 (fun k m1=>hB5 legs w ac i k m1 k s a W') R->Ev3 (fun k m1 m=>hB3 legs w ac i k m1 m (n:Int) s a W) R:=by
  intro g n W said t u nn hg hp hn h hu hnn ht
  obtain ⟨W',t',e1,e2,e3,e4⟩:=one_step legs ac i s a h (by rw [hg];exact hk) n hn hu hnn ht
  rw [step_back _ (by rw [hg];exact hf) hp,hg] at e1
  exact ⟨W',t',e1,e2,e3,fun R hR=>e4 R (no_steps e1 rfl _ hR)⟩
 -- a saga that no leg is waited for
 have stop_:∀ (g:TSaga) (n:Nat) (W:WC) (said:List TSaid) (t u nn:Nat),SOk g->g.1=r->¬ (g.2.1=0/\¬ (g.1.2.2.2.2.2.1<=g.2.2.1))->n+2<=40->WI W w x j d (mid b q g) said t u nn->u+24<=190000->nn+2<=90000->t+2<=90000 ->
   ∃ W' t' u' n',WI W' w x j d (done_ (finA b g).1 q r (finA b g).2) said t' u' n'/\u'<=u+24/\n'<=nn+2/\t'<=t+2/\Fr W W' w x/\∀ R,Ev2 (fun k m1=>hB5 legs w ac i k m1 k s a W') R->Ev3 (fun k m1 m=>hB3 legs w ac i k m1 m (n:Int) s a W) R:=by
  intro g n W said t u nn hs hg hc hn h hu hnn ht
  rcases hs.ph with hp | hp
  ·have hr:ready g:=⟨hp,by by_cases z:g.1.2.2.2.2.2.1<=g.2.2.1;exact z;exact (hc ⟨hp,z⟩).elim⟩
   obtain ⟨W',t',e1,e2,e3,e4⟩:=one_step legs ac i s a h (by rw [hg];exact hk) n (by omega) (by omega) (by omega) (by omega)
   rcases step_ready ((legs.drop n).headD true) (by rw [hg];exact hf:fnd g.1.1 q.2.2.2.1=none) hr with hd | ⟨c,hd,c1,c2,c3⟩
   ·rw [hd,hg] at e1
    exact ⟨W',t',_,_,e1,by omega,by omega,by omega,e3,fun R hR=>e4 R (no_steps e1 rfl _ hR)⟩
   ·rw [hd] at e1
    obtain ⟨W2,t2,f1,f2,f3,f4⟩:=back_ (turnF g c) (n+1) W' said t' (u+12) (nn+1) (c2.trans hg) c1 (by omega) e1 (by omega) (by omega) (by omega)
    rw [c3] at f1
    exact ⟨W2,t2,_,_,f1,by omega,by omega,by omega,e3.trans f3,fun R hR=>e4 R (f4 R hR)⟩
  ·obtain ⟨W',t',e1,e2,e3,e4⟩:=back_ g n W said t u nn hg hp (by omega) h (by omega) (by omega) (by omega)
   exact ⟨W',t',_,_,e1,by omega,by omega,by omega,e3,e4⟩
 intro m
 induction m with
 | zero =>
  intro g n W said t u nn hs hg hm hn h hu hnn ht
  have hc:¬ (g.2.1=0/\¬ (g.1.2.2.2.2.2.1<=g.2.2.1)):=fun z=>by have:=mu_pos hs z;omega
  obtain ⟨W',t',u',n',e1,e2,e3,e4,e5,e6⟩:=stop_ g n W said t u nn hs hg hc (by omega) h (by omega) (by omega) (by omega)
  exact ⟨W',t',u',n',e1,by omega,by omega,by omega,e5,e6⟩
 | succ m ih =>
  intro g n W said t u nn hs hg hm hn h hu hnn ht
  by_cases hc:g.2.1=0/\¬ (g.1.2.2.2.2.2.1<=g.2.2.1)
  ·obtain ⟨q1,q2,q3⟩:=sok_leg hs hc ((legs.drop n).headD true)
   have hmu:mu (legF g ((legs.drop n).headD true))<=(m:Int):=by
    rcases q3 with q3 | q3
    ·omega
    ·unfold mu;rw [if_neg (by omega)];omega
   obtain ⟨W',t',e1,e2,e3,e4⟩:=one_step legs ac i s a h (by rw [hg];exact hk) n (by omega) (by omega) (by omega) (by omega)
   rw [step_leg _ hc q2] at e1
   obtain ⟨W2,t2,u2,n2,f1,f2,f3,f4,f5,f6⟩:=ih _ (n+1) W' said t' (u+12) (nn+1) q1 (q2.trans hg) hmu (by omega) e1 (by omega) (by omega) (by omega)
   have e:legsF (m+1) g (legs.drop n)=legsF m (legF g ((legs.drop n).headD true)) (legs.drop (n+1)):=by
    show (if _ then _ else _)=_
    rw [if_pos hc,List.tail_drop]
   rw [e]
   exact ⟨W2,t2,u2,n2,f1,by omega,by omega,by omega,e3.trans f5,fun R hR=>e4 R (f6 R hR)⟩
  ·rw [legsF_stop _ _ _ hc]
   obtain ⟨W',t',u',n',e1,e2,e3,e4,e5,e6⟩:=stop_ g n W said t u nn hs hg hc (by omega) h (by omega) (by omega) (by omega)
   exact ⟨W',t',u',n',e1,by omega,by omega,by omega,e5,e6⟩
theorem five (legs:List Bool) {w x j d:Nat} (ac:List TEvent)(i:Nat)(hi:i<=10000) {s:TState} (hs:Inv s)(a:TEvent)(hm:mayB a.2.1=true) {W:WC} {said:List TSaid} {t u nn:Nat} (h:WI W w x j d (bankF legs s a.2.1).1 said t u nn) {R:R2}
  (hR:Ev2 (fun k m=>hB0 legs w ac ((i+1:Nat):Int) k m (bankF legs s a.2.1).1 W) R):Ev2 (fun k m1=>hB5 legs w ac (i:Int) k m1 k s a W) R:=by
 have hst:Ev1 (fun k=>CF k g_dE_State n_dE_State [inj (.ref 30) (W.we.getD w none),Cn W.es]) ((bankF legs s a.2.1).1,W.es):=by rw [h.we];exact eev h.es.2
 have hkl:=h.inv.kl
 obtain ⟨cnt,hb⟩:=bdo_ev hs a.2.1 legs
 have hask:=ask_ev (bankF legs s a.2.1).1.2.2.2.1 a.2.1 (by omega)
 refine Ev2.inn (f:=fun k m1 m=>hB5 legs w ac (i:Int) k m1 m s a W) (fun k m1 m=>h_tB_5_s k m1 m legs (some w) ac (ac.length:Int) (i:Int) s.1 s.2.1 s.2.2.1 s.2.2.2.1 s.2.2.2.2 a.1 a.2.1.1 a.2.1.2.1 a.2.1.2.2.1 a.2.1.2.2.2.1 a.2.1.2.2.2.2.1 a.2.1.2.2.2.2.2.1 a.2.1.2.2.2.2.2.2 a.2.2.1 a.2.2.2 W.wd W.we W.ws W.wn W.wc W.wr W.ww W.wo W.c.F W.c.R W.c.L W.c.S W.ej W.es W.c.jd W.c.jt W.c.jb W.c.jr W.c.jk W.c.B W.c.sf ((i+1:Nat):Int) (wnat (by omega)).symm a.2.1 rfl) (Ev2.bind hb (Ev2.pos rfl (Ev2.bind hst (Ev2.bind hask ?_))))
 rcases bank_ask (s:=s) legs hm with ⟨q1,q2⟩ | ⟨q1,q2⟩
 ·exact Ev2.pos q1 (Ev2.neg (by rw [q2];simp) (Ev2.neg (by rw [q1];rfl) hR))
 ·exact Ev2.neg q1 (Ev2.pos (by rw [q1];rfl) (Ev2.neg (by rw [decide_eq_true q2];rfl) hR))
theorem bank_l (legs:List Bool)(ac:List TEvent)(hl:ac.length<=512)(hok:∀ a ∈ ac,a.1=5\/AOk a)(hsm:∀ a ∈ ac,a.1=0->Small a.2.1)(w x j d:Nat):∀ (dd i:Nat)(W:WC)(s:TState)(said:List TSaid)(t u n:Nat),i+dd=ac.length->WI W w x j d s said t u n->s.2.2.1=[]->u<=300 * i->n<=25 * i->t<=25 * i ->
  ∃ W',Ev2 (fun k m=>hB0 legs w ac (i:Int) k m s W) (outT true W')
 | 0,i,W,s,said,t,u,n,hi,h,h0,hu,hn,ht=>by
  have hst:Ev1 (fun k=>CF k g_dE_State n_dE_State [inj (.ref 30) (W.we.getD w none),Cn W.es]) (s,W.es):=by rw [h.we];exact eev h.es.2
  exact ⟨W,Ev2.step (fun k m=>h_tB_s k m legs (some w) ac (ac.length:Int) (i:Int) s.1 s.2.1 s.2.2.1 s.2.2.2.1 s.2.2.2.2 W.wd W.we W.ws W.wn W.wc W.wr W.ww W.wo W.c.F W.c.R W.c.L W.c.S W.ej W.es W.c.jd W.c.jt W.c.jb W.c.jr W.c.jk W.c.B W.c.sf _ rfl s rfl _ rfl _ rfl) (Ev2.negD (by omega) (Ev2.pos rfl (Ev2.bind hst (Ev2.bind (same17_ev h.inv) (Ev2.now _)))))⟩
 | dd+1,i,W,s,said,t,u,n,hi,h,h0,hu,hn,ht=>by
  have hlt:i < ac.length:=by omega
  have he:ac.getD (Int.toNat (i:Int)) ((0:Int),((0:Int),(0:Int),(0:Int),(0:Int),(0:Int),(0:Int),(0:Int)),(0:Int),false)=ac[i]:=by rw [Int.toNat_natCast];exact getD_at ac i _ hlt
  have hmem:=List.getElem_mem hlt
  generalize ac[i]=a at he hmem
  have st0:=fun k m=>h_tB_s k m legs (some w) ac (ac.length:Int) (i:Int) s.1 s.2.1 s.2.2.1 s.2.2.2.1 s.2.2.2.2 W.wd W.we W.ws W.wn W.wc W.wr W.ww W.wo W.c.F W.c.R W.c.L W.c.S W.ej W.es W.c.jd W.c.jt W.c.jb W.c.jr W.c.jk W.c.B W.c.sf a he.symm s rfl _ rfl _ rfl
  have in1:∀ (s:TState) (W:WC) (R:R2),(a.1=4->∃ V,Ev1 (fun k=>callAct k w a 0 W) (outW V)/\Ev2 (fun k m1=>hB2 legs w ac (i:Int) k m1 k s a V) R)->(a.1 ≠ 4->Ev2 (fun k m1=>hB2 legs w ac (i:Int) k m1 k s a W) R)->Ev2 (fun k m=>hB1 legs w ac (i:Int) k m k s a W) R:=by
   intro s W R h4 h5
   refine Ev2.inn (f:=fun k m1 m=>hB1 legs w ac (i:Int) k m1 m s a W) (fun k m1 m=>h_tB_1_s k m1 m legs (some w) ac (ac.length:Int) (i:Int) s.1 s.2.1 s.2.2.1 s.2.2.2.1 s.2.2.2.2 a.1 a.2.1.1 a.2.1.2.1 a.2.1.2.2.1 a.2.1.2.2.2.1 a.2.1.2.2.2.2.1 a.2.1.2.2.2.2.2.1 a.2.1.2.2.2.2.2.2 a.2.2.1 a.2.2.2 W.wd W.we W.ws W.wn W.wc W.wr W.ww W.wo W.c.F W.c.R W.c.L W.c.S W.ej W.es W.c.jd W.c.jt W.c.jb W.c.jr W.c.jk W.c.B W.c.sf) ?_
   refine Ev2.iff (fun c=>?_) (fun c=>h5 c)
   obtain ⟨V,g1,g2⟩:=h4 c
   exact Ev2.bind g1 g2
  have in2:∀ (s:TState) (W:WC) (R:R2),(a.1=0->∃ V,Ev1 (fun k=>callAct k w a 0 W) (outW V)/\Ev3 (fun k m1 m=>hB3 legs w ac (i:Int) k m1 m 0 s a V) R)->(a.1 ≠ 0->Ev2 (fun k m=>hB0 legs w ac ((i+1:Nat):Int) k m s W) R)->Ev2 (fun k m1=>hB2 legs w ac (i:Int) k m1 k s a W) R:=by
   intro s W R h4 h5
   refine Ev2.inn (f:=fun k m1 m=>hB2 legs w ac (i:Int) k m1 m s a W) (fun k m1 m=>h_tB_2_s k m1 m legs (some w) ac (ac.length:Int) (i:Int) s.1 s.2.1 s.2.2.1 s.2.2.2.1 s.2.2.2.2 a.1 a.2.1.1 a.2.1.2.1 a.2.1.2.2.1 a.2.1.2.2.2.1 a.2.1.2.2.2.2.1 a.2.1.2.2.2.2.2.1 a.2.1.2.2.2.2.2.2 a.2.2.1 a.2.2.2 W.wd W.we W.ws W.wn W.wc W.wr W.ww W.wo W.c.F W.c.R W.c.L W.c.S W.ej W.es W.c.jd W.c.jt W.c.jb W.c.jr W.c.jk W.c.B W.c.sf) ?_
   by_cases c:a.1=0
   ·obtain ⟨V,g1,g2⟩:=h4 c
    exact Ev2.neg (by rw [decide_eq_true c];rfl) (Ev2.bind g1 g2.diag)
   ·have:=h5 c
    rw [<- wnat (by omega)] at this
    exact Ev2.pos (by rw [decide_eq_false c];rfl) this
  rcases hok a hmem with k5 | ha
  ·obtain ⟨W',g⟩:=bank_l legs ac hl hok hsm w x j d dd (i+1) W s said t u n (by omega) h h0 (by omega) (by omega) (by omega)
   exact ⟨W',Ev2.step st0 (Ev2.posD (by omega) (Ev2.pos (inb_true (by omega) (by omega)) (Ev2.negD (by omega) (in1 s W _ (fun c=>by omega) (fun _=>in2 s W _ (fun c=>by omega) (fun _=>g))))))⟩
  by_cases k0:a.1=0
  ·have hS:=hsm a hmem k0
   obtain ⟨W1,t1,e1,e2,e3,e4⟩:=actl_ev W h a ha 0 (l:=16) (by omega) (fun _=>small_ask hS) (fun c=>by omega) (Nat.le_trans small_tick (by omega)) (fun c=>by omega) (by omega) (by omega) (by omega)
   have ea:actF (s,said) a=askS (s,said) a.2.1:=by unfold actF;rw [if_pos k0]
   have eb:(askS (s,said) a.2.1).1=(subF s a.2.1).1:=rfl
   rw [ea,eb] at e2
   generalize (askS (s,said) a.2.1).2=said2 at e2
   have hfin:∃ W2 t2 u2 n2,WI W2 w x j d (bankF legs s a.2.1).1 said2 t2 u2 n2/\u2<=u+300/\n2<=n+25/\t2<=t+25/\∀ R,Ev2 (fun k m1=>hB5 legs w ac (i:Int) k m1 k s a W2) R->Ev3 (fun k m1 m=>hB3 legs w ac (i:Int) k m1 m 0 s a W1) R:=by
    rcases sub_bank h.inv h0 a.2.1 legs with q | ⟨p1,p2,p3,p4,p5,p6,p7⟩
    ·rw [q] at e2
     exact ⟨W1,t1,_,_,e2,by omega,by omega,by omega,fun R hR=>no_steps e2 (by rw [bank_sagas];exact h0) 0 hR⟩
    ·rw [p6] at e2
     obtain ⟨W2,t2,u2,n2,f1,f2,f3,f4,f5,f6⟩:=steps_l legs ac (i:Int) s a (resF s a.2.1).1.1 s a.2.1 (hS.sm _ (by simp [rqL])) p2 20 (a.2.1,0,0,0,0) 0 W1 said2 t1 (u+6+16) (n+1) (sok0 p1) rfl (by have:=mu0 p1;omega) (by omega) e2 (by omega) (by omega) (by omega)
     rw [List.drop_zero] at f1
     rw [<- p7] at f1
     exact ⟨W2,t2,u2,n2,f1,by omega,by omega,by omega,f6⟩
   obtain ⟨W2,t2,u2,n2,f1,f2,f3,f4,f5⟩:=hfin
   obtain ⟨W',g⟩:=bank_l legs ac hl hok hsm w x j d dd (i+1) W2 (bankF legs s a.2.1).1 said2 t2 u2 n2 (by omega) f1 (by rw [bank_sagas];exact h0) (by omega) (by omega) (by omega)
   exact ⟨W',Ev2.step st0 (Ev2.posD (by omega) (Ev2.pos (inb_true (by omega) (by omega)) (Ev2.negD (by omega) (in1 s W _ (fun c=>by omega) (fun _=>in2 s W _ (fun _=>⟨W1,e1,f5 _ (five legs ac i (by omega) h.inv a hS.may f1 g)⟩) (fun c=>(c k0).elim))))))⟩
  by_cases k3:a.1=3
  ·obtain ⟨W1,t1,e1,e2,e3,e4⟩:=actl_ev W h a ha 0 (l:=6) (by omega) (fun c=>by omega) (fun c=>by omega) (Nat.le_trans small_tick (by omega)) (fun c=>by omega) (by omega) (by omega) (by omega)
   have ea:actF (s,said) a=(tickF s,said):=by unfold actF;rw [if_neg (by omega),if_neg (by omega),if_neg (by omega),if_pos k3];rfl
   rw [ea] at e2
   obtain ⟨W',g⟩:=bank_l legs ac hl hok hsm w x j d dd (i+1) W1 (tickF s) said t1 (u+6+6) (n+1) (by omega) e2 (by rw [tick_sagas h.inv];exact h0) (by omega) (by omega) (by omega)
   exact ⟨W',Ev2.step st0 (Ev2.posD (by omega) (Ev2.pos (inb_true (by omega) (by omega)) (Ev2.posD k3 (Ev2.bind e1 (Ev2.bind (tick_ev h.inv.op) (in1 (tickF s) W1 _ (fun c=>by omega) (fun _=>in2 (tickF s) W1 _ (fun c=>by omega) (fun _=>g))))))))⟩
  by_cases k4:a.1=4
  ·obtain ⟨W1,t1,e1,e2,e3,e4⟩:=actl_ev W h a ha 0 (l:=6) (by omega) (fun c=>by omega) (fun c=>by omega) (Nat.le_trans small_tick (by omega)) (fun c=>by omega) (by omega) (by omega) (by omega)
   have ea:actF (s,said) a=(s,said):=by unfold actF;rw [if_neg (by omega),if_neg (by omega),if_neg (by omega),if_neg (by omega)]
   rw [ea] at e2
   obtain ⟨W',g⟩:=bank_l legs ac hl hok hsm w x j d dd (i+1) W1 s said t1 (u+6+6) (n+1) (by omega) e2 h0 (by omega) (by omega) (by omega)
   exact ⟨W',Ev2.step st0 (Ev2.posD (by omega) (Ev2.pos (inb_true (by omega) (by omega)) (Ev2.negD k3 (in1 s W _ (fun _=>⟨W1,e1,in2 s W1 _ (fun c=>by omega) (fun _=>g)⟩) (fun c=>(c k4).elim)))))⟩
  ·obtain ⟨W',g⟩:=bank_l legs ac hl hok hsm w x j d dd (i+1) W s said t u n (by omega) h h0 (by omega) (by omega) (by omega)
   exact ⟨W',Ev2.step st0 (Ev2.posD (by omega) (Ev2.pos (inb_true (by omega) (by omega)) (Ev2.negD k3 (in1 s W _ (fun c=>(k4 c).elim) (fun _=>in2 s W _ (fun c=>(k0 c).elim) (fun _=>g))))))⟩
noncomputable abbrev callTB (k:Nat)(b:List Int)(legs:List Bool)(W:WC):=CF k g_tB n_tB [inj BB b,inj (.slice .bool) legs,Ca W.wd,Cb W.we,Cc W.ws,Cd W.wn,Ce W.wc,Cf W.wr,Cg W.ww,Ch W.wo,Ci W.c.F,Cj W.c.R,Ck W.c.L,Cl W.c.S,Cm W.ej,Cn W.es,Co W.c.jd,Cp W.c.jt,Cq W.c.jb,Cr W.c.jr,Cs W.c.jk,Ct W.c.B,Cu W.c.sf]
theorem topBank (b:List Int)(hb:Byt b)(hbl:b.length<=211106232532000)(legs:List Bool)(W:WC)(h:Al W):∃ W',Ev1 (fun k=>callTB k b legs W) (outT true W'):=by
 have hlen:=allL_len b
 have hal:=acts_len (allL b)
 have hacts:=acts_ok (allL b) (allL_byt hb) (by omega)
 have hsm:=acts_small (allL b) (allL_byt hb) (by omega)
 obtain ⟨W1,ha,hA1⟩:=awake_ev W h
 obtain ⟨W',g⟩:=bank_l legs (acts (allL b)) (by omega) hacts hsm W1.wd.length W1.ej.length W1.c.jd.length W1.c.F.length (acts (allL b)).length 0 (newW W1) s0 [] 0 0 0 (by omega) (wi_new W1 hA1) rfl (by omega) (by omega) (by omega)
 exact ⟨W',Ev1.step (fun k=>f_tB k b legs W.wd W.we W.ws W.wn W.wc W.wr W.ww W.wo W.c.F W.c.R W.c.L W.c.S W.ej W.es W.c.jd W.c.jt W.c.jb W.c.jr W.c.jk W.c.B W.c.sf) (Ev1.bind ha (Ev1.neg rfl (Ev1.bind (wof_ev W1 hA1) (Ev1.bind new_ev (Ev1.bind (tacts_ev b hb hbl) g.diag)))))⟩
end Go.Eng.Top
namespace Go.Proofs.YtbbnmhmfdbcmhaaGreatDoorW.As
open Go.RowKit Go.Extern.Stop Go.Stop Go.Extern Go.Proofs
theorem below_alloc {w W:World} (h:Below w.heap.size w W)(o:Obj):Below w.heap.size w (W.alloc o):=h.alloc h.size o
theorem below_set {w W:World} {g j:Nat} {v:Value} (h:Below w.heap.size w W)(hg:w.heap.size<=g):Below w.heap.size w (W.setCell ⟨g,j,none⟩ v):=h.setCell hg _
def GH (w:World):Prop:=w.cell? ⟨0,0,none⟩=some (.iface 240 (.agg #[.pointer (some ⟨1,34,none⟩)]))
theorem GH.lt {w:World} (h:GH w):0 < w.heap.size:=by
 unfold GH at h
 rcases Nat.eq_zero_or_pos w.heap.size with h0 | h1
 ·simp [World.cell?,h0] at h
 ·exact h1
theorem GH.below {B:Nat} {w w':World} (h:GH w)(hb:Below B w w')(hB:w.heap.size<=B):GH w':=by
 have hlt:=h.lt
 unfold GH at *
 rw [<- h]
 exact hb.cell (p:=⟨0,0,none⟩) (by show 0 < B;omega)
theorem GH.step {w w':World} (h:GH w)(hb:Below w.heap.size w w'):GH w':=h.below hb (Nat.le_refl _)
theorem as_nil (t:Value)(w:World) :
  Calls Tryz.prog 73 #[.nilIface,t] w fun e w'=>e=.returned (.bool false)/\w'=w:=by
 go_enter Tryz.func73,Tryz.ntmps73
 go_wp2
 go_ret
 exact ⟨rfl,rfl⟩
theorem xvalueOfP (t:Addr)(w:World):(ReflectliteValue.unpack (.iface 154 (.pointer (some t)))).run Tryz.prog w
  = .ok (.agg #[.pointer (some ⟨1,154,none⟩),.pointer (some ⟨w.heap.size,0,none⟩),.int .u64 150]) (w.alloc (.cells #[.pointer (some t)] 154)):=by kernel_rfl
theorem xtypeP (a : Addr) (w : World) : (ReflectliteValue.methodAny (ReflectliteValue.valueError "reflectlite.Value.Type" 0) (fun t _ _ _ => ReflectliteType.toType t) #[.agg #[.pointer (some ⟨1, 154, none⟩), .pointer (some a), .int .u64 150]]).run Tryz.prog w
  = .ok (.iface 240 (.agg #[.pointer (some ⟨1,154,none⟩)])) w:=by kernel_rfl
theorem xmethodKind (h : Value) (w : World) : (Go.method 437 240 (.agg #[h]) "Kind").run Tryz.prog w = .ok (206, h) w := by kernel_rfl
theorem xkindP (w:World):((ReflectliteType.abiMethod fun t=>(fun a:Nat=>Value.int IntKind.u8 (a:Int)) <$> Rtype.kind t) #[.pointer (some ⟨1,154,none⟩)]).run Tryz.prog w=.ok (.int .u8 22) w:=by kernel_rfl
theorem xkindE (w:World):((ReflectliteType.abiMethod fun t=>(fun a:Nat=>Value.int IntKind.u8 (a:Int)) <$> Rtype.kind t) #[.pointer (some ⟨1,46,none⟩)]).run Tryz.prog w=.ok (.int .u8 2) w:=by kernel_rfl
theorem rlm (z:Sem Value)(f:TypeId->Addr->Nat->Nat->Sem Value)(v:Value) :
  ReflectliteValue.method z f #[v]=(do match <- ReflectliteValue.parts v with | none=>z | some (t,a,fl)=>f t a fl (fl % 32)):=rfl
theorem xpartsP (a:Addr)(w:World):(ReflectliteValue.parts (.agg #[.pointer (some ⟨1,154,none⟩),.pointer (some a),.int .u64 150])).run Tryz.prog w=.ok (some (154,a,150)) w:=by kernel_rfl
theorem xisNilP (a p:Addr)(W:World)(ha:W.cell? a=some (.pointer (some p))) :
  (ReflectliteValue.method (ReflectliteValue.valueError "reflectlite.Value.IsNil" 0) ReflectliteValue.isNil #[.agg #[.pointer (some ⟨1, 154, none⟩), .pointer (some a), .int .u64 150]]).run Tryz.prog W = .ok (.bool false) W := by
 rw [rlm]
 simp only [Sem.run_bind,xpartsP,Result.andThen]
 simp [ReflectliteValue.isNil,loadVar,isAgg,underlying,Tryz.underlying154,ha,Result.andThen]
theorem xmethodElem (h : Value) (w : World) : (Go.method 437 240 (.agg #[h]) "Elem").run Tryz.prog w = .ok (222, .agg #[h]) w := by kernel_rfl
theorem xmethodImplements (h : Value) (w : World) : (Go.method 437 240 (.agg #[h]) "Implements").run Tryz.prog w = .ok (223, .agg #[h]) w := by kernel_rfl
theorem xmethodAssignableTo (h : Value) (w : World) : (Go.method 437 240 (.agg #[h]) "AssignableTo").run Tryz.prog w = .ok (220, .agg #[h]) w := by kernel_rfl
theorem xelemP (w:World):(ReflectliteType.method ReflectliteType.elem #[.agg #[.pointer (some ⟨1,154,none⟩)]]).run Tryz.prog w=.ok (.iface 240 (.agg #[.pointer (some ⟨1,46,none⟩)])) w:=by kernel_rfl
theorem ximplementsE (w : World) : (ReflectliteType.relation "Implements" ReflectliteType.implements_ #[.agg #[.pointer (some ⟨1, 46, none⟩)], .iface 240 (.agg #[.pointer (some ⟨1, 34, none⟩)])]).run Tryz.prog w = .ok (.bool true) w := by kernel_rfl
theorem xtypeOfE (v:Value)(w:World):(ReflectliteType.typeOf #[.iface 46 v]).run Tryz.prog w=.ok (.iface 240 (.agg #[.pointer (some ⟨1,46,none⟩)])) w:=by kernel_rfl
theorem xassignableE (w : World) : (ReflectliteType.relation "AssignableTo" ReflectliteType.assignableTo #[.agg #[.pointer (some ⟨1, 46, none⟩)], .iface 240 (.agg #[.pointer (some ⟨1, 46, none⟩)])]).run Tryz.prog w = .ok (.bool true) w := by kernel_rfl
theorem xvalueOfE (c:Int)(w:World):(ReflectliteValue.unpack (.iface 46 (.int .i64 c))).run Tryz.prog w
  = .ok (.agg #[.pointer (some ⟨1,46,none⟩),.pointer (some ⟨w.heap.size,0,none⟩),.int .u64 130]) (w.alloc (.cells #[.int .i64 c] 46)):=by kernel_rfl
theorem xelemOfP (w:World):(Rtype.elem? 154).run Tryz.prog w=.ok (some 46) w:=by kernel_rfl
theorem xmkE (p:Addr)(w:World):(ReflectliteValue.mk 46 p ReflectliteValue.flagAddr).run Tryz.prog w=.ok (.agg #[.pointer (some ⟨1,46,none⟩),.pointer (some p),.int .u64 386]) w:=by kernel_rfl
theorem xelemVP (a p:Addr)(W:World)(ha:W.cell? a=some (.pointer (some p))) :
  (ReflectliteValue.method (ReflectliteValue.valueError "reflectlite.Value.Elem" 0) ReflectliteValue.elem #[.agg #[.pointer (some ⟨1, 154, none⟩), .pointer (some a), .int .u64 150]]).run Tryz.prog W
   = .ok (.agg #[.pointer (some ⟨1,46,none⟩),.pointer (some p),.int .u64 386]) W:=by
 rw [rlm]
 simp only [Sem.run_bind,xpartsP,Result.andThen]
 simp [ReflectliteValue.elem,loadVar,isAgg,underlying,Tryz.underlying154,ha,Result.andThen,xelemOfP,xmkE]
theorem rls (v x:Value):ReflectliteValue.set #[v,x]=(do
  let (some (dst,a,fl),some (src,b,_)):=(<- ReflectliteValue.parts v,<- ReflectliteValue.parts x)
   | unsupported (.noEntry "extern/(internal/reflectlite.Value).Set.zeroValue")
  if fl / ReflectliteValue.flagAddr % 2 == 0 then unsupported (.noEntry "extern/(internal/reflectlite.Value).Set.unaddressable")
  let val <- loadVar src b
  if <- Rtype.directlyAssignable dst src then storeVar dst a val
  else if <- Rtype.implements dst src then
   if (<- Rtype.kind src) == 20 then
    match val with
    | .nilIface => unsupported (.noEntry "extern/reflectlite: a nil value of one interface type handed on as a value of another")
    | _=>storeVar dst a val
   else storeVar dst a (.iface src val)
  else panicString ("reflectlite.Set: value of type " ++ (<- Rtype.spelt src) ++ " is not assignable to type " ++ (<- Rtype.spelt dst))
  pure (.tuple #[])):=rfl
theorem xpartsEa (a:Addr)(w:World):(ReflectliteValue.parts (.agg #[.pointer (some ⟨1,46,none⟩),.pointer (some a),.int .u64 386])).run Tryz.prog w=.ok (some (46,a,386)) w:=by kernel_rfl
theorem xpartsE (a:Addr)(w:World):(ReflectliteValue.parts (.agg #[.pointer (some ⟨1,46,none⟩),.pointer (some a),.int .u64 130])).run Tryz.prog w=.ok (some (46,a,130)) w:=by kernel_rfl
theorem xdirectE (w:World):(Rtype.directlyAssignable 46 46).run Tryz.prog w=.ok true w:=by kernel_rfl
theorem xsetE (ta b:Addr)(c:Int)(old:Value)(W:World)(hb:W.cell? b=some (.int .i64 c))(ht:W.cell? ta=some old)(hf:W.frozen? ta=false) :
  (ReflectliteValue.set #[.agg #[.pointer (some ⟨1,46,none⟩),.pointer (some ta),.int .u64 386],.agg #[.pointer (some ⟨1,46,none⟩),.pointer (some b),.int .u64 130]]).run Tryz.prog W
   = .ok (.tuple #[]) (W.setCell ta (.int .i64 c)):=by
 rw [rls]
 simp only [Sem.run_bind,xpartsEa,xpartsE,Result.andThen]
 simp [ReflectliteValue.flagAddr,loadVar,isAgg,underlying,Tryz.underlying46,hb,Result.andThen,xdirectE,storeVar,Value.cells,storeCells,Addr.add]
 rw [run_store Tryz.prog W ta _ _ (by rfl)]
 simp [ht,hf]
def asWorld (w:World)(t:Addr)(c:Int):World:=((((w.alloc (.cells #[.pointer (some t)] 154)).alloc (.cells #[.pointer (some ⟨1,154,none⟩),.pointer (some ⟨w.heap.size,0,none⟩),.int .u64 150] 195)).alloc (.cells #[.pointer (some ⟨1,154,none⟩),.pointer (some ⟨w.heap.size,0,none⟩),.int .u64 150] 195)).alloc (.cells #[.int .i64 c] 46)).setCell t (.int .i64 c)
set_option maxHeartbeats 4000000 in
theorem as_hit (c:Int)(t:Addr)(old:Value)(w:World)(hg:GH w)(ht0:w.cell? t=some old)(hf0:w.frozen? t=false) :
  Calls Tryz.prog 73 #[.iface 46 (.int .i64 c),.iface 154 (.pointer (some t))] w fun ev w'=>ev=.returned (.bool true)/\w'=asWorld w t c:=by
 unfold GH at hg
 unfold asWorld
 have h6:=@run_callFunc_extern Tryz.prog 106 _ (fun args=>ReflectliteValue.unpack (args.getD 0 (.tuple #[]))) Tryz.func106 (by kernel_rfl) (by kernel_rfl) (by kernel_rfl) (by kernel_rfl)
 have h7 := @run_callFunc_extern Tryz.prog 107 _ (ReflectliteValue.methodAny (ReflectliteValue.valueError "reflectlite.Value.Type" 0) (fun t _ _ _ => ReflectliteType.toType t)) Tryz.func107 (by kernel_rfl) (by kernel_rfl) (by kernel_rfl) (by kernel_rfl)
 have h8 := @run_callFunc_extern Tryz.prog 108 _ (ReflectliteValue.method (ReflectliteValue.valueError "reflectlite.Value.IsNil" 0) ReflectliteValue.isNil) Tryz.func108 (by kernel_rfl) (by kernel_rfl) (by kernel_rfl) (by kernel_rfl)
 have h27:=@run_callFunc_extern Tryz.prog 206 _ (ReflectliteType.abiMethod fun t=>do pure (.int .u8 (<- Rtype.kind t))) Tryz.func206 (by kernel_rfl) (by kernel_rfl) (by kernel_rfl) (by kernel_rfl)
 have h37:=@run_callFunc_extern Tryz.prog 222 _ (ReflectliteType.method ReflectliteType.elem) Tryz.func222 (by kernel_rfl) (by kernel_rfl) (by kernel_rfl) (by kernel_rfl)
 have h38 := @run_callFunc_extern Tryz.prog 223 _ (ReflectliteType.relation "Implements" ReflectliteType.implements_) Tryz.func223 (by kernel_rfl) (by kernel_rfl) (by kernel_rfl) (by kernel_rfl)
 have h10:=@run_callFunc_extern Tryz.prog 141 _ ReflectliteType.typeOf Tryz.func141 (by kernel_rfl) (by kernel_rfl) (by kernel_rfl) (by kernel_rfl)
 have h35 := @run_callFunc_extern Tryz.prog 220 _ (ReflectliteType.relation "AssignableTo" ReflectliteType.assignableTo) Tryz.func220 (by kernel_rfl) (by kernel_rfl) (by kernel_rfl) (by kernel_rfl)
 have h11 := @run_callFunc_extern Tryz.prog 142 _ (ReflectliteValue.method (ReflectliteValue.valueError "reflectlite.Value.Elem" 0) ReflectliteValue.elem) Tryz.func142 (by kernel_rfl) (by kernel_rfl) (by kernel_rfl) (by kernel_rfl)
 have h12:=@run_callFunc_extern Tryz.prog 143 _ ReflectliteValue.set Tryz.func143 (by kernel_rfl) (by kernel_rfl) (by kernel_rfl) (by kernel_rfl)
 have tO:=xtypeOfE
 have mA:=xmethodAssignableTo
 have a25:=xassignableE
 have v25:=xvalueOfE
 have f6:=xvalueOfP
 have f7:=xtypeP
 have mK:=xmethodKind
 have mE:=xmethodElem
 have mI:=xmethodImplements
 have k27:=xkindP
 have k25:=xkindE
 have e27:=xelemP
 have i25:=ximplementsE
 have n8:=xisNilP ⟨w.heap.size,0,none⟩ t ((w.alloc (.cells #[.pointer (some t)] 154)).alloc (.cells #[.pointer (some ⟨1,154,none⟩),.pointer (some ⟨w.heap.size,0,none⟩),.int .u64 150] 195)) (by simp)
 have hlt:0 < w.heap.size:=by
  rcases Nat.eq_zero_or_pos w.heap.size with h0 | h
  ·simp [World.cell?,h0] at hg
  ·exact h
 have hg2:((w.alloc (.cells #[.pointer (some t)] 154)).alloc (.cells #[.pointer (some ⟨1,154,none⟩),.pointer (some ⟨w.heap.size,0,none⟩),.int .u64 150] 195)).cell? ⟨0,0,none⟩=some (.iface 240 (.agg #[.pointer (some ⟨1,34,none⟩)])):=by
  rw [World.cell?_alloc_lt _ _ ⟨0,0,none⟩ (by simp),World.cell?_alloc_lt _ _ ⟨0,0,none⟩ hlt];exact hg
 have htl:t.block < w.heap.size:=by
  rcases Nat.lt_or_ge t.block w.heap.size with h | h
  ·exact h
  ·simp [World.cell?,Array.getElem?_eq_none h] at ht0
 have el:=xelemVP ⟨w.heap.size,0,none⟩ t (((w.alloc (.cells #[.pointer (some t)] 154)).alloc (.cells #[.pointer (some ⟨1,154,none⟩),.pointer (some ⟨w.heap.size,0,none⟩),.int .u64 150] 195)).alloc (.cells #[.pointer (some ⟨1,154,none⟩),.pointer (some ⟨w.heap.size,0,none⟩),.int .u64 150] 195)) (by rw [World.cell?_alloc_lt _ _ ⟨w.heap.size,0,none⟩ (by simp;omega)];simp)
 have st:=xsetE t ⟨w.heap.size+1+1+1,0,none⟩ c old ((((w.alloc (.cells #[.pointer (some t)] 154)).alloc (.cells #[.pointer (some ⟨1,154,none⟩),.pointer (some ⟨w.heap.size,0,none⟩),.int .u64 150] 195)).alloc (.cells #[.pointer (some ⟨1,154,none⟩),.pointer (some ⟨w.heap.size,0,none⟩),.int .u64 150] 195)).alloc (.cells #[.int .i64 c] 46))
  (by rw [World.cell?_alloc_at _ _ _ _ (by simp)];rfl)
  (by rw [World.cell?_alloc_lt _ _ t (by simp;omega),World.cell?_alloc_lt _ _ t (by simp;omega),World.cell?_alloc_lt _ _ t (by simp;omega),World.cell?_alloc_lt _ _ t htl];exact ht0)
  (by rw [World.frozen?_alloc_old _ _ t (by simp;omega),World.frozen?_alloc_old _ _ t (by simp;omega),World.frozen?_alloc_old _ _ t (by simp;omega),World.frozen?_alloc_old _ _ t (Nat.ne_of_lt htl)];exact hf0)
 go_enter Tryz.func73,Tryz.ntmps73
 go_wp2
 refine wp_loop_rounds 1 ?_
 rw [rounds_succ]
 go_wp2
 go_ret
 exact ⟨rfl,rfl⟩
theorem number_nil (w:World):Calls Tryz.prog 36 #[.nilIface] w fun e w'=>e=.returned (.int .i64 0)/\Below w.heap.size w w':=by
 go_enter Tryz.func36,Tryz.ntmps36
 go_wp2_with (go_at_call 73;refine (as_nil _ _).mono ?_;rintro e w' ⟨rfl,rfl⟩)
 go_ret
 exact ⟨rfl,below_alloc (Below.refl _ _) _⟩
theorem number_some (c:Int)(w:World)(hg:GH w):Calls Tryz.prog 36 #[.iface 46 (.int .i64 c)] w fun e w'=>e=.returned (.int .i64 c)/\Below w.heap.size w w':=by
 have hg1:GH (w.alloc (.cells #[.int .i64 0] 46)):=hg.step (below_alloc (Below.refl _ _) _)
 have hb:Below w.heap.size w (asWorld (w.alloc (.cells #[.int .i64 0] 46)) ⟨w.heap.size,0,none⟩ c):=by
  unfold asWorld
  refine below_set ?_ (Nat.le_refl _)
  exact below_alloc (below_alloc (below_alloc (below_alloc (below_alloc (Below.refl _ _) _) _) _) _) _
 have hc:(asWorld (w.alloc (.cells #[.int .i64 0] 46)) ⟨w.heap.size,0,none⟩ c).cell? ⟨w.heap.size,0,none⟩=some (.int .i64 c):=by
  unfold asWorld
  exact World.cell?_setCell_same _ _ _ (u:=.int .i64 0) (by
   rw [World.cell?_alloc_lt _ _ _ (by simp;omega),World.cell?_alloc_lt _ _ _ (by simp;omega),World.cell?_alloc_lt _ _ _ (by simp;omega),World.cell?_alloc_lt _ _ _ (by simp),World.cell?_alloc_at _ _ _ _ (by simp)];rfl)
 go_enter Tryz.func36,Tryz.ntmps36
 go_wp2_with (go_at_call 73;refine (as_hit c ⟨w.heap.size,0,none⟩ (.int .i64 0) _ hg1 (by simp) (by simp)).mono ?_;rintro e w' ⟨rfl,rfl⟩)
 go_ret
 exact ⟨rfl,hb⟩
end Go.Proofs.YtbbnmhmfdbcmhaaGreatDoorW.As
namespace Go.Proofs.YtbbnmhmfdbcmhaaGreatDoorW.Laid
open Go.ChangeShapes Go.WideShapes Go.RowKit Go.Proofs.YtbbnmhmfdbcmhaaGreatDoor Go.Proofs.YtbbnmhmfdbcmhaaGreatDoorW
theorem et0 : Tryz.prog.globalNamed "errors.errorType" = some 0 := by kernel_rfl
theorem rt0 : (Tryz.prog.cutTypes.find? (·.1 == "internal/reflectlite.rtype")).map (·.2) = some 240 := by kernel_rfl
theorem oneRow:((List.range 337).filter fun t=>Tryz.prog.rowNamed t [101,114,114,111,114])=[34]:=by kernel_rfl
theorem size:Tryz.prog.types.size=337:=by kernel_rfl
theorem handle_of_laid {W : World} (h : laidMetH Tryz.prog [("errors.errorType", Rows.laid_errors_errorType)] W) : As.GH W := by
 have h' : laidMet Tryz.prog [] W /\ handlesMet Tryz.prog [("errors.errorType", Rows.laid_errors_errorType)] W := h
 obtain ⟨name,u,ty,e1,e2,e3,e4,e5⟩:=h'.2 _ (List.mem_singleton.2 rfl)
 have en:name=[101,114,114,111,114]:=(Option.some.inj e1).symm
 subst en
 obtain rfl:=Option.some.inj (rt0.symm.trans e2)
 have hm:ty ∈ (List.range 337).filter fun t=>Tryz.prog.rowNamed t [101,114,114,111,114]:=List.mem_filter.2 ⟨List.mem_range.2 (by rw [<- size];exact e3),e4⟩
 rw [oneRow] at hm
 obtain rfl:=List.mem_singleton.1 hm
 have hh:typeHandle Tryz.prog 34=.pointer (some ⟨1,34,none⟩):=by kernel_rfl
 rw [hh] at e5
 unfold As.GH
 simpa using World.var?_cell et0 e5 0
noncomputable def laidWorld (os:Os):World :=
 let w0:=World.holding Tryz.prog os ⟨#[],#[],[]⟩
 { w0 with heap:=w0.heap.modify 0 fun
   | .cells _ t frozen=>.cells #[.iface 240 (.agg #[.pointer (some ⟨1,34,none⟩)])] t frozen
   | o=>o }
theorem laidWorld_met (os : Os) (args : Array Value) : laidMetH Tryz.prog [("errors.errorType", Rows.laid_errors_errorType)] ((laidWorld os).forCall (fun _ _ => 0) ⟨#[], args, []⟩).memory :=
 laidMetH_of_parts (laidMet_nil _ _) (by kernel_rfl)
end Go.Proofs.YtbbnmhmfdbcmhaaGreatDoorW.Laid
