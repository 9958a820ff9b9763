/- Definitions and lemmas for the law TopBank: what the program's functions come to. Conditions: as each lemma says. -/
import Derived.Test.YtbbnmhmfdbcmhaaGreatDoorG3
import Derived.Test.YtbbnmhmfdbcmhaaGreatDoorProg
import Derived.WalkKit
import Derived.Test.YtbbnmhmfdbcmhaaGreatDoorG2
import Derived.ProofKit
import Derived.StillTailTactics
import Derived.WalkSmall
import Derived.BigRegion
import Derived.BigQuiet
import Derived.Deep.AppendLies
import Derived.Deep.RegionLaw
import Derived.Laws.IdiomRangeMap
import Derived.Maps.RangeRun
set_option linter.all false
set_option linter.unusedVariables false
set_option linter.unusedSimpArgs false
set_option linter.deprecated false
namespace Go.Eng.Top
open Go.RowKit Go.Eng Go.Eng.LVar Go.Eng.LCrc Go.Eng.LFrm
set_option maxRecDepth 100000
theorem shr8 {n:Int} (h:0<=n)(d:Int)(hd:0 < d):Int.fdiv n d=n / d:=Int.fdiv_eq_ediv_of_nonneg _ (by omega)
theorem make_ev (x:List Int)(hl:x.length<=140737488351232):Ev1 (fun k=>CF k g_frame_Make n_frame_Make [inj BB x]) (if 16384 < x.length then ([],false) else (fr x,true)):=by
 refine Ev1.step (fun k=>f_frame_Make k x _ rfl _ rfl) ?_
 by_cases h:16384 < x.length
 ·rw [if_pos h];exact Ev1.posD (by omega) (Ev1.now _)
 ·rw [if_neg h]
  refine Ev1.negD (by omega) (Ev1.bind (sum_ev x (by omega)) (Ev1.posD (by simp only [List.length_cons,List.length_nil];omega) (Ev1.const ?_)))
  have hs:=sumOf_lt x
  unfold fr head
  rw [shr8 (by omega) _ (by omega),shr8 (by omega) _ (by omega),shr8 (by omega) _ (by omega),shr8 (by omega) _ (by omega),w8_mod,w8_mod,w8_mod,w8_mod,w8_mod,w8_mod]
theorem flag_ev (b:Bool):Ev1 (fun k=>CF k g_codec_flag n_codec_flag [inj .bool b]) (if b=true then 1 else 0):=by
 refine Ev1.step (fun k=>f_codec_flag k b) ?_
 cases b with
 | true=>exact Ev1.pos rfl (Ev1.now _)
 | false=>exact Ev1.neg rfl (Ev1.now _)
def rqL (r:TRequest):List Int:=[r.1,r.2.1,r.2.2.1,r.2.2.2.1,r.2.2.2.2.1,r.2.2.2.2.2.1,r.2.2.2.2.2.2]
theorem rbytes_ev (r:TRequest)(h:I64 (rqL r)):Ev1 (fun k=>CF k g_request_Bytes n_request_Bytes [inj KRequest r]) (encs (rqL r)) :=
 Ev1.step (fun k=>f_request_Bytes k r) (Ev1.bind (Ev1.step (fun k=>f_request_numbers k r) (Ev1.now _)) (Ev1.bind (all_ev (rqL r) h (by simp [rqL])) (Ev1.now _)))
theorem rreply_ev (r:TReply)(h:I64 [r.1,r.2]):Ev1 (fun k=>CF k g_request_Reply n_request_Reply [inj KReply r]) (encs [r.1,r.2]) :=
 Ev1.step (fun k=>f_request_Reply k r) (Ev1.bind (all_ev [r.1,r.2] h (by simp)) (Ev1.now _))
def evL (e:TEvent):List Int:=e.1::(if e.1=0 then rqL e.2.1 else if e.1=1 then [e.2.2.1,if e.2.2.2=true then 1 else 0] else [])
theorem i64_cons {n:Int} {l:List Int}:I64 (n::l) ↔ (-9223372036854775808<=n/\n<=9223372036854775807)/\I64 l:=by simp [I64]
theorem event_ev (e:TEvent)(h:I64 (evL e)):Ev1 (fun k=>CF k g_codec_Event n_codec_Event [inj KEvent e]) (encs (evL e)):=by
 unfold evL at h
 obtain ⟨h0,h1⟩:=i64_cons.1 h
 refine Ev1.step (fun k=>f_codec_Event k e) (Ev1.bind (all_ev [e.1] (by simpa [I64] using h0) (by simp)) ?_)
 have hl:=encs_len (ns:=[e.1]) (by simpa [I64] using h0)
 unfold evL
 by_cases c0:e.1=0
 ·rw [if_pos c0] at h1 ⊢
  have hl2:=encs_len h1
  refine Ev1.posD c0 (Ev1.bind (rbytes_ev e.2.1 h1) (Ev1.posD (by simp only [rqL,List.length_cons,List.length_nil] at hl hl2 ⊢;omega) (Ev1.const ?_)))
  rw [<- encs_app];rfl
 ·rw [if_neg c0] at h1 ⊢
  refine Ev1.negD c0 ?_
  by_cases c1:e.1=1
  ·rw [if_pos c1] at h1 ⊢
   have hl2:=encs_len h1
   refine Ev1.posD c1 (Ev1.bind (flag_ev e.2.2.2) (Ev1.bind (all_ev [e.2.2.1,if e.2.2.2=true then 1 else 0] h1 (by simp)) (Ev1.posD (by simp only [List.length_cons,List.length_nil] at hl hl2 ⊢;omega) (Ev1.const ?_))))
   rw [<- encs_app];rfl
  ·rw [if_neg c1]
   exact Ev1.negD c1 (Ev1.now _)
theorem event_len (e:TEvent)(h:I64 (evL e)):(encs (evL e)).length<=80:=by
 have:=encs_len h
 have h2:(evL e).length<=8:=by unfold evL rqL;split<;>(try split)<;>simp
 omega
end Go.Eng.Top
namespace Go.Eng.Top
open Go.RowKit Go.Eng Go.Eng.LVar Go.Eng.LCrc Go.Eng.LFrm
set_option maxRecDepth 100000
def acL (a:TAccount):List Int:=[a.1,a.2.1,a.2.2]
def payL (p:TPayment):List Int:=[p.1,p.2.1,p.2.2.1,p.2.2.2.1,p.2.2.2.2.1,p.2.2.2.2.2.1,p.2.2.2.2.2.2.1,p.2.2.2.2.2.2.2]
def sagL (g:TSaga):List Int:=rqL g.1++[g.2.1,g.2.2.1,g.2.2.2.1,g.2.2.2.2]
def knL (k:TKnown):List Int:=rqL k.1++([k.2.1.1,k.2.1.2]++[if k.2.2=true then 1 else 0])
def t3 (ks:List TKnown):List Int:=(ks.length:Int)::ks.flatMap knL
def t2 (gs:List TSaga)(ks:List TKnown):List Int:=(gs.length:Int)::(gs.flatMap sagL++t3 ks)
def t1 (ps:List TPayment)(gs:List TSaga)(ks:List TKnown):List Int:=(ps.length:Int)::(ps.flatMap payL++t2 gs ks)
def stL (s:TState):List Int:=s.2.2.2.2::(s.1.length:Int)::(s.1.flatMap acL++t1 s.2.1 s.2.2.1 s.2.2.2.1)
theorem i64_app {a b:List Int}:I64 (a++b) ↔ I64 a/\I64 b:=by
 simp only [I64,List.mem_append]
 exact ⟨fun h=>⟨fun x hx=>h x (.inl hx),fun x hx=>h x (.inr hx)⟩,fun h x hx=>hx.elim (h.1 x) (h.2 x)⟩
theorem i64_drop {α:Type} (f:α->List Int) {l:List α} (h:I64 (l.flatMap f)) {i:Nat} (hi:i < l.length):I64 (f l[i]):=fun x hx=>h x (List.mem_flatMap.2 ⟨_,List.getElem_mem hi,hx⟩)
theorem fm_drop {α:Type} (f:α->List Int)(l:List α) {i:Nat} (hi:i < l.length):(l.drop i).flatMap f=f l[i]++(l.drop (i+1)).flatMap f:=by
 rw [List.drop_eq_getElem_cons hi,List.flatMap_cons]
theorem encs_one (n:Int):encs [n]=enc (zig n):=by simp [encs]
theorem vput {x:List Int} {n:Int} (hn:-9223372036854775808<=n/\n<=9223372036854775807)(hx:x.length+20<=211106232532992):Ev1 (fun k=>CF k g_v_Put n_v_Put [.val false [.mv (.int .u8) x],inj (.int .i64) n]) (x++encs [n]):=by
 rw [encs_one];exact vput_ev x n hn hx
theorem gK (l:List TKnown)(i:Nat)(h:i < l.length):l.getD (Int.toNat (i:Int)) ((0,0,0,0,0,0,0),(0,0),false)=l[i]:=by rw [Int.toNat_natCast];exact getD_at l i _ h
theorem gG (l:List TSaga)(i:Nat)(h:i < l.length):l.getD (Int.toNat (i:Int)) ((0,0,0,0,0,0,0),0,0,0,0)=l[i]:=by rw [Int.toNat_natCast];exact getD_at l i _ h
theorem gP (l:List TPayment)(i:Nat)(h:i < l.length):l.getD (Int.toNat (i:Int)) (0,0,0,0,0,0,0,0)=l[i]:=by rw [Int.toNat_natCast];exact getD_at l i _ h
theorem gA (l:List TAccount)(i:Nat)(h:i < l.length):l.getD (Int.toNat (i:Int)) (0,0,0)=l[i]:=by rw [Int.toNat_natCast];exact getD_at l i _ h
theorem st3_l (ks : List TKnown) (h : I64 (ks.flatMap knL)) (hl : ks.length ≤ 1000) : ∀ (d i : Nat) (x : List Int), i + d = ks.length → x.length + 100 * d ≤ 1000000 → Ev2 (fun k m => h_cS_3 k m ks (ks.length : Int) (i : Int) x) (x ++ encs ((ks.drop i).flatMap knL))
  | 0, i, x, hi, hx => by
    refine Ev2.step (fun k m => h_cS_3_s k m ks (ks.length : Int) (i : Int) x _ rfl) (Ev2.negD (by omega) (Ev2.const ?_))
    rw [List.drop_of_length_le (by omega)]; simp [encs]
  | d + 1, i, x, hi, hx => by
    have hlt : i < ks.length := by omega
    have hk := i64_drop knL h hlt
    unfold knL at hk
    obtain ⟨h1, h2⟩ := i64_app.1 hk
    obtain ⟨h3, h4⟩ := i64_app.1 h2
    have l1 := encs_len h1
    have l2 := encs_len h3
    have l4 := encs_len h4
    simp only [rqL, List.length_cons, List.length_nil] at l1 l2 l4
    refine Ev2.step (fun k m => h_cS_3_s k m ks (ks.length : Int) (i : Int) x ks[i] (gK ks i hlt).symm) (Ev2.posD (by omega) (Ev2.pos (inb_true (by omega) (by omega)) (Ev2.bind (rbytes_ev ks[i].1 h1) (Ev2.posD (by simp only [rqL]; omega)
      (Ev2.bind (rreply_ev ks[i].2.1 h3) (Ev2.posD (by simp only [rqL, List.length_append]; omega) (Ev2.bind (flag_ev ks[i].2.2) (Ev2.bind (vput (by simpa [I64] using h4) (by simp only [rqL, List.length_append]; omega)) ?_))))))))
    rw [wnat (by omega)]
    have := st3_l ks h hl d (i + 1) (((x ++ encs (rqL ks[i].1)) ++ encs [ks[i].2.1.1, ks[i].2.1.2]) ++ encs [if ks[i].2.2 = true then 1 else 0]) (by omega) (by simp only [rqL, List.length_append]; omega)
    rw [fm_drop knL ks hlt, encs_app, show knL ks[i] = rqL ks[i].1 ++ ([ks[i].2.1.1, ks[i].2.1.2] ++ [if ks[i].2.2 = true then 1 else 0]) from rfl, encs_app, encs_app]
    simpa only [List.append_assoc] using this
theorem st2_l (ac : List TAccount) (ps : List TPayment) (gs : List TSaga) (ks : List TKnown) (now : Int) (h : I64 (gs.flatMap sagL)) (hl : gs.length ≤ 1000) (h3 : I64 (ks.flatMap knL)) (hl3 : ks.length ≤ 1000) : ∀ (d i : Nat) (x : List Int), i + d = gs.length → x.length + 110 * d + 110000 ≤ 1000000 →
    Ev2 (fun k m => h_cS_2 k m gs (gs.length : Int) (i : Int) ac ps gs ks now x) (x ++ encs ((gs.drop i).flatMap sagL ++ t3 ks))
  | 0, i, x, hi, hx => by
    have hk : -9223372036854775808 ≤ (ks.length : Int) ∧ (ks.length : Int) ≤ 9223372036854775807 := ⟨by omega, by omega⟩
    have l1 := encs_len (ns := [(ks.length : Int)]) (by simpa [I64] using hk)
    simp only [List.length_cons, List.length_nil] at l1
    have := st3_l ks h3 hl3 ks.length 0 (x ++ encs [(ks.length : Int)]) (by omega) (by simp only [List.length_append]; omega)
    refine Ev2.step (fun k m => h_cS_2_s k m gs (gs.length : Int) (i : Int) ac ps gs ks now x _ rfl _ rfl) (Ev2.negD (by omega) (Ev2.bind (vput hk (by omega)) (Ev1.drop ?_)))
    rw [List.drop_of_length_le (by omega)]
    unfold t3
    rw [show ([] : List TSaga).flatMap sagL ++ (ks.length : Int) :: ks.flatMap knL = [(ks.length : Int)] ++ ks.flatMap knL from rfl, encs_app, ← List.append_assoc]
    exact this.diag
  | d + 1, i, x, hi, hx => by
    have hlt : i < gs.length := by omega
    have hk := i64_drop sagL h hlt
    unfold sagL at hk
    obtain ⟨h1, h2⟩ := i64_app.1 hk
    have l1 := encs_len h1
    have l2 := encs_len h2
    simp only [rqL, List.length_cons, List.length_nil] at l1 l2
    refine Ev2.step (fun k m => h_cS_2_s k m gs (gs.length : Int) (i : Int) ac ps gs ks now x _ rfl gs[i] (gG gs i hlt).symm) (Ev2.posD (by omega) (Ev2.pos (inb_true (by omega) (by omega)) (Ev2.bind (rbytes_ev gs[i].1 h1) (Ev2.posD (by simp only [rqL]; omega)
      (Ev2.bind (all_ev _ h2 (by simp)) (Ev2.posD (by simp only [rqL, List.length_append]; omega) ?_))))))
    rw [wnat (by omega)]
    have := st2_l ac ps gs ks now h hl h3 hl3 d (i + 1) ((x ++ encs (rqL gs[i].1)) ++ encs [gs[i].2.1, gs[i].2.2.1, gs[i].2.2.2.1, gs[i].2.2.2.2]) (by omega) (by simp only [rqL, List.length_append]; omega)
    rw [fm_drop sagL gs hlt, show sagL gs[i] = rqL gs[i].1 ++ [gs[i].2.1, gs[i].2.2.1, gs[i].2.2.2.1, gs[i].2.2.2.2] from rfl]
    simpa only [encs_app, List.append_assoc] using this
theorem st1_l (ac:List TAccount)(ps:List TPayment)(gs:List TSaga)(ks:List TKnown)(now:Int)(h:I64 (ps.flatMap payL))(hl:ps.length<=1000)(h2:I64 (gs.flatMap sagL))(hl2:gs.length<=1000)(h3:I64 (ks.flatMap knL))(hl3:ks.length<=1000):∀ (d i:Nat)(x:List Int),i+d=ps.length->x.length+80 * d+230000<=1000000 ->
  Ev2 (fun k m=>h_cS_1 k m ps (ps.length:Int) (i:Int) ac ps gs ks now x) (x++encs ((ps.drop i).flatMap payL++t2 gs ks))
 | 0,i,x,hi,hx=>by
  have hk:-9223372036854775808<=(gs.length:Int)/\(gs.length:Int)<=9223372036854775807:=⟨by omega,by omega⟩
  have l1:=encs_len (ns:=[(gs.length:Int)]) (by simpa [I64] using hk)
  simp only [List.length_cons,List.length_nil] at l1
  have:=st2_l ac ps gs ks now h2 hl2 h3 hl3 gs.length 0 (x++encs [(gs.length:Int)]) (by omega) (by simp only [List.length_append];omega)
  refine Ev2.step (fun k m=>h_cS_1_s k m ps (ps.length:Int) (i:Int) ac ps gs ks now x _ rfl _ rfl) (Ev2.negD (by omega) (Ev2.bind (vput hk (by omega)) (Ev1.drop ?_)))
  rw [List.drop_of_length_le (by omega)]
  unfold t2
  rw [show ([]:List TPayment).flatMap payL++(gs.length:Int)::(gs.flatMap sagL++t3 ks)=[(gs.length:Int)]++(gs.flatMap sagL++t3 ks) from rfl,encs_app,<- List.append_assoc]
  exact this.diag
 | d+1,i,x,hi,hx=>by
  have hlt:i < ps.length:=by omega
  have hk:=i64_drop payL h hlt
  have l1:=encs_len hk
  simp only [payL,List.length_cons,List.length_nil] at l1
  refine Ev2.step (fun k m=>h_cS_1_s k m ps (ps.length:Int) (i:Int) ac ps gs ks now x _ rfl ps[i] (gP ps i hlt).symm) (Ev2.posD (by omega) (Ev2.pos (inb_true (by omega) (by omega)) (Ev2.bind (all_ev _ hk (by simp [payL])) (Ev2.posD (by simp only [payL];omega) ?_))))
  rw [wnat (by omega)]
  have:=st1_l ac ps gs ks now h hl h2 hl2 h3 hl3 d (i+1) (x++encs (payL ps[i])) (by omega) (by simp only [payL,List.length_append];omega)
  rw [fm_drop payL ps hlt,List.append_assoc,encs_app]
  simpa only [List.append_assoc] using this
theorem st0_l (ac:List TAccount)(ps:List TPayment)(gs:List TSaga)(ks:List TKnown)(now:Int)(h0:I64 (ac.flatMap acL))(hl0:ac.length<=1000)(h:I64 (ps.flatMap payL))(hl:ps.length<=1000)(h2:I64 (gs.flatMap sagL))(hl2:gs.length<=1000)(h3:I64 (ks.flatMap knL))(hl3:ks.length<=1000):∀ (d i:Nat)(x:List Int),i+d=ac.length->x.length+30 * d+330000<=1000000 ->
  Ev2 (fun k m=>h_cS k m ac (ac.length:Int) (i:Int) ac ps gs ks now x) (x++encs ((ac.drop i).flatMap acL++t1 ps gs ks))
 | 0,i,x,hi,hx=>by
  have hk:-9223372036854775808<=(ps.length:Int)/\(ps.length:Int)<=9223372036854775807:=⟨by omega,by omega⟩
  have l1:=encs_len (ns:=[(ps.length:Int)]) (by simpa [I64] using hk)
  simp only [List.length_cons,List.length_nil] at l1
  have:=st1_l ac ps gs ks now h hl h2 hl2 h3 hl3 ps.length 0 (x++encs [(ps.length:Int)]) (by omega) (by simp only [List.length_append];omega)
  refine Ev2.step (fun k m=>h_cS_s k m ac (ac.length:Int) (i:Int) ac ps gs ks now x _ rfl _ rfl) (Ev2.negD (by omega) (Ev2.bind (vput hk (by omega)) (Ev1.drop ?_)))
  rw [List.drop_of_length_le (by omega)]
  unfold t1
  rw [show ([]:List TAccount).flatMap acL++(ps.length:Int)::(ps.flatMap payL++t2 gs ks)=[(ps.length:Int)]++(ps.flatMap payL++t2 gs ks) from rfl,encs_app,<- List.append_assoc]
  exact this.diag
 | d+1,i,x,hi,hx=>by
  have hlt:i < ac.length:=by omega
  have hk:=i64_drop acL h0 hlt
  have l1:=encs_len hk
  simp only [acL,List.length_cons,List.length_nil] at l1
  refine Ev2.step (fun k m=>h_cS_s k m ac (ac.length:Int) (i:Int) ac ps gs ks now x _ rfl ac[i] (gA ac i hlt).symm) (Ev2.posD (by omega) (Ev2.pos (inb_true (by omega) (by omega)) (Ev2.bind (all_ev _ hk (by simp [acL])) (Ev2.posD (by simp only [acL];omega) ?_))))
  rw [wnat (by omega)]
  have:=st0_l ac ps gs ks now h0 hl0 h hl h2 hl2 h3 hl3 d (i+1) (x++encs (acL ac[i])) (by omega) (by simp only [acL,List.length_append];omega)
  rw [fm_drop acL ac hlt,List.append_assoc,encs_app]
  simpa only [List.append_assoc] using this
structure StOk (s:TState):Prop where
 now:-9223372036854775808<=s.2.2.2.2/\s.2.2.2.2<=9223372036854775807
 ac:I64 (s.1.flatMap acL)
 acl:s.1.length<=1000
 ps:I64 (s.2.1.flatMap payL)
 psl:s.2.1.length<=1000
 gs:I64 (s.2.2.1.flatMap sagL)
 gsl:s.2.2.1.length<=1000
 ks:I64 (s.2.2.2.1.flatMap knL)
 ksl:s.2.2.2.1.length<=1000
theorem state_ev (s:TState)(h:StOk s):Ev1 (fun k=>CF k g_cS n_cS [inj KState s]) (encs (stL s)):=by
 have hl:=h.acl
 have hk:I64 [s.2.2.2.2,(s.1.length:Int)]:=i64_cons.2 ⟨h.now,i64_cons.2 ⟨⟨by omega,by omega⟩,by simp [I64]⟩⟩
 have l1:=encs_len hk
 simp only [List.length_cons,List.length_nil] at l1
 have:=st0_l s.1 s.2.1 s.2.2.1 s.2.2.2.1 s.2.2.2.2 h.ac h.acl h.ps h.psl h.gs h.gsl h.ks h.ksl s.1.length 0 (encs [s.2.2.2.2,(s.1.length:Int)]) (by omega) (by omega)
 refine Ev1.step (fun k=>f_cS k s _ rfl) (Ev1.bind (all_ev _ hk (by simp)) ?_)
 unfold stL
 rw [show s.2.2.2.2::(s.1.length:Int)::(s.1.flatMap acL++t1 s.2.1 s.2.2.1 s.2.2.2.1)=[s.2.2.2.2,(s.1.length:Int)]++(s.1.flatMap acL++t1 s.2.1 s.2.2.1 s.2.2.2.1) from rfl,encs_app]
 exact this.diag
theorem stL_i64 {s:TState} (h:StOk s):I64 (stL s):=by
 have h1:=h.acl;have h2:=h.psl;have h3:=h.gsl;have h4:=h.ksl
 have e4:I64 (t3 s.2.2.2.1):=i64_cons.2 ⟨⟨by omega,by omega⟩,h.ks⟩
 have e3:I64 (t2 s.2.2.1 s.2.2.2.1):=i64_cons.2 ⟨⟨by omega,by omega⟩,i64_app.2 ⟨h.gs,e4⟩⟩
 have e2:I64 (t1 s.2.1 s.2.2.1 s.2.2.2.1):=i64_cons.2 ⟨⟨by omega,by omega⟩,i64_app.2 ⟨h.ps,e3⟩⟩
 exact i64_cons.2 ⟨h.now,i64_cons.2 ⟨⟨by omega,by omega⟩,i64_app.2 ⟨h.ac,e2⟩⟩⟩
theorem encs_inj':∀ {a b:List Int},I64 a->I64 b->encs a=encs b->a=b
 | [],[],_,_,_=>rfl
 | [],n::b,_,_,h=>by
  have:=enc_ne (zig n)
  simp [encs] at h
  exact (this h.1).elim
 | n::a,[],_,_,h=>by
  have:=enc_ne (zig n)
  simp [encs] at h
  exact (this h.1).elim
 | n::a,m::b,ha,hb,h=>by
  obtain ⟨h1,h2⟩:=i64_cons.1 ha
  obtain ⟨h3,h4⟩:=i64_cons.1 hb
  have e:enc (zig n)++encs a=enc (zig m)++encs b:=h
  obtain ⟨q1,q2⟩:=enc_prefix (zig_lt h1) (zig_lt h3) e
  have:n=m:=by rw [<- unzig_zig n,<- unzig_zig m,q1]
  rw [this,encs_inj' h2 h4 q2]
theorem fm_len {α:Type} (f:α->List Int)(n:Nat)(hf:∀ x,(f x).length=n):∀ l:List α,(l.flatMap f).length=n * l.length
 | []=>by simp
 | x::l=>by rw [List.flatMap_cons,List.length_append,hf,fm_len f n hf l,List.length_cons,Nat.mul_add];omega
theorem fm_inj {α:Type} (f:α->List Int)(hf:∀ x y (r s:List Int),f x++r=f y++s->x=y/\r=s):∀ {l m:List α} {r s:List Int},l.length=m.length->l.flatMap f++r=m.flatMap f++s->l=m/\r=s
 | [],[],_,_,_,h=>⟨rfl,h⟩
 | [],_::_,_,_,hl,_=>by simp at hl
 | _::_,[],_,_,hl,_=>by simp at hl
 | x::l,y::m,r,s,hl,h=>by
  rw [List.flatMap_cons,List.flatMap_cons,List.append_assoc,List.append_assoc] at h
  obtain ⟨h1,h2⟩:=hf x y _ _ h
  obtain ⟨h3,h4⟩:=fm_inj f hf (by simpa using hl) h2
  exact ⟨by rw [h1,h3],h4⟩
theorem rq_eq {a b:TRequest} (h1:a.1=b.1)(h2:a.2.1=b.2.1)(h3:a.2.2.1=b.2.2.1)(h4:a.2.2.2.1=b.2.2.2.1)(h5:a.2.2.2.2.1=b.2.2.2.2.1)(h6:a.2.2.2.2.2.1=b.2.2.2.2.2.1)(h7:a.2.2.2.2.2.2=b.2.2.2.2.2.2):a=b :=
 Prod.ext h1 (Prod.ext h2 (Prod.ext h3 (Prod.ext h4 (Prod.ext h5 (Prod.ext h6 h7)))))
theorem acL_inj (x y:TAccount)(r s:List Int)(h:acL x++r=acL y++s):x=y/\r=s:=by
 simp only [acL,List.cons_append,List.nil_append,List.cons.injEq] at h
 obtain ⟨h1,h2,h3,h4⟩:=h
 exact ⟨Prod.ext h1 (Prod.ext h2 h3),h4⟩
theorem payL_inj (x y:TPayment)(r s:List Int)(h:payL x++r=payL y++s):x=y/\r=s:=by
 simp only [payL,List.cons_append,List.nil_append,List.cons.injEq] at h
 obtain ⟨h1,h2,h3,h4,h5,h6,h7,h8,h9⟩:=h
 exact ⟨Prod.ext h1 (Prod.ext h2 (Prod.ext h3 (Prod.ext h4 (Prod.ext h5 (Prod.ext h6 (Prod.ext h7 h8)))))),h9⟩
theorem sagL_inj (x y:TSaga)(r s:List Int)(h:sagL x++r=sagL y++s):x=y/\r=s:=by
 simp only [sagL,rqL,List.cons_append,List.nil_append,List.cons.injEq] at h
 obtain ⟨h1,h2,h3,h4,h5,h6,h7,g1,g2,g3,g4,h8⟩:=h
 exact ⟨Prod.ext (rq_eq h1 h2 h3 h4 h5 h6 h7) (Prod.ext g1 (Prod.ext g2 (Prod.ext g3 g4))),h8⟩
theorem flag_inj {a b:Bool} (h:(if a=true then (1:Int) else 0)=(if b=true then 1 else 0)):a=b:=by
 cases a<;>cases b<;>first | rfl | (simp at h)
theorem knL_inj (x y:TKnown)(r s:List Int)(h:knL x++r=knL y++s):x=y/\r=s:=by
 simp only [knL,rqL,List.cons_append,List.nil_append,List.cons.injEq] at h
 obtain ⟨h1,h2,h3,h4,h5,h6,h7,g1,g2,g3,h8⟩:=h
 exact ⟨Prod.ext (rq_eq h1 h2 h3 h4 h5 h6 h7) (Prod.ext (Prod.ext g1 g2) (flag_inj g3)),h8⟩
theorem stL_inj {s t:TState} (h:stL s=stL t):s=t:=by
 simp only [stL,t1,t2,t3,List.cons.injEq,Int.ofNat_inj] at h
 obtain ⟨h1,h2,h3⟩:=h
 obtain ⟨a1,h4⟩:=fm_inj acL acL_inj h2 h3
 simp only [List.cons.injEq,Int.ofNat_inj] at h4
 obtain ⟨h5,h6⟩:=h4
 obtain ⟨a2,h7⟩:=fm_inj payL payL_inj h5 h6
 simp only [List.cons.injEq,Int.ofNat_inj] at h7
 obtain ⟨h8,h9⟩:=h7
 obtain ⟨a3,h10⟩:=fm_inj sagL sagL_inj h8 h9
 simp only [List.cons.injEq,Int.ofNat_inj] at h10
 obtain ⟨h11,h12⟩:=h10
 obtain ⟨a4,_⟩:=fm_inj knL knL_inj (r:=[]) (s:=[]) h11 (by simpa using h12)
 exact Prod.ext a1 (Prod.ext a2 (Prod.ext a3 (Prod.ext a4 h1)))
theorem same_st (s t:TState)(hs:StOk s)(ht:StOk t):Ev1 (fun k=>CF k ⟨[(false,.bool)],[]⟩ n_ds [inj KState s,inj KState t]) (decide (stL s=stL t)):=by
 refine Ev1.step (fun k=>f_ds k s t) (Ev1.bind (state_ev s hs) (Ev1.bind (state_ev t ht) (Ev1.const ?_)))
 congr 1
 exact decide_eq_decide.2 ⟨fun h=>encs_inj' (stL_i64 hs) (stL_i64 ht) h,fun h=>by rw [h]⟩
end Go.Eng.Top
namespace Go.Eng.Top
open Go.RowKit Go.Eng Go.Eng.LVar Go.Eng.LChart Go.Eng.LEnt
set_option maxRecDepth 100000
abbrev zP:TPayment:=(0,0,0,0,0,0,0,0)
abbrev zG:TSaga:=((0,0,0,0,0,0,0),0,0,0,0)
abbrev cli (s:TState)(n:Int):Prop:=9<=n/\n < (s.1.length:Int)
abbrev Out:Type:=TState × TReply
def takeF (s:TState)(w:List Acc × Option Int)(id:Int):Out:=match w.2 with | some c=>(s,(c,0)) | none=>((w.1,s.2),(0,id))
def openF (s:TState)(r:TRequest):Out:=if 64<=(s.1.length:Int) then (s,(7,0)) else ((s.1++[(r.2.2.1,0,0)],s.2),(0,(s.1.length:Int)))
def postO (s:TState)(f t n:Int):Out:=match (moveF s.1 f t n).2 with | some c=>(s,(c,0)) | none=>takeF s (postF s.1 (moveF s.1 f t n).1) 0
def depF (s:TState)(r:TRequest):Out:=if cli s r.2.2.1 then postO s (numV 0 (acAt s.1 r.2.2.1).1) r.2.2.1 r.2.2.2.2.1 else (s,(2,0))
def trF (s:TState)(r:TRequest):Out:=if cli s r.2.2.1/\cli s r.2.2.2.1 then postO s r.2.2.1 r.2.2.2.1 r.2.2.2.2.1 else (s,(2,0))
def authF (s:TState)(r:TRequest):Out :=
 if cli s r.2.2.1/\cli s r.2.2.2.1 then
  (if r.2.2.1=r.2.2.2.1\/r.2.2.2.2.2.2<=s.2.2.2.2 then (s,(1,0))
   else if 64<=(s.2.1.length:Int) then (s,(7,0))
   else match (holdF s.1 r.2.2.1 r.2.2.2.2.1).2 with
    | some c=>(s,(c,0))
    | none=>(((holdF s.1 r.2.2.1 r.2.2.2.2.1).1,s.2.1++[(r.2.2.1,r.2.2.2.1,r.2.2.2.2.1,0,0,0,r.2.2.2.2.2.2,0)],s.2.2),(0,(s.2.1.length:Int))))
 else (s,(2,0))
def leftF (p:TPayment):Int:=if p.2.2.2.2.2.2.2=0 then w64 (p.2.2.1 - p.2.2.2.1) else 0
def gaveF (p:TPayment):Int:=w64 (w64 (p.2.2.2.1 - p.2.2.2.2.1) - p.2.2.2.2.2.1)
def payOpF (op:Int)(p:TPayment)(n:Int):TPayment × Bool :=
 if op=4 then ((if w64 (p.2.2.2.1+n)=p.2.2.1 then (p.1,p.2.1,p.2.2.1,w64 (p.2.2.2.1+n),p.2.2.2.2.1,p.2.2.2.2.2.1,p.2.2.2.2.2.2.1,1) else (p.1,p.2.1,p.2.2.1,w64 (p.2.2.2.1+n),p.2.2.2.2)),decide (n<=leftF p))
 else if op=6 then ((p.1,p.2.1,p.2.2.1,p.2.2.2.1,w64 (p.2.2.2.2.1+n),p.2.2.2.2.2),decide (n<=gaveF p))
 else if op=7 then ((p.1,p.2.1,p.2.2.1,p.2.2.2.1,p.2.2.2.2.1,w64 (p.2.2.2.2.2.1+n),p.2.2.2.2.2.2),decide (n<=gaveF p))
 else ((p.1,p.2.1,p.2.2.1,p.2.2.2.1,p.2.2.2.2.1,p.2.2.2.2.2.1,p.2.2.2.2.2.2.1,1),decide (p.2.2.2.2.2.2.2=0))
def payDoF (op:Int)(p:TPayment)(n:Int):TPayment × Option Int :=
 if op ≠ 5/\n < 1 then (zP,some 1) else if (payOpF op p n).2=true then ((payOpF op p n).1,none) else (zP,some 6)
def pAt (s:TState)(i:Int):TPayment:=s.2.1.getD (Int.toNat i) zP
def bothF (s:TState)(op:Int)(r:TRequest):TPayment × TPayment × Option Int :=
 if r.2.2.1 < 0\/(s.2.1.length:Int)<=r.2.2.1 then (zP,zP,some 2)
 else (pAt s r.2.2.1,(payDoF op (pAt s r.2.2.1) r.2.2.2.2.1).1,(payDoF op (pAt s r.2.2.1) r.2.2.2.2.1).2)
def payF (s:TState)(i:Int)(q:TPayment)(w:List Acc × Option Int):Out:=match w.2 with | some c=>(s,(c,0)) | none=>((w.1,s.2.1.set (Int.toNat i) q,s.2.2),(0,0))
def capF (s:TState)(r:TRequest):Out :=
 match (bothF s 4 r).2.2 with
 | some c=>(s,(c,0))
 | none=>match (moveF s.1 (bothF s 4 r).1.1 (bothF s 4 r).1.2.1 r.2.2.2.2.1).2 with
  | some c=>(s,(c,0))
  | none=>payF s r.2.2.1 (bothF s 4 r).2.1 (spendF s.1 r.2.2.2.2.1 (moveF s.1 (bothF s 4 r).1.1 (bothF s 4 r).1.2.1 r.2.2.2.2.1).1)
def voidF (s:TState)(r:TRequest):Out :=
 match (bothF s 5 r).2.2 with
 | some c=>(s,(c,0))
 | none=>payF s r.2.2.1 (bothF s 5 r).2.1 (relF s.1 (bothF s 5 r).1.1 (leftF (bothF s 5 r).1))
def backF (s:TState)(p:TPayment)(n:Int):List En × Option Int:=(back (moveF s.1 p.1 p.2.1 n).1,(moveF s.1 p.1 p.2.1 n).2)
def refF (s:TState)(r:TRequest):Out :=
 match (bothF s 6 r).2.2 with
 | some c=>(s,(c,0))
 | none=>match (backF s (bothF s 6 r).1 r.2.2.2.2.1).2 with
  | some c=>(s,(c,0))
  | none=>payF s r.2.2.1 (bothF s 6 r).2.1 (postF s.1 (backF s (bothF s 6 r).1 r.2.2.2.2.1).1)
def chgE (s:TState)(p:TPayment)(es:List En):List En :=
 if 0 < w64 (w64 (0 - (es.getD 0 (0,0)).2) - w64 ((acAt s.1 p.2.1).2.1 - (acAt s.1 p.2.1).2.2)) then
  es.set 0 ((es.getD 0 (0,0)).1,w64 ((es.getD 0 (0,0)).2+w64 (w64 (0 - (es.getD 0 (0,0)).2) - w64 ((acAt s.1 p.2.1).2.1 - (acAt s.1 p.2.1).2.2)))) ++
   [(numV 2 (acAt s.1 p.2.1).1,w64 (0 - w64 (w64 (0 - (es.getD 0 (0,0)).2) - w64 ((acAt s.1 p.2.1).2.1 - (acAt s.1 p.2.1).2.2))))]
 else es
def chgF (s:TState)(r:TRequest):Out :=
 match (bothF s 7 r).2.2 with
 | some c=>(s,(c,0))
 | none=>match (backF s (bothF s 7 r).1 r.2.2.2.2.1).2 with
  | some c=>(s,(c,0))
  | none=>payF s r.2.2.1 (bothF s 7 r).2.1 (postF s.1 (chgE s (bothF s 7 r).1 (backF s (bothF s 7 r).1 r.2.2.2.2.1).1))
def opsF (s:TState)(r:TRequest):Out :=
 if r.2.1=0 then openF s r else if r.2.1=1 then depF s r else if r.2.1=2 then trF s r else if r.2.1=3 then authF s r
 else if r.2.1=4 then capF s r else if r.2.1=5 then voidF s r else if r.2.1=6 then refF s r else if r.2.1=7 then chgF s r else (s,(1,0))
abbrev Oute:Type:=TState × Option Int
def withA (s:TState)(w:List Acc × Option Int):Oute:=match w.2 with | some c=>(s,some c) | none=>((w.1,s.2),none)
def resF (s:TState)(r:TRequest):Oute :=
 if cli s r.2.2.1/\cli s r.2.2.2.1 then (match (moveF s.1 r.2.2.1 r.2.2.2.1 r.2.2.2.2.1).2 with
  | some c=>(s,some c)
  | none=>withA s (holdF s.1 r.2.2.1 r.2.2.2.2.1))
 else (s,some 2)
def setlF (s:TState)(r:TRequest):Oute:=match (moveF s.1 r.2.2.1 r.2.2.2.1 r.2.2.2.2.1).2 with
  | some c=>(s,some c)
  | none=>withA s (spendF s.1 r.2.2.2.2.1 (moveF s.1 r.2.2.1 r.2.2.2.1 r.2.2.2.2.1).1)
def undoF (s:TState)(r:TRequest):Oute:=withA s (relF s.1 r.2.2.1 r.2.2.2.2.1)
def voids:List Int->TState->TState
 | [],s=>s
 | k::l,s=>voids l (opsF s (0,5,k,0,0,0,0)).1
def dueBy (ps:List TPayment)(now:Int):List Int:=(dueAll ps).takeWhile fun k=>!decide (now < (ps.getD (Int.toNat k) zP).2.2.2.2.2.2.1)
def tickF (s:TState):TState:=if 1073741824<=s.2.2.2.2 then s else voids (dueBy s.2.1 (w64 (s.2.2.2.2+1))) (s.1,s.2.1,s.2.2.1,s.2.2.2.1,w64 (s.2.2.2.2+1))
def amtB (n:Int):Bool:=decide (1<=n/\n<=1099511627776)
def mayB (r:TRequest):Bool :=
 if r.1 < 0\/1073741824<=r.1\/r.2.2.2.2.2.1 < 0\/4 < r.2.2.2.2.2.1\/r.2.2.2.2.2.2 < 0\/1073741824 < r.2.2.2.2.2.2 then false
 else if 0 < r.2.2.2.2.2.1/\r.2.1 ≠ 2 then false
 else if r.2.1=0 then decide (0<=r.2.2.1/\r.2.2.1 < 3)
 else if r.2.1=5 then true
 else if r.2.1=1\/r.2.1=2\/r.2.1=3\/r.2.1=4\/r.2.1=6\/r.2.1=7 then amtB r.2.2.2.2.1 else false
abbrev long (r:TRequest):Prop:=0 < r.2.2.2.2.2.1/\r.2.1=2
def subF (s:TState)(r:TRequest):Out :=
 if mayB r=false then (s,(1,0))
 else if (askF s.2.2.2.1 r).2=true then (s,(askF s.2.2.2.1 r).1)
 else if long r/\16<=(s.2.2.1.length:Int) then (s,(7,0))
 else match (putF s.2.2.2.1 r).2 with
  | some c=>(s,(c,0))
  | none =>
   if long r then (match (resF s r).2 with
    | some c=>((s.1,s.2.1,s.2.2.1,(tellF (putF s.2.2.2.1 r).1 r.1 (c,0)).1,s.2.2.2.2),(c,0))
    | none=>(((resF s r).1.1,(resF s r).1.2.1,(resF s r).1.2.2.1++[(r,0,0,0,0)],(putF s.2.2.2.1 r).1,(resF s r).1.2.2.2.2),(10,0)))
   else (((opsF s r).1.1,(opsF s r).1.2.1,(opsF s r).1.2.2.1,(tellF (putF s.2.2.2.1 r).1 r.1 (opsF s r).2).1,(opsF s r).1.2.2.2.2),(opsF s r).2)
def fndG (key:Int)(gs:List TSaga):Option Nat:=fndI key (gs.map fun g=>g.1.1)
def endF (s:TState)(i:Nat)(o:TReply):Out:=((s.1,s.2.1,s.2.2.1.take i++s.2.2.1.drop (i+1),(tellF s.2.2.2.1 (s.2.2.1.getD i zG).1.1 o).1,s.2.2.2.2),o)
def legF (g:TSaga)(ok:Bool):TSaga :=
 if g.2.1=0/\¬ (g.1.2.2.2.2.2.1<=g.2.2.1) then
  (if ok=true then (g.1,g.2.1,w64 (g.2.2.1+1),0,g.2.2.2.2)
   else if 3 < w64 (g.2.2.2.1+1) then (g.1,1,g.2.2.1,w64 (g.2.2.2.1+1),9) else (g.1,g.2.1,g.2.2.1,w64 (g.2.2.2.1+1),g.2.2.2.2))
 else g
def turnF (g:TSaga)(c:Int):TSaga:=if g.2.1=0 then (g.1,1,g.2.2.1,g.2.2.2.1,c) else g
def putG (s:TState)(i:Nat)(g:TSaga):Out:=((s.1,s.2.1,s.2.2.1.set i g,s.2.2.2),(10,0))
def stepF (s:TState)(key:Int)(ok:Bool):Out :=
 match fndG key s.2.2.1 with
 | none=>(s,(2,0))
 | some i =>
  if (s.2.2.1.getD i zG).2.1=1 then endF (undoF s (s.2.2.1.getD i zG).1).1 i ((s.2.2.1.getD i zG).2.2.2.2,0)
  else if (s.2.2.1.getD i zG).2.1=0/\(s.2.2.1.getD i zG).1.2.2.2.2.2.1<=(s.2.2.1.getD i zG).2.2.1 then
   (match (setlF s (s.2.2.1.getD i zG).1).2 with
    | none=>endF (setlF s (s.2.2.1.getD i zG).1).1 i (0,0)
    | some c=>putG s i (turnF (s.2.2.1.getD i zG) c))
  else putG s i (legF (s.2.2.1.getD i zG) ok)
def doF (s:TState)(e:TEvent):Out :=
 if e.1=0 then subF s e.2.1 else if e.1=1 then stepF s e.2.2.1 e.2.2.2 else if e.1=2 then (tickF s,(0,0)) else (s,(1,0))
def code (e:Option Int):Prop:=∀ c,e=some c->0<=c/\c<=13
theorem code_none:code none:=fun c h=>by cases h
theorem code_lit {n:Int} (h:0<=n/\n<=13):code (some n):=fun c e=>by cases e;exact h
theorem code_move (ac:List Acc)(f t n:Int):code (moveF ac f t n).2:=by
 unfold moveF
 split
 ·split
  ·exact code_lit (by omega)
  ·split
   ·exact code_none
   ·split
    ·exact code_lit (by omega)
    ·split
     ·exact code_lit (by omega)
     ·exact code_none
 ·exact code_lit (by omega)
theorem code_hold (ac:List Acc)(n a:Int):code (holdF ac n a).2:=by
 unfold holdF
 split
 ·split
  ·split
   ·exact code_lit (by omega)
   ·exact code_none
  ·exact code_lit (by omega)
 ·exact code_lit (by omega)
theorem code_rel (ac:List Acc)(n a:Int):code (relF ac n a).2:=by
 unfold relF
 split
 ·split
  ·split
   ·exact code_lit (by omega)
   ·exact code_none
  ·exact code_lit (by omega)
 ·exact code_lit (by omega)
theorem code_post (ac:List Acc)(es:List En):code (postF ac es).2:=by
 rw [postF_def]
 cases balF ac es (0,0,0) with
 | false=>exact code_lit (by omega)
 | true =>
  show code (finP (runF ac es)).2
  cases runF ac es with
  | none=>exact code_lit (by omega)
  | some o =>
   unfold finP
   dsimp only
   cases freeB (o.drop 9) with
   | true=>exact code_none
   | false=>exact code_lit (by omega)
theorem code_spend (ac:List Acc)(a:Int)(es:List En):code (spendF ac a es).2:=by
 unfold spendF
 cases es with
 | nil=>exact code_lit (by omega)
 | cons e r =>
  dsimp only
  have hc:=code_rel ac e.1 a
  generalize relF ac e.1 a=w at hc
  obtain ⟨o,g⟩:=w
  cases g with
  | none=>exact code_post o (e::r)
  | some c=>exact hc
theorem spendF_rt {ac:List Acc} (h:Rt ac) {a:Int} {es:List En} (hn:(spendF ac a es).2=none):Rt (spendF ac a es).1/\(spendF ac a es).1.length=ac.length:=by
 unfold spendF at hn ⊢
 cases es with
 | nil=>cases hn
 | cons e r =>
  dsimp only at hn ⊢
  have hr:=relF_rt h (n:=e.1) (a:=a)
  generalize relF ac e.1 a=w at hr hn
  obtain ⟨o,g⟩:=w
  cases g with
  | some c=>cases hn
  | none =>
   have h1:=hr rfl
   have h2:=postF_rt h1.1 hn
   exact ⟨h2.2.2.1,h2.2.2.2.trans h1.2⟩
structure PayOk (n:Nat)(p:TPayment):Prop where
 from_:9<=p.1/\p.1 < (n:Int)
 to_:9<=p.2.1/\p.2.1 < (n:Int)
 i64:I64 (payL p)
structure Op (s t:TState):Prop where
 rest:t.2.2=s.2.2
 rt:Rt t.1
 pl:t.2.1.length<=64
 ps:∀ p ∈ t.2.1,PayOk t.1.length p
 ac:s.1.length<=t.1.length
def okO (o:TReply):Prop:=(0<=o.1/\o.1<=13)/\(0<=o.2/\o.2<=64)
theorem okO_id {n:Int} (h:0<=n/\n<=64):okO (0,n):=⟨⟨Int.le_refl _,by show (0:Int)<=13;omega⟩,h⟩
theorem PayOk.mono {n m:Nat} {p:TPayment} (h:PayOk n p)(hm:n<=m):PayOk m p:=⟨⟨h.from_.1,by have:=h.from_.2;omega⟩,⟨h.to_.1,by have:=h.to_.2;omega⟩,h.i64⟩
theorem op_code {s:TState} (h:Op s s) {e:Option Int} (hc:code e) {c:Int} (he:e=some c):Op s s/\okO (c,0):=⟨h,hc c he,by omega,by omega⟩
theorem op_lit {s:TState} (h:Op s s) {c:Int} (hc:0<=c/\c<=13):Op s s/\okO (c,0):=⟨h,hc,by omega,by omega⟩
theorem op_acc {s:TState} (h:Op s s) {ac:List Acc} (hr:Rt ac)(hl:s.1.length<=ac.length):Op s (ac,s.2) :=
 ⟨rfl,hr,h.pl,fun p hp=>(h.ps p hp).mono hl,hl⟩
theorem take_op {s:TState} (h:Op s s) {w:List Acc × Option Int} (hw:w.2=none->Rt w.1/\w.1.length=s.1.length)(hc:code w.2) {id:Int} (hid:0<=id/\id<=64):Op s (takeF s w id).1/\okO (takeF s w id).2:=by
 unfold takeF
 obtain ⟨ac,e⟩:=w
 cases e with
 | some c=>exact op_code h hc rfl
 | none=>exact ⟨op_acc h (hw rfl).1 (by rw [(hw rfl).2];exact Nat.le_refl _),okO_id hid⟩
theorem rt_open {ac:List Acc} (h:Rt ac)(hl:ac.length < 64) {c:Int} (hc:0<=c/\c<=2):Rt (ac++[(c,0,0)]):=by
 have lo:=h.lo
 refine ⟨by rw [List.length_append];omega,by rw [List.length_append];simp;omega,fun k hk=>?_,fun d=>?_⟩
 ·rw [List.getElem_append]
  split
  ·rename_i h1;exact h.ok k h1
  ·rename_i h1
   simp only [List.getElem_singleton]
   refine ⟨hc.1,hc.2,by simp,by simp,fun h9=>by omega,fun _=>by simp⟩
 ·rw [sums_append,h.sum d];simp [sums,cur]
theorem open_op {s:TState} (h:Op s s)(r:TRequest)(hr:0<=r.2.2.1/\r.2.2.1<=2):Op s (openF s r).1/\okO (openF s r).2:=by
 unfold openF
 split
 ·exact op_lit h (by omega)
 ·rename_i h1
  exact ⟨op_acc h (rt_open h.rt (by omega) hr) (by rw [List.length_append];omega),okO_id (by omega)⟩
theorem post_op {s:TState} (h:Op s s)(f t n:Int):Op s (postO s f t n).1/\okO (postO s f t n).2:=by
 unfold postO
 have hc:=code_move s.1 f t n
 cases hm:(moveF s.1 f t n).2 with
 | some c=>exact op_code h hc hm
 | none=>exact take_op h (fun hn=>(postF_rt h.rt hn).2.2) (code_post _ _) ⟨by omega,by omega⟩
theorem dep_op {s:TState} (h:Op s s)(r:TRequest):Op s (depF s r).1/\okO (depF s r).2:=by
 unfold depF;split
 ·exact post_op h _ _ _
 ·exact op_lit h (by omega)
theorem tr_op {s:TState} (h:Op s s)(r:TRequest):Op s (trF s r).1/\okO (trF s r).2:=by
 unfold trF;split
 ·exact post_op h _ _ _
 ·exact op_lit h (by omega)
theorem auth_op {s:TState} (h:Op s s)(r:TRequest)(hr:I64 (rqL r)):Op s (authF s r).1/\okO (authF s r).2:=by
 unfold authF
 split
 ·rename_i h1
  split
  ·exact op_lit h (by omega)
  ·split
   ·exact op_lit h (by omega)
   ·rename_i h3
    have hc:=code_hold s.1 r.2.2.1 r.2.2.2.2.1
    have hrt:=holdF_rt h.rt (n:=r.2.2.1) (a:=r.2.2.2.2.1)
    cases hh:(holdF s.1 r.2.2.1 r.2.2.2.2.1).2 with
    | some c=>exact op_code h hc hh
    | none =>
     obtain ⟨q1,q2⟩:=hrt hh
     refine ⟨⟨rfl,q1,?_,fun p hp=>?_,by dsimp only;rw [q2];exact Nat.le_refl _⟩,okO_id (by omega)⟩
     ·dsimp only;rw [List.length_append];simp only [List.length_cons,List.length_nil];omega
     ·dsimp only at hp ⊢
      rw [q2]
      rcases List.mem_append.1 hp with hp | hp
      ·exact h.ps p hp
      ·rw [List.mem_singleton] at hp
       subst hp
       refine ⟨h1.1,h1.2,?_⟩
       simp only [rqL,I64,List.mem_cons,List.not_mem_nil,or_false,forall_eq_or_imp,forall_eq] at hr
       simp only [payL,I64,List.mem_cons,List.not_mem_nil,or_false,forall_eq_or_imp,forall_eq]
       omega
 ·exact op_lit h (by omega)
theorem w64_rng (n:Int):-9223372036854775808<=w64 n/\w64 n<=9223372036854775807:=by
 obtain ⟨q,_,h1,h2⟩:=w64_spec n
 omega
theorem payOp_ok {n:Nat} {p:TPayment} (h:PayOk n p)(op a:Int):PayOk n (payOpF op p a).1:=by
 have h1:=w64_rng (p.2.2.2.1+a)
 have h2:=w64_rng (p.2.2.2.2.1+a)
 have h3:=w64_rng (p.2.2.2.2.2.1+a)
 have hi:=h.i64
 simp only [payL,I64,List.mem_cons,List.not_mem_nil,or_false,forall_eq_or_imp,forall_eq] at hi
 unfold payOpF
 split
 ·dsimp only
  split
  ·refine ⟨h.from_,h.to_,?_⟩
   simp only [payL,I64,List.mem_cons,List.not_mem_nil,or_false,forall_eq_or_imp,forall_eq];omega
  ·refine ⟨h.from_,h.to_,?_⟩
   simp only [payL,I64,List.mem_cons,List.not_mem_nil,or_false,forall_eq_or_imp,forall_eq];omega
 ·split
  ·refine ⟨h.from_,h.to_,?_⟩
   simp only [payL,I64,List.mem_cons,List.not_mem_nil,or_false,forall_eq_or_imp,forall_eq];omega
  ·split
   ·refine ⟨h.from_,h.to_,?_⟩
    simp only [payL,I64,List.mem_cons,List.not_mem_nil,or_false,forall_eq_or_imp,forall_eq];omega
   ·refine ⟨h.from_,h.to_,?_⟩
    simp only [payL,I64,List.mem_cons,List.not_mem_nil,or_false,forall_eq_or_imp,forall_eq];omega
theorem code_payDo (op:Int)(p:TPayment)(n:Int):code (payDoF op p n).2:=by
 unfold payDoF
 split
 ·exact code_lit (by omega)
 ·split
  ·exact code_none
  ·exact code_lit (by omega)
theorem pAt_mem {s:TState} {i:Int} (h:¬ (i < 0\/(s.2.1.length:Int)<=i)):pAt s i ∈ s.2.1:=by
 obtain ⟨n,rfl⟩:=Int.eq_ofNat_of_zero_le (show 0<=i by omega)
 unfold pAt
 rw [Int.toNat_natCast,getD_at s.2.1 n _ (by omega)]
 exact List.getElem_mem _
theorem both_ok {s:TState} (h:Op s s)(op:Int)(r:TRequest):code (bothF s op r).2.2/\((bothF s op r).2.2=none->PayOk s.1.length (bothF s op r).1/\PayOk s.1.length (bothF s op r).2.1):=by
 unfold bothF
 split
 ·exact ⟨code_lit (by omega),fun hn=>by cases hn⟩
 ·rename_i h1
  refine ⟨code_payDo _ _ _,fun hn=>?_⟩
  have hp:=h.ps _ (pAt_mem h1)
  refine ⟨hp,?_⟩
  dsimp only at hn ⊢
  unfold payDoF at hn ⊢
  split at hn
  ·cases hn
  ·rename_i h2
   split at hn
   ·rename_i h3
    rw [if_neg h2,if_pos h3]
    exact payOp_ok hp _ _
   ·cases hn
theorem pay_op {s:TState} (h:Op s s)(i:Int) {q:TPayment} (hq:PayOk s.1.length q) {w:List Acc × Option Int} (hw:w.2=none->Rt w.1/\w.1.length=s.1.length)(hc:code w.2):Op s (payF s i q w).1/\okO (payF s i q w).2:=by
 unfold payF
 obtain ⟨ac,e⟩:=w
 cases e with
 | some c=>exact op_code h hc rfl
 | none =>
  obtain ⟨q1,q2⟩:=hw rfl
  dsimp only at q1 q2 ⊢
  refine ⟨⟨rfl,q1,by dsimp only;rw [List.length_set];exact h.pl,fun p hp=>?_,by dsimp only;rw [q2];exact Nat.le_refl _⟩,okO_id (by omega)⟩
  dsimp only at hp ⊢
  rw [q2]
  rcases List.mem_or_eq_of_mem_set hp with hp | hp
  ·exact h.ps p hp
  ·rw [hp];exact hq
theorem cap_op {s:TState} (h:Op s s)(r:TRequest):Op s (capF s r).1/\okO (capF s r).2:=by
 unfold capF
 obtain ⟨hc,hb⟩:=both_ok h 4 r
 cases hn:(bothF s 4 r).2.2 with
 | some c=>exact op_code h hc hn
 | none =>
  have hm:=code_move s.1 (bothF s 4 r).1.1 (bothF s 4 r).1.2.1 r.2.2.2.2.1
  dsimp only
  split
  ·rename_i c he;exact op_code h hm he
  ·exact pay_op h _ (hb hn).2 (fun hn=>spendF_rt h.rt hn) (code_spend _ _ _)
theorem void_op {s:TState} (h:Op s s)(r:TRequest):Op s (voidF s r).1/\okO (voidF s r).2:=by
 unfold voidF
 obtain ⟨hc,hb⟩:=both_ok h 5 r
 cases hn:(bothF s 5 r).2.2 with
 | some c=>exact op_code h hc hn
 | none=>exact pay_op h _ (hb hn).2 (fun hn=>relF_rt h.rt hn) (code_rel _ _ _)
theorem ref_op {s:TState} (h:Op s s)(r:TRequest):Op s (refF s r).1/\okO (refF s r).2:=by
 unfold refF
 obtain ⟨hc,hb⟩:=both_ok h 6 r
 cases hn:(bothF s 6 r).2.2 with
 | some c=>exact op_code h hc hn
 | none =>
  have hm:=code_move s.1 (bothF s 6 r).1.1 (bothF s 6 r).1.2.1 r.2.2.2.2.1
  dsimp only
  split
  ·rename_i c he;exact op_code h hm he
  ·exact pay_op h _ (hb hn).2 (fun hn=>(postF_rt h.rt hn).2.2) (code_post _ _)
theorem chg_op {s:TState} (h:Op s s)(r:TRequest):Op s (chgF s r).1/\okO (chgF s r).2:=by
 unfold chgF
 obtain ⟨hc,hb⟩:=both_ok h 7 r
 cases hn:(bothF s 7 r).2.2 with
 | some c=>exact op_code h hc hn
 | none =>
  have hm:=code_move s.1 (bothF s 7 r).1.1 (bothF s 7 r).1.2.1 r.2.2.2.2.1
  dsimp only
  split
  ·rename_i c he;exact op_code h hm he
  ·exact pay_op h _ (hb hn).2 (fun hn=>(postF_rt h.rt hn).2.2) (code_post _ _)
theorem ops_op {s:TState} (h:Op s s)(r:TRequest)(hi:r.2.1=3->I64 (rqL r))(hr:r.2.1=0->0<=r.2.2.1/\r.2.2.1<=2):Op s (opsF s r).1/\okO (opsF s r).2:=by
 unfold opsF
 split
 ·rename_i h0;exact open_op h r (hr h0)
 split
 ·exact dep_op h r
 split
 ·exact tr_op h r
 split
 ·rename_i h3;exact auth_op h r (hi h3)
 split
 ·exact cap_op h r
 split
 ·exact void_op h r
 split
 ·exact ref_op h r
 split
 ·exact chg_op h r
 ·exact op_lit h (by omega)
theorem with_op {s:TState} (h:Op s s) {w:List Acc × Option Int} (hw:w.2=none->Rt w.1/\w.1.length=s.1.length)(hc:code w.2):Op s (withA s w).1/\code (withA s w).2/\((withA s w).2 ≠ none->(withA s w).1=s):=by
 unfold withA
 obtain ⟨ac,e⟩:=w
 cases e with
 | some c=>exact ⟨h,hc,fun _=>rfl⟩
 | none=>exact ⟨op_acc h (hw rfl).1 (by rw [(hw rfl).2];exact Nat.le_refl _),code_none,fun hn=>(hn rfl).elim⟩
theorem res_op {s:TState} (h:Op s s)(r:TRequest):Op s (resF s r).1/\code (resF s r).2:=by
 unfold resF
 split
 ·split
  ·rename_i c he;exact ⟨h,by have:=code_move s.1 r.2.2.1 r.2.2.2.1 r.2.2.2.2.1;rw [he] at this;exact this⟩
  ·have:=with_op h (w:=holdF s.1 r.2.2.1 r.2.2.2.2.1) (fun hn=>holdF_rt h.rt hn) (code_hold _ _ _)
   exact ⟨this.1,this.2.1⟩
 ·exact ⟨h,code_lit (by omega)⟩
theorem setl_op {s:TState} (h:Op s s)(r:TRequest):Op s (setlF s r).1/\code (setlF s r).2:=by
 unfold setlF
 split
 ·rename_i c he;exact ⟨h,by have:=code_move s.1 r.2.2.1 r.2.2.2.1 r.2.2.2.2.1;rw [he] at this;exact this⟩
 ·have:=with_op h (w:=spendF s.1 r.2.2.2.2.1 (moveF s.1 r.2.2.1 r.2.2.2.1 r.2.2.2.2.1).1) (fun hn=>spendF_rt h.rt hn) (code_spend _ _ _)
  exact ⟨this.1,this.2.1⟩
theorem undo_op {s:TState} (h:Op s s)(r:TRequest):Op s (undoF s r).1/\code (undoF s r).2:=by
 have:=with_op h (w:=relF s.1 r.2.2.1 r.2.2.2.2.1) (fun hn=>relF_rt h.rt hn) (code_rel _ _ _)
 exact ⟨this.1,this.2.1⟩
end Go.Eng.Top
namespace Go.Eng.Top
open Go.RowKit Go.Eng Go.Eng.LVar Go.Eng.LChart Go.Eng.LEnt
set_option maxRecDepth 100000
theorem Op.self {s t:TState} (h:Op s t):Op t t:=⟨rfl,h.rt,h.pl,h.ps,Nat.le_refl _⟩
theorem Op.trans {s t u:TState} (h:Op s t)(k:Op t u):Op s u:=⟨k.rest.trans h.rest,k.rt,k.pl,k.ps,Nat.le_trans h.ac k.ac⟩
structure Inv (s:TState):Prop where
 op:Op s s
 gl:s.2.2.1.length<=16
 gs:∀ g ∈ s.2.2.1,I64 (sagL g)
 kl:s.2.2.2.1.length<=256
 ks:∀ k ∈ s.2.2.2.1,I64 (knL k)
 now:0<=s.2.2.2.2/\s.2.2.2.2<=1073741824
 gk:∀ g ∈ s.2.2.1,∃ i,fnd g.1.1 s.2.2.2.1=some i/\(s.2.2.2.1.getD i d0).2.2=false
 gd:(s.2.2.1.map fun g=>g.1.1).Nodup
theorem i64_fm {α:Type} {f:α->List Int} {l:List α} (h:∀ x ∈ l,I64 (f x)):I64 (l.flatMap f):=by
 intro x hx
 obtain ⟨a,ha,hx⟩:=List.mem_flatMap.1 hx
 exact h a ha x hx
theorem rt_i64 {ac:List Acc} (h:Rt ac):∀ a ∈ ac,I64 (acL a):=by
 intro a ha
 obtain ⟨k,hk,rfl⟩:=List.getElem_of_mem ha
 obtain ⟨h1,h2,h3,h4,h5,h6⟩:=h.ok k hk
 simp only [acL,I64,List.mem_cons,List.not_mem_nil,or_false,forall_eq_or_imp,forall_eq]
 by_cases h9:k < 9
 ·have:=h5 h9;omega
 ·have:=h6 (by omega);omega
theorem Inv.st {s:TState} (h:Inv s):StOk s where
 now:=by have:=h.now;omega
 ac:=i64_fm (rt_i64 h.op.rt)
 acl:=by have:=h.op.rt.hi;omega
 ps:=i64_fm fun p hp=>(h.op.ps p hp).i64
 psl:=by have:=h.op.pl;omega
 gs:=i64_fm h.gs
 gsl:=by have:=h.gl;omega
 ks:=i64_fm h.ks
 ksl:=by have:=h.kl;omega
theorem ask_fnd (ks:List TKnown)(r:TRequest):(askF ks r).2=(fnd r.1 ks).isSome:=by
 unfold askF
 cases fnd r.1 ks with
 | none=>rfl
 | some i =>
  dsimp only
  split
  ·split<;>rfl
  ·rfl
theorem put_none {ks:List TKnown} {r:TRequest} (hf:fnd r.1 ks=none):putF ks r=if 256<=ks.length then ([],some 7) else (ks++[(r,(0,0),false)],none):=by
 unfold putF;rw [hf]
theorem tell_last {ks:List TKnown} {r:TRequest} (hf:fnd r.1 ks=none)(o:TReply):tellF (ks++[(r,(0,0),false)]) r.1 o=(ks++[(r,o,true)],none):=by
 unfold tellF
 rw [fnd_app,hf]
 simp only [if_true]
 rw [getD_last]
 simp only [Bool.false_eq_true,if_false]
 rw [set_last]
theorem tell_at {ks:List TKnown} {key:Int} {i:Nat} (hf:fnd key ks=some i)(ht:(ks.getD i d0).2.2=false)(o:TReply):tellF ks key o=(ks.set i ((ks.getD i d0).1,o,true),none):=by
 unfold tellF
 rw [hf]
 dsimp only
 rw [ht,if_neg (by simp)]
def settled (s:TState)(r:TRequest):Prop:=mayB r=false\/(fnd r.1 s.2.2.2.1).isSome=true
theorem i64_kn {r:TRequest} {o:TReply} {b:Bool} (hr:I64 (rqL r))(h1:-9223372036854775808<=o.1/\o.1<=9223372036854775807)(h2:-9223372036854775808<=o.2/\o.2<=9223372036854775807):I64 (knL (r,o,b)):=by
 unfold knL
 refine i64_app.2 ⟨hr,i64_app.2 ⟨i64_cons.2 ⟨h1,i64_cons.2 ⟨h2,by simp [I64]⟩⟩,?_⟩⟩
 cases b<;>simp [I64]
def grows (s t:TState):Prop:=∃ l,keysOf t.2.2.2.1=keysOf s.2.2.2.1++l
theorem grows_refl (s:TState):grows s s:=⟨[],(List.append_nil _).symm⟩
theorem gk_app {gs:List TSaga} {ks:List TKnown} (kn:TKnown)(h:∀ g ∈ gs,∃ i,fnd g.1.1 ks=some i/\(ks.getD i d0).2.2=false):∀ g ∈ gs,∃ i,fnd g.1.1 (ks++[kn])=some i/\((ks++[kn]).getD i d0).2.2=false:=by
 intro g hg
 obtain ⟨i,h1,h2⟩:=h g hg
 obtain ⟨h3,_⟩:=fnd_some h1
 exact ⟨i,by rw [fnd_app,h1],by rw [getD_app _ _ _ h3];exact h2⟩
theorem inv_put {s t:TState} (h:Inv s)(ht:Op s t)(kn:TKnown)(hk:I64 (knL kn))(hl:¬ 256<=s.2.2.2.1.length):Inv (t.1,t.2.1,s.2.2.1,s.2.2.2.1++[kn],s.2.2.2.2) where
 op:=⟨rfl,ht.rt,ht.pl,ht.ps,Nat.le_refl _⟩
 gl:=h.gl
 gs:=h.gs
 kl:=by dsimp only;rw [List.length_append];simp only [List.length_cons,List.length_nil];omega
 ks:=fun k hk2=>by
  dsimp only at hk2
  rcases List.mem_append.1 hk2 with hk2 | hk2
  ·exact h.ks k hk2
  ·rw [List.mem_singleton] at hk2;rw [hk2];exact hk
 now:=h.now
 gk:=gk_app kn h.gk
 gd:=h.gd
theorem i64_sag0 {r:TRequest} (hr:I64 (rqL r)):I64 (sagL (r,0,0,0,0)):=by
 unfold sagL
 exact i64_app.2 ⟨hr,by simp [I64]⟩
theorem inv_saga {s t:TState} (h:Inv s)(ht:Op s t)(r:TRequest)(hr:I64 (rqL r))(hl:¬ 256<=s.2.2.2.1.length)(hg:¬ 16<=s.2.2.1.length)(hf:fnd r.1 s.2.2.2.1=none):Inv (t.1,t.2.1,s.2.2.1++[(r,0,0,0,0)],s.2.2.2.1++[(r,(0,0),false)],s.2.2.2.2) where
 op:=⟨rfl,ht.rt,ht.pl,ht.ps,Nat.le_refl _⟩
 gl:=by dsimp only;rw [List.length_append];simp only [List.length_cons,List.length_nil];omega
 gs:=fun g hg2=>by
  dsimp only at hg2
  rcases List.mem_append.1 hg2 with hg2 | hg2
  ·exact h.gs g hg2
  ·rw [List.mem_singleton] at hg2;rw [hg2];exact i64_sag0 hr
 kl:=by dsimp only;rw [List.length_append];simp only [List.length_cons,List.length_nil];omega
 ks:=fun k hk2=>by
  dsimp only at hk2
  rcases List.mem_append.1 hk2 with hk2 | hk2
  ·exact h.ks k hk2
  ·rw [List.mem_singleton] at hk2;rw [hk2];exact i64_kn hr (by simp) (by simp)
 now:=h.now
 gk:=fun g hg2=>by
  dsimp only at hg2 ⊢
  rcases List.mem_append.1 hg2 with hg2 | hg2
  ·exact gk_app _ h.gk g hg2
  ·rw [List.mem_singleton] at hg2
   subst hg2
   refine ⟨s.2.2.2.1.length,?_,by rw [getD_last]⟩
   rw [fnd_app]
   dsimp only
   rw [hf]
   simp
 gd:=by
  dsimp only
  rw [List.map_append,List.nodup_append]
  refine ⟨h.gd,by simp,?_⟩
  intro a ha b hb
  simp only [List.map_cons,List.map_nil,List.mem_singleton] at hb
  obtain ⟨g,hg3,rfl⟩:=List.mem_map.1 ha
  obtain ⟨i,h1,_⟩:=h.gk g hg3
  intro e
  rw [e,hb,hf] at h1
  cases h1
theorem may_cur {r:TRequest} (h:mayB r ≠ false)(h0:r.2.1=0):0<=r.2.2.1/\r.2.2.1<=2:=by
 unfold mayB at h
 split at h
 ·exact (h rfl).elim
 ·split at h
  ·exact (h rfl).elim
  ·have:=of_decide_eq_true (by simpa using h:decide (0<=r.2.2.1/\r.2.2.1 < 3)=true)
   omega
theorem sub_all {s:TState} (h:Inv s)(r:TRequest)(hr:I64 (rqL r)):Inv (subF s r).1/\grows s (subF s r).1/\((subF s r).2.1=7\/settled (subF s r).1 r):=by
 unfold subF
 by_cases hm:mayB r=false
 ·rw [if_pos hm];exact ⟨h,grows_refl s,.inr (.inl hm)⟩
 rw [if_neg hm]
 by_cases hk:(askF s.2.2.2.1 r).2=true
 ·rw [if_pos hk];rw [ask_fnd] at hk;exact ⟨h,grows_refl s,.inr (.inr hk)⟩
 rw [if_neg hk]
 have hf:fnd r.1 s.2.2.2.1=none:=by
  rw [ask_fnd] at hk
  cases hf:fnd r.1 s.2.2.2.1 with
  | none=>rfl
  | some i=>rw [hf] at hk;simp at hk
 by_cases hl:long r/\16<=(s.2.2.1.length:Int)
 ·rw [if_pos hl];exact ⟨h,grows_refl s,.inl rfl⟩
 rw [if_neg hl,put_none hf]
 by_cases h256:256<=s.2.2.2.1.length
 ·rw [if_pos h256];exact ⟨h,grows_refl s,.inl rfl⟩
 rw [if_neg h256]
 dsimp only
 have hgr:∀ (a:List Acc) (b:List TPayment) (c:List TSaga) (d:Int) (kn:TKnown),grows s (a,b,c,s.2.2.2.1++[kn],d):=fun a b c d kn=>⟨[kn.1.1],by unfold keysOf;simp⟩
 have hset:∀ (a:List Acc) (b:List TPayment) (c:List TSaga) (d:Int) (o:TReply) (x:Bool),settled (a,b,c,s.2.2.2.1++[(r,o,x)],d) r:=fun a b c d o x=>by
  refine .inr ?_
  dsimp only
  rw [fnd_app,hf]
  simp
 by_cases hlo:long r
 ·rw [if_pos hlo]
  obtain ⟨q1,q2⟩:=res_op h.op r
  cases hc:(resF s r).2 with
  | some c =>
   dsimp only
   rw [tell_last hf]
   have:=q2 c hc
   exact ⟨inv_put h h.op _ (i64_kn hr (by dsimp only;omega) (by dsimp only;omega)) h256,hgr _ _ _ _ _,.inr (hset _ _ _ _ _ _)⟩
  | none =>
   dsimp only
   have e1:(resF s r).1.2.2.1=s.2.2.1:=by rw [q1.rest]
   have e2:(resF s r).1.2.2.2.2=s.2.2.2.2:=by rw [q1.rest]
   rw [e1,e2]
   exact ⟨inv_saga h q1 r hr h256 (by omega) hf,hgr _ _ _ _ _,.inr (hset _ _ _ _ _ _)⟩
 ·rw [if_neg hlo]
  obtain ⟨q1,q2⟩:=ops_op h.op r (fun _=>hr) (may_cur hm)
  have e1:(opsF s r).1.2.2.1=s.2.2.1:=by rw [q1.rest]
  have e2:(opsF s r).1.2.2.2.2=s.2.2.2.2:=by rw [q1.rest]
  rw [tell_last hf,e1,e2]
  obtain ⟨⟨o1,o2⟩,o3,o4⟩:=q2
  exact ⟨inv_put h q1 _ (i64_kn hr (by omega) (by omega)) h256,hgr _ _ _ _ _,.inr (hset _ _ _ _ _ _)⟩
theorem split_at {α:Type} (l:List α)(i:Nat)(h:i < l.length):l=l.take i++l[i]::l.drop (i+1):=by
 rw [<- List.drop_eq_getElem_cons h,List.take_append_drop]
theorem inv_end {s t:TState} (h:Inv s)(ht:Op s t)(i:Nat)(hi:i < s.2.2.1.length)(o:TReply)(h1:-9223372036854775808<=o.1/\o.1<=9223372036854775807)(h2:-9223372036854775808<=o.2/\o.2<=9223372036854775807):Inv (endF t i o).1/\grows s (endF t i o).1:=by
 obtain ⟨tr⟩:=ht
 rename_i hrt hpl hps hac
 unfold endF
 dsimp only
 have e1:t.2.2.1=s.2.2.1:=by rw [tr]
 have e2:t.2.2.2.1=s.2.2.2.1:=by rw [tr]
 have e3:t.2.2.2.2=s.2.2.2.2:=by rw [tr]
 rw [e1,e2,e3,getD_at s.2.2.1 i zG hi]
 have hsp:=split_at s.2.2.1 i hi
 have hmem:∀ g,g ∈ s.2.2.1.take i++s.2.2.1.drop (i+1)->g ∈ s.2.2.1:=by
  intro g hg
  rcases List.mem_append.1 hg with hg | hg
  ·exact List.mem_of_mem_take hg
  ·exact List.mem_of_mem_drop hg
 obtain ⟨j,f1,f2⟩:=h.gk _ (List.getElem_mem hi)
 obtain ⟨hj,hjk⟩:=fnd_some f1
 rw [tell_at f1 f2]
 have hnd:=h.gd
 rw [hsp,List.map_append,List.map_cons,List.nodup_append] at hnd
 obtain ⟨n1,n2,n3⟩:=hnd
 rw [List.nodup_cons] at n2
 have hne:∀ g,g ∈ s.2.2.1.take i++s.2.2.1.drop (i+1)->g.1.1 ≠ (s.2.2.1[i]).1.1:=by
  intro g hg e
  rcases List.mem_append.1 hg with hg | hg
  ·exact n3 _ (List.mem_map.2 ⟨g,hg,rfl⟩) _ (List.mem_cons_self ..) e
  ·exact n2.1 (e ▸ List.mem_map.2 ⟨g,hg,rfl⟩)
 have hko:keysOf (s.2.2.2.1.set j ((s.2.2.2.1.getD j d0).1,o,true))=keysOf s.2.2.2.1:=keysOf_set _ _ _ hj (by rw [getD_at _ _ _ hj])
 refine ⟨⟨⟨rfl,hrt,hpl,hps,Nat.le_refl _⟩,?_,fun g hg=>h.gs g (hmem g hg),?_,?_,h.now,?_,?_⟩,⟨[],by dsimp only;rw [hko,List.append_nil]⟩⟩
 ·dsimp only
  have:=h.gl
  rw [List.length_append,List.length_take,List.length_drop]
  omega
 ·dsimp only;rw [List.length_set];exact h.kl
 ·intro k hk
  dsimp only at hk
  rcases List.mem_or_eq_of_mem_set hk with hk | hk
  ·exact h.ks k hk
  ·subst hk
   have:=h.ks _ (List.getElem_mem hj)
   unfold knL at this
   rw [getD_at _ _ _ hj]
   exact i64_kn (i64_app.1 this).1 h1 h2
 ·intro g hg
  dsimp only at hg ⊢
  obtain ⟨j2,g1,g2⟩:=h.gk g (hmem g hg)
  have hjj:j ≠ j2:=by
   intro e
   subst e
   obtain ⟨_,hk2⟩:=fnd_some g1
   exact hne g hg (hk2.symm.trans hjk)
  refine ⟨j2,?_,by rw [getD_set_ne _ _ _ hjj];exact g2⟩
  unfold fnd at g1 ⊢
  rw [hko]
  exact g1
 ·dsimp only
  rw [List.map_append,List.nodup_append]
  exact ⟨n1,n2.2,fun a ha b hb=>n3 a ha b (List.mem_cons_of_mem _ hb)⟩
theorem inv_setG {s:TState} (h:Inv s)(i:Nat)(hi:i < s.2.2.1.length)(g:TSaga)(hg:I64 (sagL g))(hk:g.1=(s.2.2.1[i]).1):Inv (putG s i g).1/\grows s (putG s i g).1:=by
 have hm:(s.2.2.1.set i g).map (fun g=>g.1.1)=s.2.2.1.map fun g=>g.1.1:=by
  rw [List.map_set,hk]
  have:(s.2.2.1[i]).1.1=(s.2.2.1.map fun g=>g.1.1)[i]'(by rw [List.length_map];exact hi):=by rw [List.getElem_map]
  rw [this,List.set_getElem_self]
 refine ⟨⟨⟨rfl,h.op.rt,h.op.pl,h.op.ps,Nat.le_refl _⟩,by show (s.2.2.1.set i g).length<=16;rw [List.length_set];exact h.gl,?_,h.kl,h.ks,h.now,?_,by show ((s.2.2.1.set i g).map _).Nodup;rw [hm];exact h.gd⟩,grows_refl s⟩
 ·intro x hx
  rcases List.mem_or_eq_of_mem_set (show x ∈ s.2.2.1.set i g from hx) with hx | hx
  ·exact h.gs x hx
  ·rw [hx];exact hg
 ·intro x hx
  rcases List.mem_or_eq_of_mem_set (show x ∈ s.2.2.1.set i g from hx) with hx | hx
  ·exact h.gk x hx
  ·subst hx
   rw [hk]
   exact h.gk _ (List.getElem_mem hi)
theorem sag_mk {g:TSaga} (h:I64 (sagL g)) {a b c d:Int} (hb:∀ x ∈ [a,b,c,d],-9223372036854775808<=x/\x<=9223372036854775807):I64 (sagL (g.1,a,b,c,d)):=by
 unfold sagL at h ⊢
 exact i64_app.2 ⟨(i64_app.1 h).1,hb⟩
theorem sag_get {g:TSaga} (h:I64 (sagL g)):∀ x ∈ [g.2.1,g.2.2.1,g.2.2.2.1,g.2.2.2.2],-9223372036854775808<=x/\x<=9223372036854775807:=by
 unfold sagL at h
 exact (i64_app.1 h).2
theorem leg_ok {g:TSaga} (h:I64 (sagL g))(ok:Bool):I64 (sagL (legF g ok))/\(legF g ok).1=g.1:=by
 have hg:=sag_get h
 have w1:=w64_rng (g.2.2.1+1)
 have w2:=w64_rng (g.2.2.2.1+1)
 simp only [List.mem_cons,List.not_mem_nil,or_false,forall_eq_or_imp,forall_eq] at hg
 unfold legF
 split
 ·split
  ·exact ⟨sag_mk h (by simp only [List.mem_cons,List.not_mem_nil,or_false,forall_eq_or_imp,forall_eq];omega),rfl⟩
  ·split
   ·exact ⟨sag_mk h (by simp only [List.mem_cons,List.not_mem_nil,or_false,forall_eq_or_imp,forall_eq];omega),rfl⟩
   ·exact ⟨sag_mk h (by simp only [List.mem_cons,List.not_mem_nil,or_false,forall_eq_or_imp,forall_eq];omega),rfl⟩
 ·exact ⟨h,rfl⟩
theorem turn_ok {g:TSaga} (h:I64 (sagL g)) {c:Int} (hc:0<=c/\c<=13):I64 (sagL (turnF g c))/\(turnF g c).1=g.1:=by
 have hg:=sag_get h
 simp only [List.mem_cons,List.not_mem_nil,or_false,forall_eq_or_imp,forall_eq] at hg
 unfold turnF
 split
 ·exact ⟨sag_mk h (by simp only [List.mem_cons,List.not_mem_nil,or_false,forall_eq_or_imp,forall_eq];omega),rfl⟩
 ·exact ⟨h,rfl⟩
theorem fndG_lt {key:Int} {gs:List TSaga} {i:Nat} (h:fndG key gs=some i):i < gs.length:=by
 obtain ⟨h1,_⟩:=fndI_some h
 rw [List.length_map] at h1
 exact h1
theorem step_all {s:TState} (h:Inv s)(key:Int)(ok:Bool):Inv (stepF s key ok).1/\grows s (stepF s key ok).1:=by
 unfold stepF
 cases hf:fndG key s.2.2.1 with
 | none=>exact ⟨h,grows_refl s⟩
 | some i =>
  have hi:=fndG_lt hf
  dsimp only
  rw [getD_at s.2.2.1 i zG hi]
  have hg:=h.gs _ (List.getElem_mem hi)
  have hgg:=sag_get hg
  simp only [List.mem_cons,List.not_mem_nil,or_false,forall_eq_or_imp,forall_eq] at hgg
  generalize he:s.2.2.1[i]=g at hg hgg ⊢
  split
  ·exact inv_end h (undo_op h.op g.1).1 i hi _ (by dsimp only;omega) (by dsimp only;omega)
  ·split
   ·have hs:=setl_op h.op g.1
    cases hc:(setlF s g.1).2 with
    | none=>exact inv_end h hs.1 i hi _ (by dsimp only;omega) (by dsimp only;omega)
    | some c =>
     obtain ⟨q1,q2⟩:=turn_ok hg (hs.2 c hc)
     exact inv_setG h i hi _ q1 (by rw [q2,he])
   ·obtain ⟨q1,q2⟩:=leg_ok hg ok
    exact inv_setG h i hi _ q1 (by rw [q2,he])
theorem voids_op:∀ (l:List Int)(s:TState),Op s s->Op s (voids l s)
 | [],s,h=>h
 | k::l,s,h=>by
  have h1:=(ops_op h (0,5,k,0,0,0,0) (fun e=>by simp at e) (fun e=>by simp at e)).1
  exact h1.trans (voids_op l _ h1.self)
theorem tick_all {s:TState} (h:Inv s):Inv (tickF s)/\grows s (tickF s):=by
 unfold tickF
 split
 ·exact ⟨h,grows_refl s⟩
 ·rename_i hn
  have hnow:=h.now
  have e:w64 (s.2.2.2.2+1)=s.2.2.2.2+1:=w64_id (by omega)
  rw [e]
  have h0:Op (s.1,s.2.1,s.2.2.1,s.2.2.2.1,s.2.2.2.2+1) (s.1,s.2.1,s.2.2.1,s.2.2.2.1,s.2.2.2.2+1):=⟨rfl,h.op.rt,h.op.pl,h.op.ps,Nat.le_refl _⟩
  have h1:=voids_op (dueBy s.2.1 (s.2.2.2.2+1)) _ h0
  generalize voids (dueBy s.2.1 (s.2.2.2.2+1)) (s.1,s.2.1,s.2.2.1,s.2.2.2.1,s.2.2.2.2+1)=t at h1
  have e1:t.2.2.1=s.2.2.1:=by rw [h1.rest]
  have e2:t.2.2.2.1=s.2.2.2.1:=by rw [h1.rest]
  have e3:t.2.2.2.2=s.2.2.2.2+1:=by rw [h1.rest]
  exact ⟨⟨h1.self,by rw [e1];exact h.gl,by rw [e1];exact h.gs,by rw [e2];exact h.kl,by rw [e2];exact h.ks,by rw [e3];omega,by rw [e1,e2];exact h.gk,by rw [e1];exact h.gd⟩,⟨[],by rw [e2,List.append_nil]⟩⟩
theorem do_all {s:TState} (h:Inv s)(e:TEvent)(hr:I64 (rqL e.2.1)):Inv (doF s e).1/\grows s (doF s e).1:=by
 unfold doF
 split
 ·have:=sub_all h e.2.1 hr;exact ⟨this.1,this.2.1⟩
 ·split
  ·exact step_all h _ _
  ·split
   ·exact tick_all h
   ·exact ⟨h,grows_refl s⟩
def s0:TState:=([(0,0,0),(0,0,0),(0,0,0),(1,0,0),(1,0,0),(1,0,0),(2,0,0),(2,0,0),(2,0,0)],[],[],[],0)
theorem inv0:Inv s0 where
 op:=by
  refine ⟨rfl,⟨by decide,by decide,fun k hk=>?_,fun c=>?_⟩,by decide,fun p hp=>(by cases hp),Nat.le_refl _⟩
  ·have hk9:k < 9:=hk
   have:=(okFrom_iff s0.1 0).1 (by decide) k hk
   rw [Nat.zero_add] at this
   exact this
  ·unfold sums cur s0
   simp
 gl:=by decide
 gs:=fun g hg=>by cases hg
 kl:=by decide
 ks:=fun g hg=>by cases hg
 now:=by decide
 gk:=fun g hg=>by cases hg
 gd:=List.nodup_nil
end Go.Eng.Top
namespace Go.Proofs.Due
open Go.RowKit Go.Proofs
theorem lv (bx:Nat)(v:Value)(w:World)(h:w.cell? ⟨bx,0,none⟩=some v):(loadVar 224 ⟨bx,0,none⟩).run Tryz.prog w=.ok v w:=by
 simp [loadVar,isAgg,underlying,Tryz.underlying224,h,Result.andThen]
theorem meth (nm:String)(f:Nat)(bx:Nat)(v:Value)(w:World)(h:w.cell? ⟨bx,0,none⟩=some v)
  (hm:((Tryz.prog.info? 222).bind fun i=>(i.methods.find? (·.name == nm)).bind fun m=>if m.path.isEmpty then m.func else none)=some (f,false)):(Go.method 437 222 (.pointer (some ⟨bx,0,none⟩)) nm).run Tryz.prog w=.ok (f,v) w:=by
 obtain ⟨i,h1,hm⟩:=Option.bind_eq_some_iff.1 hm
 obtain ⟨m,h2,hm⟩:=Option.bind_eq_some_iff.1 hm
 split at hm
 ·rename_i h3
  have h3':m.path=#[]:=by simpa using h3
  have sw : ∀ l : String, (Builtin.ssaWrapNilChk_ #[222] 222 #[.pointer (some ⟨bx, 0, none⟩), strVal "", strVal l]).run Tryz.prog w = .ok (.pointer (some ⟨bx, 0, none⟩)) w := fun l => by kernel_rfl
  have e:(Go.method 437 222 (.pointer (some ⟨bx,0,none⟩)) nm)=(Go.method (436+1) 222 (.pointer (some ⟨bx,0,none⟩)) nm):=rfl
  rw [e,Go.method]
  simp [typeInfo,h1,h2,h3',hm,follow,receiverAt,underlying,Tryz.underlying222,Place.get,sw,asAddr,lv bx v w h,Result.andThen]
 ·cases hm
theorem mLess (bx : Nat) (v : Value) (w : World) (h : w.cell? ⟨bx, 0, none⟩ = some v) : (Go.method 437 222 (.pointer (some ⟨bx, 0, none⟩)) "Less").run Tryz.prog w = .ok (215, v) w := meth _ _ bx v w h (by kernel_rfl)
theorem mLen (bx : Nat) (v : Value) (w : World) (h : w.cell? ⟨bx, 0, none⟩ = some v) : (Go.method 437 222 (.pointer (some ⟨bx, 0, none⟩)) "Len").run Tryz.prog w = .ok (122, v) w := meth _ _ bx v w h (by kernel_rfl)
theorem mSwap (bx : Nat) (v : Value) (w : World) (h : w.cell? ⟨bx, 0, none⟩ = some v) : (Go.method 437 222 (.pointer (some ⟨bx, 0, none⟩)) "Swap").run Tryz.prog w = .ok (218, v) w := meth _ _ bx v w h (by kernel_rfl)
theorem mPush (bx : Nat) (w : World) : (Go.method 437 222 (.pointer (some ⟨bx, 0, none⟩)) "Push").run Tryz.prog w = .ok (217, .pointer (some ⟨bx, 0, none⟩)) w := by kernel_rfl
theorem mPop (bx : Nat) (w : World) : (Go.method 437 222 (.pointer (some ⟨bx, 0, none⟩)) "Pop").run Tryz.prog w = .ok (216, .pointer (some ⟨bx, 0, none⟩)) w := by kernel_rfl
end Go.Proofs.Due
namespace Go.Proofs.Due
open Go.RowKit Go.Proofs Go.Eng
abbrev LI:=List (Int × Int)
def cellsOf (l:LI):List Value:=l.flatMap fun p=>[.int .i64 p.1,.int .i64 p.2]
def RowAt (B:Nat)(w:World)(bx:Nat)(l:LI):Prop :=
 B<=bx/\∃ v,w.heap[bx]?=some (.cells #[v] 224 (0,0))/\w.ownsRow B 227 2 v l.length (cellsOf l)/\v.ownBlock ≠ some bx
theorem RowAt.cell {B:Nat} {w:World} {bx:Nat} {l:LI} (h:RowAt B w bx l):∃ v,w.cell? ⟨bx,0,none⟩=some v:=by
 obtain ⟨_,v,h1,_⟩:=h
 exact ⟨v,by simp [World.cell?,h1]⟩
def rowBlk (w:World)(bx:Nat):Option Nat:=match w.cell? ⟨bx,0,none⟩ with | some v=>v.ownBlock | none=>none
structure Bel (B bx:Nat)(w w':World):Prop where
 bel:Below B w w'
 far:∀ k,k < w.heap.size->k ≠ bx->rowBlk w bx ≠ some k->w'.heap[k]?=w.heap[k]?
 row:rowBlk w' bx=rowBlk w bx\/∀ k,rowBlk w' bx=some k->w.heap.size<=k
theorem Bel.refl (B bx:Nat)(w:World):Bel B bx w w:=⟨Below.refl _ _,fun _ _ _ _=>rfl,.inl rfl⟩
theorem Bel.trans {B bx:Nat} {a b c:World} (h:Bel B bx a b)(k:Bel B bx b c):Bel B bx a c:=by
 have hsz:=h.bel.size
 refine ⟨h.bel.trans k.bel,fun i h1 h2 h3=>?_,?_⟩
 ·rw [k.far i (by omega) h2 ?_,h.far i h1 h2 h3]
  rcases h.row with q | q
  ·rw [q];exact h3
  ·intro e
   have:=q i e
   omega
 ·rcases k.row with q | q
  ·rcases h.row with p | p
   ·exact .inl (q.trans p)
   ·exact .inr fun i e=>p i (q ▸ e)
  ·exact .inr fun i e=>by have:=q i e;omega
abbrev hV (bx:Nat):Value:=.iface 222 (.pointer (some ⟨bx,0,none⟩))
def Ok1 (B bx:Nat):Prop :=
 (∀ (w:World) (l:LI) (v:Value),RowAt B w bx l->w.cell? ⟨bx,0,none⟩=some v->Calls Tryz.prog 122 #[v] w fun e w'=>e=.returned (.int .i64 l.length)/\RowAt B w' bx l/\Bel B bx w w') /\
 (∀ (w:World) (l:LI) (v:Value) (i j:Nat),RowAt B w bx l->w.cell? ⟨bx,0,none⟩=some v->i < l.length->j < l.length->Calls Tryz.prog 215 #[v,.int .i64 i,.int .i64 j] w fun e w'=>e=.returned (.bool (hLess (l.getD i (0,0)) (l.getD j (0,0))))/\RowAt B w' bx l/\Bel B bx w w') /\
 (∀ (w:World) (l:LI) (v:Value) (i j:Nat),RowAt B w bx l->w.cell? ⟨bx,0,none⟩=some v->i < l.length->j < l.length->Calls Tryz.prog 218 #[v,.int .i64 i,.int .i64 j] w fun e w'=>e=.returned (.tuple #[])/\RowAt B w' bx (hSwap l i j)/\Bel B bx w w')
set_option maxRecDepth 100000
theorem hUp_fuel:∀ (m m':Nat)(l:LI)(j:Nat),j < m->j < m'->hUp m l j=hUp m' l j
 | 0,_,_,_,h,_=>by omega
 | _,0,_,_,_,h=>by omega
 | m+1,m'+1,l,j,h,h'=>by
  unfold hUp
  cases hb:Nat.beq j 0 with
  | true=>rfl
  | false =>
   have hj:j ≠ 0:=fun e=>by rw [e] at hb;cases hb
   simp only [cond_false]
   rw [hUp_fuel m m' (hSwap l ((j - 1) / 2) j) ((j - 1) / 2) (by omega) (by omega)]
theorem hSwap_len (l:LI)(i j:Nat):(hSwap l i j).length=l.length:=by simp [hSwap]
theorem up_ok (B bx:Nat)(hk:Ok1 B bx)(w:World)(l:LI)(j:Nat)(hj:j < l.length)(hlen:l.length<=1048576)(h:RowAt B w bx l) :
  Calls Tryz.prog 148 #[hV bx,.int .i64 j] w fun e w'=>e=.returned (.tuple #[])/\RowAt B w' bx (hUp (j+1) l j)/\Bel B bx w w':=by
 go_enter Tryz.func148,Tryz.ntmps148
 go_wp2
 go_loopw [1] (fun v wr=>∃ (l':LI) (j':Nat),v=.int .i64 j'/\j' < l'.length/\l'.length=l.length/\RowAt B wr bx l'/\Bel B bx w wr/\hUp (j'+1) l' j'=hUp (j+1) l j) (fun v wr=>match v with | .int _ n=>n.toNat | _=>0)
 case atStart=>exact ⟨l,j,rfl,hj,rfl,h,Bel.refl _ _ _,rfl⟩
 case round =>
  obtain ⟨l',j',rfl,hj',hl',hr,hb,hu⟩:=hrel
  by_cases h0:j'=0
  ·subst h0
   go_wp2
   go_end0
   rw [<- hu]
   exact ⟨rfl,hr,hb⟩
  ·obtain ⟨q,rfl⟩:∃ q,j'=q+1:=⟨j' - 1,by omega⟩
   have w1:IntKind.i64.wrap (((q+1:Nat):Int) - 1)=(q:Int):=by show w64 _=_;rw [w64_eq (by omega) (by omega)];omega
   have w2:(q:Int).tdiv 2=((q / 2:Nat):Int):=by rw [Int.tdiv_eq_ediv_of_nonneg (by omega)];omega
   have w3:¬ (((q / 2:Nat):Int)=((q+1:Nat):Int)):=by omega
   have w4:((((q / 2:Nat):Int)) == (((q+1:Nat):Int)))=false:=by rw [beq_eq_false_iff_ne];exact w3
   have w5:((q:Int) / 2 == (q:Int)+1)=false:=by rw [beq_eq_false_iff_ne];omega
   obtain ⟨v,hv⟩:=hr.cell
   have mL:=mLess bx v wr hv
   have hun:hUp (q+1+1) l' (q+1)=bif hLess (l'.getD (q+1) (0,0)) (l'.getD (q / 2) (0,0)) then hUp (q+1) (hSwap l' (q / 2) (q+1)) (q / 2) else l':=rfl
   cases hc:hLess (l'.getD (q+1) (0,0)) (l'.getD (q / 2) (0,0)) with
   | false =>
    rw [hc,cond_false] at hun
    go_wp2_with (go_at_call 215;refine (hk.2.1 wr l' v (q+1) (q / 2) hr hv hj' (by omega)).mono ?_;rintro e w' ⟨rfl,hr2,hb2⟩;rw [hc])
    go_end0
    rw [<- hu,hun]
    exact ⟨rfl,hr2,hb.trans hb2⟩
   | true =>
    rw [hc,cond_true] at hun
    obtain ⟨w2',hw2⟩:∃ w2':Nat,w2'=0:=⟨_,rfl⟩
    go_wp2_with (first
     | (go_at_call 215;refine (hk.2.1 wr l' v (q+1) (q / 2) hr hv hj' (by omega)).mono ?_;rintro e w1 ⟨rfl,hr2,hb2⟩;rw [hc];obtain ⟨v2,hv2⟩:=hr2.cell;have mS:=mSwap bx v2 w1 hv2)
     | (go_at_call 218;refine (hk.2.2 w1 l' v2 (q / 2) (q+1) hr2 hv2 (by omega) hj').mono ?_;rintro e w3 ⟨rfl,hr3,hb3⟩))
    refine ⟨⟨_,q / 2,rfl,?_,?_,hr3,(hb.trans hb2).trans hb3,?_⟩,?_⟩
    ·rw [hSwap_len];omega
    ·rw [hSwap_len];exact hl'
    ·rw [<- hu,hun];exact hUp_fuel _ _ _ _ (by omega) (by omega)
    ·simp only;omega
theorem hDown_fuel:∀ (m m':Nat)(l:LI)(i n:Nat),n<=i+m->n<=i+m'->hDown m l i n=hDown m' l i n
 | 0,0,_,_,_,_,_=>rfl
 | 0,m'+1,l,i,n,h,h'=>by
  unfold hDown
  rw [Nat.ble_eq_true_of_le (by omega)];rfl
 | m+1,0,l,i,n,h,h'=>by
  conv=>lhs;unfold hDown
  rw [Nat.ble_eq_true_of_le (by omega)];rfl
 | m+1,m'+1,l,i,n,h,h'=>by
  unfold hDown
  cases hb:Nat.ble n (2 * i+1) with
  | true=>rfl
  | false =>
   simp only [cond_false]
   have:∀ j,i < j->hDown m (hSwap l i j) j n=hDown m' (hSwap l i j) j n:=fun j hj=>hDown_fuel m m' _ j n (by omega) (by omega)
   cases (Nat.ble (2 * i+3) n && hLess (l.getD (2 * i+2) (0,0)) (l.getD (2 * i+1) (0,0))) with
   | true=>simp only [cond_true];rw [this (2 * i+2) (by omega)]
   | false=>simp only [cond_false];rw [this (2 * i+1) (by omega)]
theorem hDown_step (l:LI)(i j n:Nat)(m:Nat)(hm:n<=i+m)(h1:2 * i+1 < n)(hj:j=bif Nat.ble (2 * i+3) n && hLess (l.getD (2 * i+2) (0,0)) (l.getD (2 * i+1) (0,0)) then 2 * i+2 else 2 * i+1) :
  hDown m l i n=bif hLess (l.getD j (0,0)) (l.getD i (0,0)) then hDown m (hSwap l i j) j n else l:=by
 have hij:i < j:=by rw [hj];cases (Nat.ble (2 * i+3) n && hLess (l.getD (2 * i+2) (0,0)) (l.getD (2 * i+1) (0,0)))<;>simp<;>omega
 match m,hm with
 | 0,hm=>omega
 | m+1,hm =>
  conv=>lhs;unfold hDown
  have hb:Nat.ble n (2 * i+1)=false:=by
   cases hb:Nat.ble n (2 * i+1) with
   | false=>rfl
   | true=>have:=Nat.le_of_ble_eq_true hb;omega
  rw [hb,cond_false]
  simp only
  rw [<- hj,hDown_fuel m (m+1) (hSwap l i j) j n (by omega) (by omega)]
def IsB (e:Ending):Prop:=∃ b,e=.returned (.bool b)
set_option maxHeartbeats 1000000
theorem down_ok (B bx:Nat)(hk:Ok1 B bx)(w:World)(l:LI)(n:Nat)(hn:n<=l.length)(hlen:l.length<=1048576)(h:RowAt B w bx l) :
  Calls Tryz.prog 149 #[hV bx,.int .i64 0,.int .i64 n] w fun e w'=>IsB e/\RowAt B w' bx (hDown n l 0 n)/\Bel B bx w w':=by
 go_enter Tryz.func149,Tryz.ntmps149
 go_wp2
 go_loopw [7] (fun v wr=>∃ (l':LI) (i:Nat),v=.int .i64 i/\i<=1048576/\l'.length=l.length/\RowAt B wr bx l'/\Bel B bx w wr/\hDown n l' i n=hDown n l 0 n) (fun v wr=>match v with | .int _ x=>n - x.toNat | _=>0)
 case atStart=>exact ⟨l,0,rfl,by omega,rfl,h,Bel.refl _ _ _,rfl⟩
 case round =>
  obtain ⟨l',i,rfl,hi,hl',hr,hb,hu⟩:=hrel
  obtain ⟨a,ha⟩:∃ a:Int,a=2 * (i:Int):=⟨_,rfl⟩
  obtain ⟨j1,hj1⟩:∃ a:Nat,a=2 * i+1:=⟨_,rfl⟩
  obtain ⟨j2,hj2⟩:∃ a:Nat,a=2 * i+2:=⟨_,rfl⟩
  have w1:IntKind.i64.wrap (2 * (i:Int))=a:=by show w64 _=_;rw [w64_eq (by omega) (by omega)];omega
  have w2:IntKind.i64.wrap (a+1)=(j1:Int):=by show w64 _=_;rw [w64_eq (by omega) (by omega)];omega
  have w3:IntKind.i64.wrap ((j1:Int)+1)=(j2:Int):=by show w64 _=_;rw [w64_eq (by omega) (by omega)];omega
  have c2:decide ((j1:Int) < 0)=false:=decide_eq_false (by omega)
  by_cases h1:j1 < n
  ·have c1:decide ((n:Int)<=(j1:Int))=false:=decide_eq_false (by omega)
   obtain ⟨v,hv⟩:=hr.cell
   have mL:=mLess bx v wr hv
   have hst:=hDown_step l' i (bif Nat.ble (2 * i+3) n && hLess (l'.getD (2 * i+2) (0,0)) (l'.getD (2 * i+1) (0,0)) then 2 * i+2 else 2 * i+1) n n (by omega) (by omega) rfl
   have b1:j1 < l'.length:=by omega
   have bi:i < l'.length:=by omega
   by_cases h2:j2 < n
   ·have c3:decide ((j2:Int) < (n:Int))=true:=decide_eq_true (by omega)
    have b2:j2 < l'.length:=by omega
    rw [<- hj1,<- hj2,Nat.ble_eq_true_of_le (by omega),Bool.true_and] at hst
    cases hc:hLess (l'.getD j2 (0,0)) (l'.getD j1 (0,0)) with
    | true =>
     rw [hc,cond_true] at hst
     cases hd:hLess (l'.getD j2 (0,0)) (l'.getD i (0,0)) with
     | false =>
      rw [hd,cond_false,hu] at hst
      clear hu hj1 hj2 ha
      go_wp2_with (first
       | (go_at_call 215;refine (hk.2.1 w1' l' v2 j2 i hr2 hv2 b2 bi).mono ?_;rintro e w2' ⟨rfl,hr3,hb3⟩;rw [hd];obtain ⟨v3,hv3⟩:=hr3.cell;have mS:=mSwap bx v3 w2' hv3)
       | (go_at_call 215;refine (hk.2.1 wr l' v j2 j1 hr hv b2 b1).mono ?_;rintro e w1' ⟨rfl,hr2,hb2⟩;rw [hc];obtain ⟨v2,hv2⟩:=hr2.cell;have mL2:=mLess bx v2 w1' hv2))
      go_ret
      refine ⟨⟨_,rfl⟩,?_,(hb.trans hb2).trans hb3⟩
      rw [hst];exact hr3
     | true =>
      rw [hd,cond_true,hu] at hst
      have hfin:i < j2/\j2<=1048576/\j2 < n:=by omega
      clear hu hj1 hj2 ha
      go_wp2_with (first
       | (go_at_call 218;refine (hk.2.2 w2' l' v3 i j2 hr3 hv3 bi b2).mono ?_;rintro e w3' ⟨rfl,hr4,hb4⟩)
       | (go_at_call 215;refine (hk.2.1 w1' l' v2 j2 i hr2 hv2 b2 bi).mono ?_;rintro e w2' ⟨rfl,hr3,hb3⟩;rw [hd];obtain ⟨v3,hv3⟩:=hr3.cell;have mS:=mSwap bx v3 w2' hv3)
       | (go_at_call 215;refine (hk.2.1 wr l' v j2 j1 hr hv b2 b1).mono ?_;rintro e w1' ⟨rfl,hr2,hb2⟩;rw [hc];obtain ⟨v2,hv2⟩:=hr2.cell;have mL2:=mLess bx v2 w1' hv2))
      refine ⟨⟨_,j2,rfl,by omega,?_,hr4,((hb.trans hb2).trans hb3).trans hb4,?_⟩,?_⟩
      ·rw [hSwap_len];exact hl'
      ·exact hst.symm
      ·simp only [Int.toNat_natCast];omega
    | false =>
     rw [hc,cond_false] at hst
     cases hd:hLess (l'.getD j1 (0,0)) (l'.getD i (0,0)) with
     | false =>
      rw [hd,cond_false,hu] at hst
      clear hu hj1 hj2 ha
      go_wp2_with (first
       | (go_at_call 215;refine (hk.2.1 w1' l' v2 j1 i hr2 hv2 b1 bi).mono ?_;rintro e w2' ⟨rfl,hr3,hb3⟩;rw [hd];obtain ⟨v3,hv3⟩:=hr3.cell;have mS:=mSwap bx v3 w2' hv3)
       | (go_at_call 215;refine (hk.2.1 wr l' v j2 j1 hr hv b2 b1).mono ?_;rintro e w1' ⟨rfl,hr2,hb2⟩;rw [hc];obtain ⟨v2,hv2⟩:=hr2.cell;have mL2:=mLess bx v2 w1' hv2))
      go_ret
      refine ⟨⟨_,rfl⟩,?_,(hb.trans hb2).trans hb3⟩
      rw [hst];exact hr3
     | true =>
      rw [hd,cond_true,hu] at hst
      have hfin:i < j1/\j1<=1048576/\j1 < n:=by omega
      clear hu hj1 hj2 ha
      go_wp2_with (first
       | (go_at_call 218;refine (hk.2.2 w2' l' v3 i j1 hr3 hv3 bi b1).mono ?_;rintro e w3' ⟨rfl,hr4,hb4⟩)
       | (go_at_call 215;refine (hk.2.1 w1' l' v2 j1 i hr2 hv2 b1 bi).mono ?_;rintro e w2' ⟨rfl,hr3,hb3⟩;rw [hd];obtain ⟨v3,hv3⟩:=hr3.cell;have mS:=mSwap bx v3 w2' hv3)
       | (go_at_call 215;refine (hk.2.1 wr l' v j2 j1 hr hv b2 b1).mono ?_;rintro e w1' ⟨rfl,hr2,hb2⟩;rw [hc];obtain ⟨v2,hv2⟩:=hr2.cell;have mL2:=mLess bx v2 w1' hv2))
      refine ⟨⟨_,j1,rfl,by omega,?_,hr4,((hb.trans hb2).trans hb3).trans hb4,?_⟩,?_⟩
      ·rw [hSwap_len];exact hl'
      ·exact hst.symm
      ·simp only [Int.toNat_natCast];omega
   ·have c3:decide ((j2:Int) < (n:Int))=false:=decide_eq_false (by omega)
    have hble:Nat.ble (2 * i+3) n=false:=by
     cases hb:Nat.ble (2 * i+3) n with
     | false=>rfl
     | true=>have:=Nat.le_of_ble_eq_true hb;omega
    rw [hble,Bool.false_and,cond_false,<- hj1] at hst
    cases hd:hLess (l'.getD j1 (0,0)) (l'.getD i (0,0)) with
    | false =>
     rw [hd,cond_false,hu] at hst
     clear hu hj1 hj2 ha
     go_wp2_with (first
      | (go_at_call 215;refine (hk.2.1 wr l' v j1 i hr hv b1 bi).mono ?_;rintro e w2' ⟨rfl,hr3,hb3⟩;rw [hd];obtain ⟨v3,hv3⟩:=hr3.cell;have mS:=mSwap bx v3 w2' hv3)
      | fail)
     go_ret
     refine ⟨⟨_,rfl⟩,?_,hb.trans hb3⟩
     rw [hst];exact hr3
    | true =>
     rw [hd,cond_true,hu] at hst
     have hfin:i < j1/\j1<=1048576/\j1 < n:=by omega
     clear hu hj1 hj2 ha
     go_wp2_with (first
      | (go_at_call 218;refine (hk.2.2 w2' l' v3 i j1 hr3 hv3 bi b1).mono ?_;rintro e w3' ⟨rfl,hr4,hb4⟩)
      | (go_at_call 215;refine (hk.2.1 wr l' v j1 i hr hv b1 bi).mono ?_;rintro e w2' ⟨rfl,hr3,hb3⟩;rw [hd];obtain ⟨v3,hv3⟩:=hr3.cell;have mS:=mSwap bx v3 w2' hv3)
      | fail)
     refine ⟨⟨_,j1,rfl,by omega,?_,hr4,(hb.trans hb3).trans hb4,?_⟩,?_⟩
     ·rw [hSwap_len];exact hl'
     ·exact hst.symm
     ·simp only [Int.toNat_natCast];omega
  ·have c1:decide ((n:Int)<=(j1:Int))=true:=decide_eq_true (by omega)
   have hst:hDown n l' i n=l':=by
    have hble:Nat.ble n (2 * i+1)=true:=Nat.ble_eq_true_of_le (by omega)
    cases n with
    | zero=>rfl
    | succ n=>unfold hDown;rw [hble,cond_true]
   go_wp2
   go_ret
   refine ⟨⟨_,rfl⟩,?_,hb⟩
   rw [<- hu,hst];exact hr
end Go.Proofs.Due
namespace Go.Proofs.Due
open Go.RowKit Go.Proofs Go.Eng
set_option maxRecDepth 100000
set_option maxHeartbeats 1000000
theorem len_ok (w:World)(a:Option Addr)(n cap:Nat) :
  Calls Tryz.prog 122 #[.slice a n cap] w fun e w'=>e=.returned (.int .i64 n)/\w'=w:=by
 go_enter Tryz.func122,Tryz.ntmps122
 go_wp2
 go_ret
 exact ⟨rfl,rfl⟩
theorem less_ok (w:World)(g n cap:Nat)(i j:Nat)(hi:i < n)(hj:j < n)(x1 x2 y1 y2:Int) 
 (c1:w.cell? ⟨g,i * 2,none⟩=some (.int .i64 x1)) (c2:w.cell? ⟨g,i * 2+1,none⟩=some (.int .i64 x2)) (c3:w.cell? ⟨g,j * 2,none⟩=some (.int .i64 y1)) (c4:w.cell? ⟨g,j * 2+1,none⟩=some (.int .i64 y2)) :
  Calls Tryz.prog 215 #[.slice (some ⟨g,0,none⟩) n cap,.int .i64 i,.int .i64 j] w fun e w'=>e=.returned (.bool (hLess (x1,x2) (y1,y2)))/\∃ q,w'=w.drewN q:=by
 obtain ⟨r,hr⟩:∃ r,hLess (x1,x2) (y1,y2)=r:=⟨_,rfl⟩
 rw [hr]
 simp only [hLess] at hr
 go_enter Tryz.func215,Tryz.ntmps215
 by_cases h1:x1 < y1
 ·have hr':r=true:=by rw [<- hr];simp [h1]
  subst hr'
  clear hr
  go_wp2_with fail
  go_quiet (fail)
  go_wp2
  go_ret
  exact ⟨rfl,_,rfl⟩
 ·have h1':decide (x1 < y1)=false:=decide_eq_false h1
  by_cases h2:x1=y1
  ·have hr':r=decide (x2 < y2):=by rw [<- hr];simp [h1,h2]
   subst hr'
   subst h2
   clear hr
   by_cases h3:x2 < y2
   ·rw [decide_eq_true h3]
    go_wp2_with fail
    go_quiet (fail)
    go_wp2
    go_ret
    exact ⟨rfl,_,rfl⟩
   ·have h3':decide (x2 < y2)=false:=decide_eq_false h3
    rw [h3']
    go_wp2_with fail
    go_quiet (fail)
    go_wp2
    go_ret
    exact ⟨rfl,_,rfl⟩
  ·have hr':r=false:=by rw [<- hr];simp [h1,h2]
   subst hr'
   have h2':(x1 == y1)=false:=beq_eq_false_iff_ne.2 h2
   clear hr
   go_wp2_with fail
   go_quiet (fail)
   go_wp2
   go_ret
   exact ⟨rfl,_,rfl⟩
theorem swap_ok (w:World)(g n cap:Nat)(i j:Nat)(hi:i < n)(hj:j < n)(x1 x2 y1 y2:Int) 
 (c1:w.cell? ⟨g,i * 2,none⟩=some (.int .i64 x1)) (c2:w.cell? ⟨g,i * 2+1,none⟩=some (.int .i64 x2)) (c3:w.cell? ⟨g,j * 2,none⟩=some (.int .i64 y1)) (c4:w.cell? ⟨g,j * 2+1,none⟩=some (.int .i64 y2))
 (f1:w.frozen? ⟨g,i * 2,none⟩=false) (f2:w.frozen? ⟨g,i * 2+1,none⟩=false) (f3:w.frozen? ⟨g,j * 2,none⟩=false) (f4:w.frozen? ⟨g,j * 2+1,none⟩=false) :
  Calls Tryz.prog 218 #[.slice (some ⟨g,0,none⟩) n cap,.int .i64 i,.int .i64 j] w fun e w'=>e=.returned (.tuple #[])/\
  w'=((((w.setCell ⟨g,i * 2,none⟩ (.int .i64 y1)).setCell ⟨g,i * 2+1,none⟩ (.int .i64 y2)).setCell ⟨g,j * 2,none⟩ (.int .i64 x1)).setCell ⟨g,j * 2+1,none⟩ (.int .i64 x2)).drew:=by
 by_cases hij:i=j
 ·subst hij
  obtain rfl:y1=x1:=by have:=c3.symm.trans c1;simpa using this
  obtain rfl:y2=x2:=by have:=c4.symm.trans c2;simpa using this
  clear c3 c4 f3 f4 hj
  go_enter Tryz.func218,Tryz.ntmps218
  go_region
  go_wp2
  go_end0
  exact ⟨rfl,rfl⟩
 ·go_enter Tryz.func218,Tryz.ntmps218
  go_region
  go_wp2
  go_end0
  exact ⟨rfl,rfl⟩
theorem cellsOf_len:∀ l:LI,(cellsOf l).length=l.length * 2
 | []=>rfl
 | p::l=>by
  have:=cellsOf_len l
  unfold cellsOf at this ⊢
  rw [List.flatMap_cons,List.length_append,this]
  simp;omega
theorem cellsOf_get:∀ (l:LI)(k:Nat),k < l.length->(cellsOf l)[k * 2]?=some (.int .i64 (l.getD k (0,0)).1)/\(cellsOf l)[k * 2+1]?=some (.int .i64 (l.getD k (0,0)).2)
 | p::l,0,_=>⟨rfl,rfl⟩
 | p::l,k+1,h=>by
  have ih:=cellsOf_get l k (by simpa using h)
  have e:cellsOf (p::l)=.int .i64 p.1::.int .i64 p.2::cellsOf l:=rfl
  rw [e,show (k+1) * 2=k * 2+1+1 by omega]
  simpa using ih
theorem ext2 {α:Type} {X Y:List α} {n:Nat} (hx:X.length=n * 2)(hy:Y.length=n * 2)(h:∀ k,k < n->X[k * 2]?=Y[k * 2]?/\X[k * 2+1]?=Y[k * 2+1]?):X=Y:=by
 apply List.ext_getElem?
 intro m
 by_cases hm:m < n * 2
 ·have:=h (m / 2) (by omega)
  rcases Nat.mod_two_eq_zero_or_one m with e | e
  ·rw [show m=m / 2 * 2 by omega];exact this.1
  ·rw [show m=m / 2 * 2+1 by omega];exact this.2
 ·rw [List.getElem?_eq_none (by omega),List.getElem?_eq_none (by omega)]
theorem RowAt.open {B:Nat} {w:World} {bx:Nat} {l:LI} (h:RowAt B w bx l)(hl:0 < l.length):∃ g cap cur,w.heap[bx]?=some (.cells #[.slice (some ⟨g,0,none⟩) l.length cap] 224 (0,0))/\B<=g/\g ≠ bx/\w.heap[g]?=some (.cells cur 227 (0,0))/\l.length<=cap/\cap<=maxLen/\cur.size=cap * 2 /\
  ∀ k,k < l.length->cur[k * 2]?=some (.int .i64 (l.getD k (0,0)).1)/\cur[k * 2+1]?=some (.int .i64 (l.getD k (0,0)).2):=by
 obtain ⟨h0,v,h1,⟨h2,h3⟩,h4⟩:=h
 rcases h3 with ⟨_,h3⟩ | ⟨g,cap,cur,rfl,q1,q2,q3,q4,q5,q6⟩
 ·omega
 ·refine ⟨g,cap,cur,h1,q1,fun e=>h4 (by rw [e];rfl),q2,q3,q4,q5,fun k hk=>?_⟩
  have e:=cellsOf_get l k hk
  rw [<- q6] at e
  rw [List.getElem?_take,List.getElem?_take,if_pos (by omega),if_pos (by omega)] at e
  simpa using e
theorem RowAt.shut {B:Nat} {w:World} {bx:Nat} {l:LI} {g cap:Nat} {cur:Array Value} (h0:B<=bx)(h1:w.heap[bx]?=some (.cells #[.slice (some ⟨g,0,none⟩) l.length cap] 224 (0,0)))(q1:B<=g)(h4:g ≠ bx)(q2:w.heap[g]?=some (.cells cur 227 (0,0)))(q3:l.length<=cap)(q4:cap<=maxLen)(q5:cur.size=cap * 2)
  (hc:∀ k,k < l.length->cur[k * 2]?=some (.int .i64 (l.getD k (0,0)).1)/\cur[k * 2+1]?=some (.int .i64 (l.getD k (0,0)).2)):RowAt B w bx l:=by
 refine ⟨h0,_,h1,⟨cellsOf_len l,.inr ⟨g,cap,cur,rfl,q1,q2,q3,q4,q5,?_⟩⟩,fun e=>h4 (by simpa [Value.ownBlock] using e)⟩
 refine ext2 (n:=l.length) (by simp;omega) (cellsOf_len l) fun k hk=>?_
 have e:=cellsOf_get l k hk
 have d:=hc k hk
 rw [e.1,e.2,List.getElem?_take,List.getElem?_take,if_pos (by omega),if_pos (by omega)]
 simpa using d
theorem RowAt.drewN {B:Nat} {w:World} {bx:Nat} {l:LI} (h:RowAt B w bx l)(q:Nat):RowAt B (w.drewN q) bx l:=h
theorem Bel.drewN {B bx:Nat} {a w:World} (h:Bel B bx a w)(q:Nat):Bel B bx a (w.drewN q):=h.trans ⟨⟨rfl,rfl,rfl,Nat.le_refl _,fun _ _=>rfl⟩,fun _ _ _ _=>rfl,.inl rfl⟩
theorem ok1 (B bx:Nat):Ok1 B bx:=by
 refine ⟨fun w l v h hv=>?_,fun w l v i j h hv hi hj=>?_,fun w l v i j h hv hi hj=>?_⟩
 ·obtain ⟨h0,v',h1,⟨h2,h3⟩,h4⟩:=id h
  have:v=v':=by
   have:w.cell? ⟨bx,0,none⟩=some v':=by simp [World.cell?,h1]
   rw [this] at hv;exact (Option.some.inj hv).symm
  subst this
  obtain ⟨a,cap,rfl⟩:∃ a cap,v=.slice a l.length cap:=by
   rcases h3 with ⟨rfl,e⟩ | ⟨g,cap,cur,rfl,_⟩
   ·rw [e];exact ⟨_,_,rfl⟩
   ·exact ⟨_,_,rfl⟩
  exact (len_ok w a l.length cap).mono fun e w' ⟨h5,h6⟩=>by subst h6;exact ⟨h5,h,Bel.refl _ _ _⟩
 ·obtain ⟨g,cap,cur,h1,q1,h4,q2,q3,q4,q5,hc⟩:=h.open (by omega)
  have:v=.slice (some ⟨g,0,none⟩) l.length cap:=by
   have:w.cell? ⟨bx,0,none⟩=some (.slice (some ⟨g,0,none⟩) l.length cap):=by simp [World.cell?,h1]
   rw [this] at hv;exact (Option.some.inj hv).symm
  subst this
  have hcell:∀ o,w.cell? ⟨g,o,none⟩=cur[o]?:=fun o=>cell_of_row w g o cur 227 (0,0) q2
  refine (less_ok w g l.length cap i j hi hj _ _ _ _ ((hcell _).trans (hc i hi).1) ((hcell _).trans (hc i hi).2) ((hcell _).trans (hc j hj).1) ((hcell _).trans (hc j hj).2)).mono ?_
  rintro e w' ⟨h5,q,rfl⟩
  exact ⟨h5,h.drewN q,(Bel.refl _ _ _).drewN q⟩
 ·obtain ⟨g,cap,cur,h1,q1,h4,q2,q3,q4,q5,hc⟩:=h.open (by omega)
  have:v=.slice (some ⟨g,0,none⟩) l.length cap:=by
   have:w.cell? ⟨bx,0,none⟩=some (.slice (some ⟨g,0,none⟩) l.length cap):=by simp [World.cell?,h1]
   rw [this] at hv;exact (Option.some.inj hv).symm
  subst this
  have hcell:∀ o,w.cell? ⟨g,o,none⟩=cur[o]?:=fun o=>cell_of_row w g o cur 227 (0,0) q2
  have hfz:∀ o,w.frozen? ⟨g,o,none⟩=false:=fun o=>frozen_of_row w g o cur 227 q2
  refine (swap_ok w g l.length cap i j hi hj _ _ _ _ ((hcell _).trans (hc i hi).1) ((hcell _).trans (hc i hi).2) ((hcell _).trans (hc j hj).1) ((hcell _).trans (hc j hj).2) (hfz _) (hfz _) (hfz _) (hfz _)).mono ?_
  rintro e w' ⟨h5,rfl⟩
  have hoth:∀ k,k ≠ g->((((w.setCell ⟨g,i * 2,none⟩ (.int .i64 (l.getD j (0,0)).1)).setCell ⟨g,i * 2+1,none⟩ (.int .i64 (l.getD j (0,0)).2)).setCell ⟨g,j * 2,none⟩ (.int .i64 (l.getD i (0,0)).1)).setCell ⟨g,j * 2+1,none⟩ (.int .i64 (l.getD i (0,0)).2)).drew.heap[k]?=w.heap[k]?:=fun k hk=>by
   rw [heap_drew,heap_setCell_other _ _ _ _ hk,heap_setCell_other _ _ _ _ hk,heap_setCell_other _ _ _ _ hk,heap_setCell_other _ _ _ _ hk]
  have hrb:rowBlk w bx=some g:=by simp [rowBlk,World.cell?,h1,Value.ownBlock]
  refine ⟨h5,?_,(((((Below.refl _ _).setCell q1 _).setCell q1 _).setCell q1 _).setCell q1 _).drew,fun k _ _ hk=>hoth k (fun e=>hk (by rw [hrb,e])),.inl ?_⟩
  case refine_2=>unfold rowBlk;rw [World.cell?_of_block (hoth bx (Ne.symm h4))]
  have e1:=heap_setCell_same _ g (j * 2+1) _ _ (.int .i64 (l.getD i (0,0)).2) (heap_setCell_same _ g (j * 2) _ _ (.int .i64 (l.getD i (0,0)).1) (heap_setCell_same _ g (i * 2+1) _ _ (.int .i64 (l.getD j (0,0)).2) (heap_setCell_same _ g (i * 2) _ _ (.int .i64 (l.getD j (0,0)).1) q2)))
  refine RowAt.shut h.1 (g:=g) (cap:=cap) ?_ q1 h4 e1 ?_ q4 (by simpa using q5) fun k hk=>?_
  ·rw [heap_drew,heap_setCell_other _ _ _ _ (Ne.symm h4),heap_setCell_other _ _ _ _ (Ne.symm h4),heap_setCell_other _ _ _ _ (Ne.symm h4),heap_setCell_other _ _ _ _ (Ne.symm h4),h1,hSwap_len]
  ·rw [hSwap_len];exact q3
  ·rw [hSwap_len] at hk
   have hck:=hc k hk
   have hlt:=(Array.getElem?_eq_some_iff.1 (hc k hk).2).1
   simp only [Array.getElem?_setIfInBounds,Array.size_setIfInBounds,hSwap,List.getD_eq_getElem?_getD,List.getElem?_set,List.length_set] at hck ⊢
   by_cases ej:j=k
   ·subst ej
    have:¬ (j * 2+1=j * 2):=by omega
    simp [hk,this,hlt,show j * 2 < cur.size by omega]
   ·by_cases ei:i=k
    ·subst ei
     have a1:¬ (j * 2+1=i * 2):=by omega
     have a2:¬ (j * 2=i * 2):=by omega
     have a3:¬ (i * 2+1=i * 2):=by omega
     have a4:¬ (j * 2+1=i * 2+1):=by omega
     have a5:¬ (j * 2=i * 2+1):=by omega
     have a6:¬ (i * 2=i * 2+1):=by omega
     simp [ej,a1,a2,a3,a4,a5,a6,hk,hlt,show i * 2 < cur.size by omega]
    ·have a1:¬ (j * 2+1=k * 2):=by omega
     have a2:¬ (j * 2=k * 2):=by omega
     have a3:¬ (i * 2+1=k * 2):=by omega
     have a4:¬ (j * 2+1=k * 2+1):=by omega
     have a5:¬ (j * 2=k * 2+1):=by omega
     have a6:¬ (i * 2+1=k * 2+1):=by omega
     have a7:¬ (i * 2=k * 2):=by omega
     have a8:¬ (i * 2=k * 2+1):=by omega
     simp only [ej,ei,a1,a2,a3,a4,a5,a6,a7,a8,if_false]
     exact hck
end Go.Proofs.Due
namespace Go.Proofs.Due
open Go.RowKit Go.Proofs Go.Eng
set_option maxRecDepth 100000
set_option maxHeartbeats 1000000
theorem tA (x:Value)(w:World):(Instr.typeAssert (.iface 227 x) 20 227 false).run Tryz.prog w=.ok x w:=by kernel_rfl
theorem inf227:∃ i:TypeInfo,Tryz.prog.info? 227=some i/\i.zero=some (.agg #[.int .i64 0,.int .i64 0])/\i.size=2/\i.bytes=16:=by
 have h:(Tryz.prog.info? 227).map (fun i=>(i.zero,i.size,i.bytes))=some (some (.agg #[.int .i64 0,.int .i64 0]),2,16):=by kernel_rfl
 obtain ⟨i,h1,h2⟩:=Option.map_eq_some_iff.1 h
 simp only [Prod.mk.injEq] at h2
 exact ⟨i,h1,h2⟩
theorem own_far {w w':World} {B:Nat} {e:TypeId} {s n:Nat} {v:Value} {xs:List Value} (h:w.ownsRow B e s v n xs)(hb:∀ g,v.ownBlock=some g->w'.heap[g]?=w.heap[g]?):w'.ownsRow B e s v n xs:=by
 refine ⟨h.1,?_⟩
 rcases h.2 with h2 | ⟨g,cap,cur,rfl,q1,q2,q3⟩
 ·exact .inl h2
 ·exact .inr ⟨g,cap,cur,rfl,q1,(hb g rfl).trans q2,q3⟩
theorem cellsOf_snoc (l:LI)(a b:Int):cellsOf (l++[(a,b)])=cellsOf l++[.int .i64 a,.int .i64 b]:=by simp [cellsOf]
theorem push_ok (B bx:Nat)(w:World)(l:LI)(a b:Int)(hlen:l.length < 1048576)(h:RowAt B w bx l) :
  Calls Tryz.prog 217 #[.pointer (some ⟨bx,0,none⟩),.iface 227 (.agg #[.int .i64 a,.int .i64 b])] w fun e w'=>e=.returned (.tuple #[])/\RowAt B w' bx (l++[(a,b)])/\Bel B bx w w':=by
 obtain ⟨h0,v,h1,h2,h3⟩:=id h
 have hv:w.cell? ⟨bx,0,none⟩=some v:=by simp [World.cell?,h1]
 have hf:w.frozen? ⟨bx,0,none⟩=false:=frozen_of_row w bx 0 _ 224 h1
 have hT:=tA (.agg #[.int .i64 a,.int .i64 b])
 have hL:=lv bx v
 obtain ⟨i,i1,i2,i3,i4⟩:=inf227
 have hlt:bx < w.heap.size:=World.block_lt_of_cell? w ⟨bx,0,none⟩ hv
 obtain ⟨W,hW⟩:∃ W,W=(w.alloc (Obj.cells #[Value.int IntKind.i64 a,Value.int IntKind.i64 b] 227)).drew:=⟨_,rfl⟩
 have w1:W.heap[w.heap.size]?=some (.cells #[Value.int IntKind.i64 a,Value.int IntKind.i64 b] 227 (0,0)):=by rw [hW,heap_drew];exact heap_alloc_new w _
 have w2:∀ k,k < w.heap.size->W.heap[k]?=w.heap[k]?:=fun k hk=>by rw [hW,heap_drew];exact Below.heap_alloc w _ k hk
 have w3:W.heap.size=w.heap.size+1:=by rw [hW];exact Array.size_push _
 have h2':W.ownsRow B 227 2 v l.length (cellsOf l):=own_far h2 fun g hg=>w2 g (h2.lt g hg).2
 have hbel:Below B w W:=by rw [hW];exact ((Below.refl _ _).alloc (by omega) _).drew
 go_enter Tryz.func217,Tryz.ntmps217
 go_region_law (
  rw [<- hW]
  refine step_append_lies W rfl (.tmp 7) (.tmp 10) 224 rfl B 227 i _ 2 16 Tryz.underlying224 i1 i2 i3 i4 rfl (by omega) v l.length (cellsOf l) rfl h2' ⟨w.heap.size,0,none⟩ 1 1 [.int .i64 a,.int .i64 b] rfl rfl (World.news_of_block w1) (by simp [Value.oneCell']) (by omega) (by simp only [maxLen];omega) (by omega) (by omega) _ rfl ?_
  intro g cap w5 hown hgrow hat hlt5
  have n1:w5.heap[bx]?=some (.cells #[v] 224 (0,0)):=by rw [hgrow.block bx (by omega) (fun e=>h3 e.symm),w2 bx hlt];exact h1
  have n2:w5.cell? ⟨bx,0,none⟩=some v:=by simp [World.cell?,n1]
  have n3:w5.frozen? ⟨bx,0,none⟩=false:=frozen_of_row w5 bx 0 _ 224 n1)
 all_goals go_wp2
 all_goals go_end0
 all_goals
  have hgb:g ≠ bx:=by
   rcases hat with q | q
   ·exact fun e=>h3 (by rw [q,e])
   ·omega
  refine ⟨rfl,⟨h0,_,heap_setCell_same w5 bx 0 _ 224 _ n1,?_,fun e=>hgb (by simpa [Value.ownBlock] using e)⟩,(hbel.grown hgrow (by omega) (fun k hk=>(h2.lt k hk).1)).setCell h0 _,fun k k1 k2 k3=>?_,?_⟩
  case refine_2 =>
   have hrb:rowBlk w bx=v.ownBlock:=by simp [rowBlk,hv]
   rw [heap_setCell_other _ _ _ _ k2,hgrow.block k (by omega) (fun e=>k3 (by rw [hrb,e])),w2 k k1]
  case refine_3 =>
   have hrb:rowBlk w bx=v.ownBlock:=by simp [rowBlk,hv]
   have hrb2:rowBlk (w5.setCell ⟨bx,0,none⟩ (.slice (some ⟨g,0,none⟩) (l.length+1) cap)) bx=some g:=by
    unfold rowBlk
    rw [World.cell?_setCell_same _ _ _ n2];rfl
   rw [hrb,hrb2]
   rcases hat with q | q
   ·exact .inl q.symm
   ·exact .inr fun k e=>by cases e;omega
  rw [cellsOf_snoc,List.length_append]
  exact own_far hown fun g' hg=>heap_setCell_other _ _ _ _ (by simp [Value.ownBlock] at hg;subst hg;exact hgb)
theorem pop_ok (B bx:Nat)(w:World)(l:LI)(hl:0 < l.length)(hlen:l.length < 1048576)(h:RowAt B w bx l) :
  Calls Tryz.prog 216 #[.pointer (some ⟨bx,0,none⟩)] w fun e w'=>e=.returned (.iface 227 (.agg #[.int .i64 (l.getD (l.length - 1) (0,0)).1,.int .i64 (l.getD (l.length - 1) (0,0)).2]))/\RowAt B w' bx (l.take (l.length - 1))/\Bel B bx w w':=by
 obtain ⟨g,cap,cur,h1,q1,h4,q2,q3,q4,q5,hc⟩:=h.open hl
 obtain ⟨n,hn⟩:∃ n,l.length=n+1:=⟨l.length - 1,by omega⟩
 have h0:=h.1
 obtain ⟨c1,c2⟩:=hc n (by omega)
 have hcell:∀ o,w.cell? ⟨g,o,none⟩=cur[o]?:=fun o=>cell_of_row w g o cur 227 (0,0) q2
 rw [<- hcell] at c1 c2
 have hsame:∀ k,k < n->(l.take n).getD k (0,0)=l.getD k (0,0):=fun k hk=>by
  rw [List.getD_eq_getElem?_getD,List.getD_eq_getElem?_getD,List.getElem?_take,if_pos hk]
 rw [show l.length - 1=n by omega]
 rw [hn] at h1 q3
 have htl:(l.take n).length=n:=by simp;omega
 have hck:∀ k,k < n->cur[k * 2]?=some (.int .i64 ((l.take n).getD k (0,0)).1)/\cur[k * 2+1]?=some (.int .i64 ((l.take n).getD k (0,0)).2):=fun k hk=>by rw [hsame k hk];exact hc k (by omega)
 obtain ⟨x1,hx1⟩:∃ x,(l.getD n (0,0)).1=x:=⟨_,rfl⟩
 obtain ⟨x2,hx2⟩:∃ x,(l.getD n (0,0)).2=x:=⟨_,rfl⟩
 rw [hx1] at c1 ⊢
 rw [hx2] at c2 ⊢
 have hv:w.cell? ⟨bx,0,none⟩=some (.slice (some ⟨g,0,none⟩) (n+1) cap):=by simp [World.cell?,h1]
 have hf:w.frozen? ⟨bx,0,none⟩=false:=frozen_of_row w bx 0 _ 224 h1
 have hL:=lv bx (.slice (some ⟨g,0,none⟩) (n+1) cap)
 have hbl:bx < w.heap.size:=World.block_lt_of_cell? w ⟨bx,0,none⟩ hv
 have hgl:g < w.heap.size:=World.block_lt_of_cell? w ⟨g,n * 2,none⟩ c1
 have hfin:RowAt B ((w.setCell ⟨bx,0,none⟩ (.slice (some ⟨g,0,none⟩) n cap)).alloc (Obj.cells #[.int .i64 x1,.int .i64 x2] 227)) bx (l.take n)/\Bel B bx w ((w.setCell ⟨bx,0,none⟩ (.slice (some ⟨g,0,none⟩) n cap)).alloc (Obj.cells #[.int .i64 x1,.int .i64 x2] 227)):=by
  have hsz:(w.setCell ⟨bx,0,none⟩ (.slice (some ⟨g,0,none⟩) n cap)).heap.size=w.heap.size:=by simp [World.setCell]
  refine ⟨RowAt.shut h0 (g:=g) (cap:=cap) (cur:=cur) ?_ q1 h4 ?_ (by omega) q4 q5 (by rw [htl];exact hck),((Below.refl _ _).setCell h0 _).alloc (by rw [hsz];omega) _,fun k k1 k2 k3=>by rw [Below.heap_alloc _ _ _ (by rw [hsz];exact k1),heap_setCell_other _ _ _ _ k2],.inl ?_⟩
  case refine_3 =>
   have hrb:rowBlk w bx=some g:=by simp [rowBlk,hv,Value.ownBlock]
   rw [hrb]
   unfold rowBlk
   rw [World.cell?_of_block (w:=w.setCell ⟨bx,0,none⟩ (.slice (some ⟨g,0,none⟩) n cap)) (Below.heap_alloc _ _ _ (by rw [hsz];exact hbl)),World.cell?_setCell_same _ _ _ hv];rfl
  ·rw [Below.heap_alloc _ _ _ (by rw [hsz];exact hbl),htl];exact heap_setCell_same w bx 0 _ 224 _ h1
  ·rw [Below.heap_alloc _ _ _ (by rw [hsz];exact hgl),heap_setCell_other _ _ _ _ h4];exact q2
 have ww:IntKind.i64.wrap (((n:Int)+1) - 1)=(n:Int):=by show w64 _=_;rw [w64_eq (by omega) (by omega)];omega
 clear hck hc hsame hx1 hx2 htl h q2 hl hcell
 go_enter Tryz.func216,Tryz.ntmps216
 go_wp2
 go_ret
 exact ⟨rfl,hfin⟩
end Go.Proofs.Due
namespace Go.Proofs.Due
open Go.RowKit Go.Proofs Go.Eng
set_option maxRecDepth 100000
set_option maxHeartbeats 1000000
theorem hPush_ok (B bx:Nat)(w:World)(l:LI)(a b:Int)(hlen:l.length < 1048576)(h:RowAt B w bx l) :
  Calls Tryz.prog 121 #[hV bx,.iface 227 (.agg #[.int .i64 a,.int .i64 b])] w fun e w'=>e=.returned (.tuple #[])/\RowAt B w' bx (hPush l (a,b))/\Bel B bx w w':=by
 have mP:=mPush bx w
 obtain ⟨n,hn⟩:∃ n,l.length=n:=⟨_,rfl⟩
 have hn2:(l++[(a,b)]).length=n+1:=by simp [hn]
 have ww:IntKind.i64.wrap (((n+1:Nat):Int) - 1)=(n:Int):=by show w64 _=_;rw [w64_eq (by omega) (by omega)];omega
 have ww':IntKind.i64.wrap (((n:Int)+1) - 1)=(n:Int):=by show w64 _=_;rw [w64_eq (by omega) (by omega)];omega
 have hp:=push_ok B bx w l a b hlen h
 have hu:∀ w2,RowAt B w2 bx (l++[(a,b)])->Calls Tryz.prog 148 #[hV bx,.int .i64 n] w2 fun e w'=>e=.returned (.tuple #[])/\RowAt B w' bx (hPush l (a,b))/\Bel B bx w2 w':=fun w2 h2=>by
  unfold hPush
  rw [hn]
  exact up_ok B bx (ok1 B bx) w2 _ n (by omega) (by omega) h2
 have hl:=fun w2 v (h2:RowAt B w2 bx (l++[(a,b)])) h3=>(ok1 B bx).1 w2 _ v h2 h3
 rw [hn2] at hl
 clear h hn2
 go_enter Tryz.func121,Tryz.ntmps121
 go_wp2_with (first
  | (go_at_call 217;refine hp.mono ?_;rintro e w1 ⟨rfl,r1,b1⟩;obtain ⟨v1,hv1⟩:=r1.cell;have mL:=mLen bx v1 w1 hv1)
  | (go_at_call 122;refine (hl w1 v1 r1 hv1).mono ?_;rintro e w2 ⟨rfl,r2,b2⟩)
  | (go_at_call 148;refine (hu w2 r2).mono ?_;rintro e w3 ⟨rfl,r3,b3⟩))
 go_end0
 exact ⟨rfl,r3,(b1.trans b2).trans b3⟩
theorem hDown_len:∀ (m:Nat)(l:LI)(i n:Nat),(hDown m l i n).length=l.length
 | 0,_,_,_=>rfl
 | m+1,l,i,n=>by
  unfold hDown
  cases Nat.ble n (2 * i+1) with
  | true=>rfl
  | false =>
   simp only [cond_false]
   generalize (bif Nat.ble (2 * i+3) n && hLess (l.getD (2 * i+2) (0,0)) (l.getD (2 * i+1) (0,0)) then 2 * i+2 else 2 * i+1)=j
   cases hLess (l.getD j (0,0)) (l.getD i (0,0)) with
   | true=>simp only [cond_true];rw [hDown_len,hSwap_len]
   | false=>rfl
theorem hPop_walk (B bx n : Nat) (hnb : n < 1048576) (w : World) (l L1 L2 L3 : LI) (x1 x2 : Int) (v : Value) (mL : (Go.method 437 222 (.pointer (some ⟨bx, 0, none⟩)) "Len").run Tryz.prog w = .ok (122, v) w)
  (a1:Calls Tryz.prog 122 #[v] w fun e w'=>e=.returned (.int .i64 ((n+1:Nat):Int))/\RowAt B w' bx l/\Bel B bx w w')
  (a2:∀ w2 v,RowAt B w2 bx l->w2.cell? ⟨bx,0,none⟩=some v->Calls Tryz.prog 218 #[v,.int .i64 0,.int .i64 n] w2 fun e w'=>e=.returned (.tuple #[])/\RowAt B w' bx L1/\Bel B bx w2 w')
  (a3:∀ w2,RowAt B w2 bx L1->Calls Tryz.prog 149 #[hV bx,.int .i64 0,.int .i64 n] w2 fun e w'=>IsB e/\RowAt B w' bx L2/\Bel B bx w2 w')
  (a4:∀ w2,RowAt B w2 bx L2->Calls Tryz.prog 216 #[.pointer (some ⟨bx,0,none⟩)] w2 fun e w'=>e=.returned (.iface 227 (.agg #[.int .i64 x1,.int .i64 x2]))/\RowAt B w' bx L3/\Bel B bx w2 w') :
  Calls Tryz.prog 123 #[hV bx] w fun e w'=>e=.returned (.iface 227 (.agg #[.int .i64 x1,.int .i64 x2]))/\RowAt B w' bx L3/\Bel B bx w w':=by
 have ww:IntKind.i64.wrap (((n+1:Nat):Int) - 1)=(n:Int):=by show w64 _=_;rw [w64_eq (by omega) (by omega)];omega
 have ww':IntKind.i64.wrap (((n:Int)+1) - 1)=(n:Int):=by show w64 _=_;rw [w64_eq (by omega) (by omega)];omega
 go_enter Tryz.func123,Tryz.ntmps123
 go_wp2_with (first
  | (go_at_call 122;refine a1.mono ?_;rintro e w1 ⟨rfl,r1,b1⟩;obtain ⟨v1,hv1⟩:=r1.cell;have mS:=mSwap bx v1 w1 hv1)
  | (go_at_call 218;refine (a2 w1 v1 r1 hv1).mono ?_;rintro e w2 ⟨rfl,r2,b2⟩)
  | (go_at_call 149;refine (a3 w2 r2).mono ?_;rintro e w3 ⟨⟨vb,rfl⟩,r3,b3⟩;have mP:=mPop bx w3)
  | (go_at_call 216;refine (a4 w3 r3).mono ?_;rintro e w4 ⟨rfl,r4,b4⟩))
 go_ret
 exact ⟨rfl,r4,((b1.trans b2).trans b3).trans b4⟩
theorem hPop_ok (B bx:Nat)(w:World)(l:LI)(hl:0 < l.length)(hlen:l.length < 1048576)(h:RowAt B w bx l) :
  Calls Tryz.prog 123 #[hV bx] w fun e w'=>e=.returned (.iface 227 (.agg #[.int .i64 (hPop l).2.1,.int .i64 (hPop l).2.2]))/\RowAt B w' bx (hPop l).1/\Bel B bx w w':=by
 obtain ⟨n,hn⟩:∃ n,l.length=n+1:=⟨l.length - 1,by omega⟩
 obtain ⟨v,hv⟩:=h.cell
 have mL:=mLen bx v w hv
 have ww:IntKind.i64.wrap (((n+1:Nat):Int) - 1)=(n:Int):=by show w64 _=_;rw [w64_eq (by omega) (by omega)];omega
 have ww':IntKind.i64.wrap (((n:Int)+1) - 1)=(n:Int):=by show w64 _=_;rw [w64_eq (by omega) (by omega)];omega
 have a1:=(ok1 B bx).1 w _ v h hv
 have a2:∀ w2 v,RowAt B w2 bx l->w2.cell? ⟨bx,0,none⟩=some v->Calls Tryz.prog 218 #[v,.int .i64 0,.int .i64 n] w2 fun e w'=>e=.returned (.tuple #[])/\RowAt B w' bx (hSwap l 0 n)/\Bel B bx w2 w' :=
  fun w2 v h2 h3=>(ok1 B bx).2.2 w2 l v 0 n h2 h3 (by omega) (by omega)
 have a3:∀ w2,RowAt B w2 bx (hSwap l 0 n)->Calls Tryz.prog 149 #[hV bx,.int .i64 0,.int .i64 n] w2 fun e w'=>IsB e/\RowAt B w' bx (hDown n (hSwap l 0 n) 0 n)/\Bel B bx w2 w' :=
  fun w2 h2=>down_ok B bx (ok1 B bx) w2 _ n (by rw [hSwap_len];omega) (by rw [hSwap_len];omega) h2
 have a4:∀ w2,RowAt B w2 bx (hDown n (hSwap l 0 n) 0 n)->Calls Tryz.prog 216 #[.pointer (some ⟨bx,0,none⟩)] w2 fun e w'=>e=.returned (.iface 227 (.agg #[.int .i64 (hPop l).2.1,.int .i64 (hPop l).2.2]))/\RowAt B w' bx (hPop l).1/\Bel B bx w2 w':=fun w2 h2=>by
  have hL:(hDown n (hSwap l 0 n) 0 n).length=n+1:=by rw [hDown_len,hSwap_len,hn]
  have:=pop_ok B bx w2 _ (by omega) (by omega) h2
  rw [hL] at this
  unfold hPop
  rw [hn,hDown_fuel (n+1) n _ 0 _ (by omega) (by omega)]
  exact this
 rw [hn] at a1
 exact hPop_walk B bx n (by omega) w l _ _ _ _ _ v mL a1 a2 a3 a4
end Go.Proofs.Due
namespace Go.Proofs.Due
open Go.RowKit Go.Proofs Go.Eng
set_option maxRecDepth 100000
set_option maxHeartbeats 1000000
theorem RowAt.of {B:Nat} {w w':World} {bx:Nat} {l:LI} (h:RowAt B w bx l)(hs:∀ k,k < w.heap.size->w'.heap[k]?=w.heap[k]?):RowAt B w' bx l:=by
 obtain ⟨h0,v,h1,h2,h3⟩:=h
 have hlt:bx < w.heap.size:=by
  rcases Nat.lt_or_ge bx w.heap.size with q | q
  ·exact q
  ·rw [Array.getElem?_eq_none q] at h1;cases h1
 exact ⟨h0,v,(hs bx hlt).trans h1,own_far h2 fun g hg=>hs g (h2.lt g hg).2,h3⟩
theorem RowAt.lt {B:Nat} {w:World} {bx:Nat} {l:LI} (h:RowAt B w bx l):bx < w.heap.size/\B<=w.heap.size:=by
 obtain ⟨h0,v,h1,h2,h3⟩:=h
 have hlt:bx < w.heap.size:=by
  rcases Nat.lt_or_ge bx w.heap.size with q | q
  ·exact q
  ·rw [Array.getElem?_eq_none q] at h1;cases h1
 exact ⟨hlt,by omega⟩
theorem inf3:∃ i:TypeInfo,Tryz.prog.info? 3=some i/\i.zero=some (.int .i64 0)/\i.size=1/\i.bytes=8:=by
 have h:(Tryz.prog.info? 3).map (fun i=>(i.zero,i.size,i.bytes))=some (some (.int .i64 0),1,8):=by kernel_rfl
 obtain ⟨i,h1,h2⟩:=Option.map_eq_some_iff.1 h
 simp only [Prod.mk.injEq] at h2
 exact ⟨i,h1,h2⟩
theorem tF (x1 x2:Int)(w:World):(Instr.field 227 (.agg #[.int .i64 x1,.int .i64 x2]) 1).run Tryz.prog w=.ok (.int .i64 x2) w:=by kernel_rfl
structure Hold (p:Prop):Prop where
 out:p
theorem RowAt.of2 {B:Nat} {w w':World} {bx:Nat} {l:LI} (h:RowAt B w bx l)(h1:w'.heap[bx]?=w.heap[bx]?)(h2:∀ g,rowBlk w bx=some g->w'.heap[g]?=w.heap[g]?):RowAt B w' bx l:=by
 obtain ⟨q0,v,q1,q2,q3⟩:=h
 have hrb:rowBlk w bx=v.ownBlock:=by simp [rowBlk,World.cell?,q1]
 exact ⟨q0,v,h1.trans q1,own_far q2 fun g hg=>h2 g (hrb.trans hg),q3⟩
theorem RowAt.blk {B:Nat} {w:World} {bx:Nat} {l:LI} (h:RowAt B w bx l) {g:Nat} (hg:rowBlk w bx=some g):g < w.heap.size:=by
 obtain ⟨q0,v,q1,q2,q3⟩:=h
 have hrb:rowBlk w bx=v.ownBlock:=by simp [rowBlk,World.cell?,q1]
 exact (q2.lt g (hrb.symm.trans hg)).2
theorem hUp_len:∀ (m:Nat)(l:LI)(j:Nat),(hUp m l j).length=l.length
 | 0,_,_=>rfl
 | m+1,l,j=>by
  unfold hUp
  cases Nat.beq j 0 with
  | true=>rfl
  | false =>
   simp only [cond_false]
   cases hLess (l.getD j (0,0)) (l.getD ((j - 1) / 2) (0,0)) with
   | true=>simp only [cond_true];rw [hUp_len,hSwap_len]
   | false=>rfl
theorem hDrain_len:∀ (m:Nat)(l:LI),(hDrain m l).length=m
 | 0,_=>rfl
 | m+1,l=>by simp [hDrain,hDrain_len m]
theorem hPush_len (l:LI)(x:Int × Int):(hPush l x).length=l.length+1:=by unfold hPush;rw [hUp_len];simp
theorem hPop_len (l:LI)(h:0 < l.length):(hPop l).1.length=l.length - 1:=by
 unfold hPop
 simp only [List.length_take]
 rw [hDown_len,hSwap_len];omega
def PayAt (w:World)(b o:Nat)(p:KPayX.T):Prop :=
 w.cell? ⟨b,o,none⟩=some (.int .i64 p.1)/\w.cell? ⟨b,o+1,none⟩=some (.int .i64 p.2.1)/\w.cell? ⟨b,o+2,none⟩=some (.int .i64 p.2.2.1)/\w.cell? ⟨b,o+3,none⟩=some (.int .i64 p.2.2.2.1) /\
 w.cell? ⟨b,o+4,none⟩=some (.int .i64 p.2.2.2.2.1)/\w.cell? ⟨b,o+5,none⟩=some (.int .i64 p.2.2.2.2.2.1)/\w.cell? ⟨b,o+6,none⟩=some (.int .i64 p.2.2.2.2.2.2.1)/\w.cell? ⟨b,o+7,none⟩=some (.int .i64 p.2.2.2.2.2.2.2)
theorem all_ok (w:World)(ps:List KPayX.T)(n cap b off:Nat)(a:Option Addr)(hn:ps.length=n)(hlim:n < 1048576)(ha:0 < n->a=some ⟨b,off,none⟩/\b < w.heap.size)
  (hc:∀ k p,ps[k]?=some p->PayAt w b (off+k * 8) p) :
  Calls Tryz.prog 83 #[.slice a n cap] w fun e w'=>∃ v,e=.returned v/\Below w.heap.size w w'/\w'.ownsRow w.heap.size 3 1 v (dueAll ps).length ((dueAll ps).map (.int .i64)):=by
 obtain ⟨B,hB⟩:∃ B,w.heap.size=B:=⟨_,rfl⟩
 obtain ⟨DA,hDA⟩:∃ x,dueAll ps=x:=⟨_,rfl⟩
 rw [hDA]
 have hDA':DA=hDrain (duePush 0 ps []).length (duePush 0 ps []):=hDA.symm
 clear hDA
 have h0:∀ W0,W0=((w.alloc (Obj.cells #[] 227)).alloc (Obj.cells #[Value.slice (some ⟨B,0,none⟩) 0 0] 224))->RowAt B W0 (B+1) []/\Below B w W0:=fun W0 hW=>by
  subst hW hB
  refine ⟨⟨by omega,_,?_,⟨rfl,.inr ⟨w.heap.size,0,#[],rfl,by omega,?_,by simp,by simp [maxLen],rfl,rfl⟩⟩,?_⟩,((Below.refl _ _).alloc (by omega) _).alloc (by show _<=(w.heap.push _).size;rw [Array.size_push];omega) _⟩
  ·exact heap_alloc2_new w _ _
  ·exact heap_alloc2_old w _ _
  ·simp [Value.ownBlock]
 go_enter Tryz.func83,Tryz.ntmps83
 go_wp2
 generalize hW:((w.alloc (Obj.cells #[] 227)).alloc (Obj.cells #[Value.slice (some ⟨B,0,none⟩) 0 0] 224))=W0
 obtain ⟨r0,b0⟩:=h0 W0 hW.symm
 clear h0 hW
 go_loopw [11] (fun v wr=>∃ (k:Nat) (lk:LI),v=.int .i64 k/\k<=n/\lk.length<=k/\RowAt B wr (B+1) lk/\Below B w wr/\duePush k (ps.drop k) lk=duePush 0 ps []) (fun v wr=>match v with | .int _ x=>n - x.toNat | _=>0)
 case atStart=>exact ⟨0,[],rfl,by omega,by simp,r0,b0,by simp⟩
 case round =>
  obtain ⟨k,lk,rfl,hk,hlk,hr,hb,hd⟩:=hrel
  by_cases hkn:k < n
  ·obtain ⟨rfl,hbB⟩:=ha (by omega)
   have hp:ps[k]?=some ps[k]:=List.getElem?_eq_getElem (by omega)
   obtain ⟨⟨p0,p1,p2,p3,p4,p5,p6,p7⟩,hpe⟩:∃ p,p=ps[k]:=⟨_,rfl⟩
   rw [<- hpe] at hp
   have hpay:=hc k _ hp
   unfold PayAt at hpay
   simp only at hpay
   obtain ⟨c0,c1,c2,c3,c4,c5,c6,c7⟩:=hpay
   rw [<- hb.cell (by simpa [hB] using hbB)] at c0 c1 c2 c3 c4 c5 c6 c7
   have hdr:ps.drop k=(p0,p1,p2,p3,p4,p5,p6,p7)::ps.drop (k+1):=by rw [hpe];exact List.drop_eq_getElem_cons (by omega)
   have hst:duePush (k+1) (ps.drop (k+1)) (bif decide (p7=(0:Int)) then hPush lk (p6,(k:Int)) else lk)=duePush 0 ps []:=by rw [<- hd,hdr];rfl
   have ww:IntKind.i64.wrap ((k:Int)+1)=((k+1:Nat):Int):=by show w64 _=_;rw [w64_eq (by omega) (by omega)];omega
   clear hd hdr hp hpe hc ha hDA'
   by_cases h7:p7=0
   ·subst h7
    simp only [decide_true,cond_true] at hst
    go_wp2_with (go_at_call 121;refine (hPush_ok B (B+1) _ lk p6 k (by omega) (hr.of (fun j hj=>Below.heap_alloc _ _ j hj))).mono ?_;rintro e w1 ⟨rfl,r1,b1⟩)
    refine ⟨⟨k+1,_,by simp,by omega,?_,r1,(hb.alloc hr.lt.2 _).trans b1.bel,hst⟩,?_⟩
    ·rw [hPush_len];omega
    ·simp only;omega
   ·have h7':(p7 == (0:Int))=false:=beq_eq_false_iff_ne.2 h7
    rw [decide_eq_false h7,cond_false] at hst
    go_wp2
    refine ⟨⟨k+1,lk,by simp,by omega,by omega,hr.of (fun j hj=>Below.heap_alloc _ _ j hj),hb.alloc hr.lt.2 _,hst⟩,?_⟩
    simp only;omega
  ·have hkn':k=n:=by omega
   subst hkn'
   rw [List.drop_of_length_le (by omega)] at hd
   have hda:DA=hDrain lk.length lk:=by
    rw [hDA',<- hd];rfl
   have hlkb:lk.length < 1048576:=by omega
   have hdl:Hold (DA.length < 1048576):=⟨by rw [hda,hDrain_len];omega⟩
   clear hc ha hd r0 b0 hlk hDA'
   go_wp2
   go_loopw [6] (fun v wr2=>∃ (l2:LI) (out:List Int),wr2.ownsRow B 3 1 v out.length (out.map (.int .i64))/\RowAt B wr2 (B+1) l2/\Below B w wr2/\v.ownBlock ≠ some (B+1)/\(∀ g,v.ownBlock=some g->rowBlk wr2 (B+1) ≠ some g)/\l2.length < 1048576/\out.length < 1048576/\DA=out++hDrain l2.length l2) (fun v wr=>match v with | .slice _ m _=>DA.length - m | _=>0)
   case atStart=>exact ⟨lk,[],World.ownsRow_nil _ _ _ _,hr,hb,by simp [Value.ownBlock],fun g hg=>by simp [Value.ownBlock] at hg,hlkb,by simp,by simpa using hda⟩
   case round =>
    obtain ⟨l2,out,ho,hr2,hb2,hs1,hs2,hl2,hol,hd2⟩:=hrel
    obtain ⟨vr,hvr⟩:=hr2.cell
    have hL:=lv (B+1) vr
    have hlen:=(ok1 B (B+1)).1 _ l2 vr hr2 hvr
    by_cases hz:l2=[]
    ·subst hz
     go_wp2_with (go_at_call 122;refine hlen.mono ?_;rintro e w1 ⟨rfl,r1,b1⟩)
     go_ret
     refine ⟨u6,rfl,by rw [hB];exact hb2.trans b1.bel,?_⟩
     rw [hB,show DA=out by rw [hd2];simp [hDrain]]
     exact own_far ho fun g hg=>b1.far g (ho.lt g hg).2 (fun e=>hs1 (by rw [hg,e])) (hs2 g hg)
    ·have hpos:0 < l2.length:=List.length_pos_iff.2 hz
     obtain ⟨m,hm⟩:∃ m,l2.length=m:=⟨_,rfl⟩
     have hp0:(0:Int) < (m:Int):=by omega
     have hpop:=fun w2 (h2:RowAt B w2 (B+1) l2)=>hPop_ok B (B+1) w2 l2 hpos hl2 h2
     have hd3:DA=(out++[(hPop l2).2.2])++hDrain (hPop l2).1.length (hPop l2).1:=by
      rw [hd2,hPop_len l2 hpos]
      obtain ⟨q,hq⟩:∃ q,l2.length=q+1:=⟨l2.length - 1,by omega⟩
      rw [hq]
      simp [hDrain]
     have hob:out.length+1 < 1048576:=by
      have:=hdl.out
      rw [hd2,List.length_append] at this
      obtain ⟨q,hq⟩:∃ q,l2.length=q+1:=⟨l2.length - 1,by omega⟩
      rw [hq] at this
      simp [hDrain] at this
      omega
     have hlp:(hPop l2).1.length < 1048576:=by rw [hPop_len l2 hpos];omega
     generalize hPop l2=PP at hpop hd3 hlp
     obtain ⟨L3,x1,x2⟩:=PP
     simp only at hpop hd3 hlp
     have hDl:DA.length=out.length+1+(hDrain L3.length L3).length:=by rw [hd3];simp;omega
     have hT:=tA (.agg #[.int .i64 x1,.int .i64 x2])
     rw [hm] at hlen
     have hF:=tF x1 x2
     obtain ⟨i3,e1,e2,e3,e4⟩:=inf3
     have hall:Hold (DA=(out++[x2])++hDrain L3.length L3/\L3.length < 1048576/\DA.length=out.length+1+(hDrain L3.length L3).length/\out.length+1 < 1048576):=⟨hd3,hlp,hDl,hob⟩
     clear hd2 hz hl2 hda hlkb hDl hd3 hlp hob
     go_wp2_with (first
      | (go_at_call 122;refine hlen.mono ?_;rintro e w1 ⟨rfl,r1,b1⟩)
      | (go_at_call 123;refine (hpop w1 r1).mono ?_;rintro e w2 ⟨rfl,r2,b2⟩)
      | (at_builtin;go_loud (refine wpList_append_lies (w2.alloc (Obj.cells #[.int .i64 x2] 3)) rfl (.tmp 33) (.tmp 39) 72 rfl B 3 i3 _ 1 8 Tryz.underlying72 e1 e2 e3 e4 rfl (by omega) u6 out.length (out.map (.int .i64)) (by rfl) (own_far ho fun g hg=>(Below.heap_alloc _ _ g (Nat.lt_of_lt_of_le (ho.lt g hg).2 (b1.trans b2).bel.size)).trans ((b1.trans b2).far g (ho.lt g hg).2 (fun e=>hs1 (by rw [hg,e])) (hs2 g hg))) ⟨w2.heap.size,0,none⟩ 1 1 [.int .i64 x2] (by rfl) rfl (World.news_of_block (heap_alloc_new w2 _)) (by simp [Value.oneCell']) (by omega) (by simp only [maxLen];omega) (by omega) (by have:=r2.lt.2;show _<=(w2.heap.push _).size;rw [Array.size_push];omega) _ rfl ?_);intro g5 cap5 w5 hown5 hgrow5 hat5 hlt5))
     obtain ⟨g1,g2,g3,g4⟩:=hall.out
     have hsz:(w2.alloc (Obj.cells #[.int .i64 x2] 3)).heap.size=w2.heap.size+1:=Array.size_push _
     have hB12:=b1.trans b2
     have hu6:∀ k,u6.ownBlock=some k->k < wr.heap.size:=fun k hk=>(ho.lt k hk).2
     have hbx:w5.heap[B+1]?=w2.heap[B+1]?:=by
      rw [hgrow5.block (B+1) (by have:=r2.lt.1;omega) (fun e=>hs1 e.symm),Below.heap_alloc _ _ _ r2.lt.1]
     have hrb:rowBlk w5 (B+1)=rowBlk w2 (B+1):=by unfold rowBlk;rw [World.cell?_of_block hbx]
     have hsep:∀ k,u6.ownBlock=some k->rowBlk w2 (B+1) ≠ some k:=fun k hk e=>by
      rcases hB12.row with q | q
      ·exact hs2 k hk (q ▸ e)
      ·have:=q k e
       have:=hu6 k hk
       omega
     refine ⟨⟨L3,out++[x2],by simpa using hown5,r2.of2 hbx (fun g hg=>?_),?_,fun e=>?_,fun g hg e=>?_,g2,by simpa using g4,g1⟩,?_⟩
     ·rw [hgrow5.block g (by have:=r2.blk hg;omega) (fun e=>hsep g e.symm hg),Below.heap_alloc _ _ _ (r2.blk hg)]
     ·exact (((hb2.trans hB12.bel).alloc (by have:=r2.lt.2;omega) _)).grown hgrow5 (by have:=r2.lt.2;omega) fun k hk=>(ho.lt k hk).1
     ·have e':g5=B+1:=by simpa [Value.ownBlock] using e
      rcases hat5 with q | q
      ·exact hs1 (by rw [q,e'])
      ·have:=r2.lt.1
       omega
     ·have e':g5=g:=by simpa [Value.ownBlock] using hg
      subst e'
      rw [hrb] at e
      rcases hat5 with q | q
      ·exact hsep _ q e
      ·have:=r2.blk e
       omega
     ·clear hown5 hgrow5 hat5
      rcases ho.2 with ⟨q,q'⟩ | ⟨g,cap',cur,q,_⟩
      ·subst q
       simp only
       omega
      ·subst q
       simp only
       omega
end Go.Proofs.Due
namespace Go.Proofs.Due
open Go.RowKit Go.Proofs Go.Eng
set_option maxRecDepth 100000
set_option maxHeartbeats 1000000
def lenAt (w:World)(v:Value):Int:=match v with
 | .pointer (some a)=>match w.cell? a with | some (.slice _ n _)=>(n:Int) | _=>0
 | _=>0
def seenW (wt:MapEntry->Int):List MapEntry->Array Nat->Int
 | [],_=>0
 | x::l,seen=>(if seen.contains x.born then wt x else 0)+seenW wt l seen
theorem seenW_other (wt:MapEntry->Int)(seen:Array Nat)(b:Nat):∀ (es:List MapEntry),b ∉ es.map (·.born)->seenW wt es (seen.push b)=seenW wt es seen
 | [],_=>rfl
 | x::l,h=>by
  have hx:(x.born == b)=false:=by
   cases hc:x.born == b with
   | false=>rfl
   | true=>exact absurd (List.mem_cons.2 (Or.inl (beq_iff_eq.1 hc).symm)) h
  have ih:=seenW_other wt seen b l (fun e=>h (List.mem_cons.2 (Or.inr e)))
  simp only [seenW,contains_push,hx,Bool.or_false,ih]
theorem seenW_push (wt:MapEntry->Int)(seen:Array Nat)(e:MapEntry)(hs:seen.contains e.born=false):∀ (es:List MapEntry),(es.map (·.born)).Nodup->e ∈ es->seenW wt es (seen.push e.born)=seenW wt es seen+wt e
 | x::l,hn,he=>by
  have hn':x.born ∉ l.map (·.born)/\(l.map (·.born)).Nodup:=List.nodup_cons.1 hn
  rcases List.mem_cons.1 he with rfl | h
  ·simp only [seenW,contains_push,hs,beq_self_eq_true,Bool.or_true,if_true,Bool.false_eq_true,if_false,seenW_other wt seen e.born l hn'.1]
   omega
  ·have hx:(x.born == e.born)=false:=by
    cases hc:x.born == e.born with
    | false=>rfl
    | true=>exact absurd (by rw [beq_iff_eq.1 hc];exact List.mem_map.2 ⟨e,h,rfl⟩) hn'.1
   simp only [seenW,contains_push,hx,Bool.or_false,seenW_push wt seen e hs l hn'.2 h]
   omega
theorem seenW_full (wt:MapEntry->Int)(seen:Array Nat):∀ (es:List MapEntry),(∀ x ∈ es,seen.contains x.born=true)->seenW wt es seen=(es.map wt).sum
 | [],_=>rfl
 | x::l,h=>by
  simp only [seenW,h x (List.mem_cons.2 (Or.inl rfl)),if_true,List.map_cons,List.sum_cons,seenW_full wt seen l (fun y hy=>h y (List.mem_cons.2 (Or.inr hy)))]
theorem seenW_none (wt:MapEntry->Int):∀ (es:List MapEntry),seenW wt es #[]=0
 | []=>rfl
 | x::l=>by
  have:(#[]:Array Nat).contains x.born=false:=by simp
  simp only [seenW,this,Bool.false_eq_true,if_false,seenW_none wt l]
  rfl
theorem lv156 (a:Addr)(v:Value)(w:World)(h:w.cell? a=some v):(loadVar 156 a).run Tryz.prog w=.ok v w:=by
 simp [loadVar,isAgg,underlying,Tryz.underlying156,h,Result.andThen]
theorem lv22 (a:Addr)(v:Value)(w:World)(h:w.cell? a=some v):(loadVar 22 a).run Tryz.prog w=.ok v w:=by
 simp [loadVar,isAgg,underlying,Tryz.underlying22,h,Result.andThen]
theorem used_ok (bd bm:Nat)(es:Array MapEntry)(clock:Nat)(w:World)(wt:MapEntry->Int)(hd:w.cell? ⟨bd,0,none⟩=some (.map (some bm)))(hb:w.heap[bm]?=some (.map es clock))(hst:MapKept.Stamped es clock)
  (hv:∀ x ∈ es.toList,∃ bf a n cap,x.val=.pointer (some ⟨bf,0,none⟩)/\w.cell? ⟨bf,0,none⟩=some (.slice a n cap)/\wt x=n) :
  Calls Tryz.prog 139 #[.pointer (some ⟨bd,0,none⟩)] w fun e w'=>e=.returned (.int .i64 (w64 (es.toList.map wt).sum))/\Below w.heap.size w w':=by
 have hrg:=run_range_map (P:=Tryz.prog) w 156 3 219 bm es clock Tryz.underlying156 hb
 have hL:=lv156 ⟨bd,0,none⟩ _ w hd
 go_enter Tryz.func139,Tryz.ntmps139
 go_wp2
 obtain ⟨r,hr⟩:∃ r,w.heap.size=r:=⟨_,rfl⟩
 have hst0:(w.alloc (.mapIter (some bm) clock #[] clock)).heap[r]?=some (.mapIter (some bm) clock #[] clock):=by rw [<- hr];exact heap_alloc_new w _
 have hb0:Below w.heap.size w (w.alloc (.mapIter (some bm) clock #[] clock)):=(Below.refl _ _).alloc (Nat.le_refl _) _
 generalize w.alloc (.mapIter (some bm) clock #[] clock)=wa at hst0 hb0 ⊢
 rw [hr]
 clear hrg hL hd
 have hbr:bm < r:=by
  rw [<- hr]
  rcases Nat.lt_or_ge bm w.heap.size with q | q
  ·exact q
  ·rw [Array.getElem?_eq_none q] at hb;cases hb
 go_loopw [3] (fun s w'=>∃ (seen:Array Nat) (c0:Nat),w'.heap[r]?=some (.mapIter (some bm) clock seen c0)/\clock<=c0/\Below w.heap.size w w'/\s=.int .i64 (w64 (seenW wt es.toList seen))) (fun _ w'=>(leftOf es (w'.iterSeen r)).size)
 case atStart=>exact ⟨#[],clock,hst0,Nat.le_refl _,hb0,by rw [seenW_none];rfl⟩
 case round =>
  obtain ⟨seen,c0,hri,hc0,hbw,rfl⟩:=hrel
  have hb1:wr.heap[bm]?=some (.map es clock):=by rw [hbw.block bm (by omega)];exact hb
  rcases run_next_at (P:=Tryz.prog) wr 0 r bm clock c0 seen es clock hri hb1 hst.1 hc0 with ⟨h0,hrun⟩ | ⟨e,he,w1,hal,hrun⟩
  ·have hnx:∀ ty,(Instr.next (.pointer (some ⟨r,0,none⟩)) false ty).run Tryz.prog wr=_:=fun _=>hrun
   have hS:seenW wt es.toList seen=(es.toList.map wt).sum:=seenW_full wt seen _ (all_seen es seen h0)
   rw [hS]
   clear hS
   go_wp2
   go_ret
   exact ⟨rfl,hbw⟩
  ·obtain ⟨bf,a,n,cap,hval,hcf,hwt⟩:=hv e (mem_left he).1
   rw [hval] at hrun
   have hb1':Below w.heap.size w w1/\w1.heap=wr.heap:=by
    rcases hal with rfl | rfl
    ·exact ⟨hbw,rfl⟩
    ·exact ⟨hbw.drew,rfl⟩
   have hrl:r < w1.heap.size:=by
    rw [hb1'.2]
    rcases Nat.lt_or_ge r wr.heap.size with q | q
    ·exact q
    ·rw [Array.getElem?_eq_none q] at hri;cases hri
   obtain ⟨w2,hw2⟩:∃ w2,Go.ChangeMaps.setBlock w1 r (.mapIter (some bm) clock (seen.push e.born) clock)=w2:=⟨_,rfl⟩
   have hw2r:w2.heap[r]?=some (.mapIter (some bm) clock (seen.push e.born) clock):=by
    rw [<- hw2];simp [Go.ChangeMaps.setBlock,hrl]
   have hw2o:∀ k,k ≠ r->w2.heap[k]?=w1.heap[k]?:=fun k hk=>by
    rw [<- hw2];simp [Go.ChangeMaps.setBlock,Array.getElem?_setIfInBounds,Ne.symm hk]
   have hb2:Below w.heap.size w w2:=by
    refine hb1'.1.trans ⟨by rw [<- hw2];rfl,by rw [<- hw2];rfl,by rw [<- hw2];rfl,by rw [<- hw2];simp [Go.ChangeMaps.setBlock],fun k hk=>hw2o k (by omega)⟩
   rw [hw2] at hrun
   have hnx:∀ ty,(Instr.next (.pointer (some ⟨r,0,none⟩)) false ty).run Tryz.prog wr=_:=fun _=>hrun
   have hb3:w2.heap[bm]?=some (.map es clock):=by rw [hb2.block bm (by omega)];exact hb
   have hen:=run_entry_at (P:=Tryz.prog) w2 r bm clock seen es clock e hw2r hb3 (mem_left he).1 hst.2.1
   rw [hval] at hen
   have hfl:bf < w.heap.size:=World.block_lt_of_cell? w ⟨bf,0,none⟩ hcf
   have hc2:w2.cell? ⟨bf,0,none⟩=some (.slice a n cap):=by
    rw [hb2.cell hfl]
    exact hcf
   have hL2:=lv22 ⟨bf,0,none⟩ _ _ hc2
   have hsum:seenW wt es.toList (seen.push e.born)=seenW wt es.toList seen+n:=by
    rw [seenW_push wt seen e (mem_left he).2 es.toList hst.2.1 (mem_left he).1,hwt]
   have hmeas:(leftOf es (w2.iterSeen r)).size < (leftOf es (wr.iterSeen r)).size:=by
    rw [show w2.iterSeen r=seen.push e.born by unfold World.iterSeen;rw [hw2r],show wr.iterSeen r=seen by unfold World.iterSeen;rw [hri]]
    exact left_shrinks es seen e he
   obtain ⟨S0,hS0⟩:∃ x,seenW wt es.toList seen=x:=⟨_,rfl⟩
   rw [hS0] at hsum ⊢
   clear hS0 hrun hri hw2 hal hb1'
   go_wp2
   go_roundw
   case rel =>
    refine ⟨seen.push e.born,clock,hw2r,Nat.le_refl _,hb2,?_⟩
    rw [hsum]
    obtain ⟨q1,a1,a2,a3⟩:=w64_spec S0
    obtain ⟨q2,b1,b2,b3⟩:=w64_spec (S0+(n:Int))
    congr 1
    simp only [Go.RowKit.wrap64] at *
    omega
   case measure=>exact hmeas
end Go.Proofs.Due
namespace Go.Proofs.Due
open Go.RowKit Go.Proofs Go.Eng
set_option maxRecDepth 100000
set_option maxHeartbeats 1000000
theorem ins_nil (w:World):Calls Tryz.prog 170 #[.slice none 0 0,.int .i64 0,.int .i64 0] w fun e w'=>e=.returned (.tuple #[])/\w'=w:=by
 go_enter Tryz.func170,Tryz.ntmps170
 go_wp2
 refine wp_loop_rounds 1 ?_
 rw [rounds_succ]
 go_wp2
 go_end0
 exact ⟨rfl,rfl⟩
theorem pdq_nil (w:World)(lim:Value):Calls Tryz.prog 166 #[.slice none 0 0,.int .i64 0,.int .i64 0,lim] w fun e w'=>e=.returned (.tuple #[])/\w'=w:=by
 go_enter Tryz.func166,Tryz.ntmps166
 go_wp2
 refine wp_loop_rounds 1 ?_
 rw [rounds_succ]
 go_wp2_with (go_at_call 170;refine (ins_nil _).mono ?_;rintro e w2 ⟨rfl,rfl⟩)
 refine bodyPost_ret (results_none rfl _ _ _) rfl ?_
 exact ⟨rfl,rfl⟩
theorem ssort_nil (w:World):Calls Tryz.prog 161 #[.slice none 0 0] w fun e w'=>e=.returned (.tuple #[])/\w'=w:=by
 go_enter Tryz.func161,Tryz.ntmps161
 go_wp2_with (first | (go_at_call 166;refine (pdq_nil _ _).mono ?_;rintro e w2 ⟨rfl,rfl⟩) | go_in)
 go_end0
 exact ⟨rfl,rfl⟩
theorem ints_nil (w:World):Calls Tryz.prog 144 #[.slice none 0 0] w fun e w'=>e=.returned (.tuple #[])/\w'=w:=by
 go_enter Tryz.func144,Tryz.ntmps144
 go_wp2_with (go_at_call 161;refine (ssort_nil _).mono ?_;rintro e w2 ⟨rfl,rfl⟩)
 go_end0
 exact ⟨rfl,rfl⟩
theorem names_ok (bd bm:Nat)(clock:Nat)(w:World)(hd:w.cell? ⟨bd,0,none⟩=some (.map (some bm)))(hb:w.heap[bm]?=some (.map #[] clock)) :
  Calls Tryz.prog 112 #[.pointer (some ⟨bd,0,none⟩)] w fun e w'=>e=.returned (.slice none 0 0)/\Below w.heap.size w w':=by
 have hrg:=run_range_map (P:=Tryz.prog) w 156 3 219 bm #[] clock Tryz.underlying156 hb
 have hL:=lv156 ⟨bd,0,none⟩ _ w hd
 have hbr:bm < w.heap.size:=by
  rcases Nat.lt_or_ge bm w.heap.size with q | q
  ·exact q
  ·rw [Array.getElem?_eq_none q] at hb;cases hb
 have hnx:∀ ty,(Instr.next (.pointer (some ⟨w.heap.size,0,none⟩)) false ty).run Tryz.prog (w.alloc (.mapIter (some bm) clock #[] clock))=.ok (.tuple #[.bool false]) (w.alloc (.mapIter (some bm) clock #[] clock)):=fun ty=>by
  rcases run_next_at (P:=Tryz.prog) (w.alloc (.mapIter (some bm) clock #[] clock)) ty w.heap.size bm clock clock #[] #[] clock (heap_alloc_new w _) (by rw [Below.heap_alloc _ _ _ hbr];exact hb) (by simp) (Nat.le_refl _) with ⟨_,h⟩ | ⟨e,he,_⟩
  ·exact h
  ·have:=(mem_left he).1
   simp at this
 have hb0:Below w.heap.size w (w.alloc (.mapIter (some bm) clock #[] clock)):=(Below.refl _ _).alloc (Nat.le_refl _) _
 go_enter Tryz.func112,Tryz.ntmps112
 go_wp2
 refine wp_loop_rounds 1 ?_
 rw [rounds_succ]
 go_wp2_with (go_at_call 144;refine (ints_nil _).mono ?_;rintro e w2 ⟨rfl,rfl⟩)
 go_ret
 exact ⟨rfl,hb0⟩
end Go.Proofs.Due
namespace Go.Proofs.Due
open Go.RowKit Go.Proofs Go.Eng
set_option maxRecDepth 100000
section
variable {P:Int × Int->Prop}
theorem hSwap_all (h0:P (0,0)) {l:LI} (h:∀ x ∈ l,P x)(i j:Nat):∀ x ∈ hSwap l i j,P x:=by
 have hg:∀ k,P (l.getD k (0,0)):=fun k=>by
  rw [List.getD_eq_getElem?_getD]
  cases hk:l[k]? with
  | none=>exact h0
  | some y=>exact h y (List.mem_of_getElem? hk)
 intro x hx
 unfold hSwap at hx
 rcases List.mem_or_eq_of_mem_set hx with hx | rfl
 ·rcases List.mem_or_eq_of_mem_set hx with hx | rfl
  ·exact h x hx
  ·exact hg _
 ·exact hg _
theorem hUp_all (h0:P (0,0)):∀ (m:Nat) {l:LI} (j:Nat),(∀ x ∈ l,P x)->∀ x ∈ hUp m l j,P x
 | 0,l,j,h=>h
 | m+1,l,j,h=>by
  unfold hUp
  cases Nat.beq j 0 with
  | true=>exact h
  | false =>
   simp only [cond_false]
   cases hLess (l.getD j (0,0)) (l.getD ((j - 1) / 2) (0,0)) with
   | true=>exact hUp_all h0 m _ (hSwap_all h0 h _ _)
   | false=>exact h
theorem hDown_all (h0:P (0,0)):∀ (m:Nat) {l:LI} (i n:Nat),(∀ x ∈ l,P x)->∀ x ∈ hDown m l i n,P x
 | 0,l,i,n,h=>h
 | m+1,l,i,n,h=>by
  unfold hDown
  cases Nat.ble n (2 * i+1) with
  | true=>exact h
  | false =>
   simp only [cond_false]
   generalize (bif Nat.ble (2 * i+3) n && hLess (l.getD (2 * i+2) (0,0)) (l.getD (2 * i+1) (0,0)) then 2 * i+2 else 2 * i+1)=j
   cases hLess (l.getD j (0,0)) (l.getD i (0,0)) with
   | true=>exact hDown_all h0 m _ _ (hSwap_all h0 h _ _)
   | false=>exact h
theorem hPush_all (h0:P (0,0)) {l:LI} (h:∀ x ∈ l,P x) {y:Int × Int} (hy:P y):∀ x ∈ hPush l y,P x :=
 hUp_all h0 _ _ fun x hx=>by
  rcases List.mem_append.1 hx with hx | hx
  ·exact h x hx
  ·rw [List.mem_singleton.1 hx];exact hy
theorem hPop_all (h0:P (0,0)) {l:LI} (h:∀ x ∈ l,P x):(∀ x ∈ (hPop l).1,P x)/\P (hPop l).2:=by
 have h2:=hDown_all h0 l.length 0 (l.length - 1) (hSwap_all h0 h 0 (l.length - 1))
 refine ⟨fun x hx=>h2 x (List.mem_of_mem_take hx),?_⟩
 unfold hPop
 simp only [List.getD_eq_getElem?_getD]
 cases hk:(hDown l.length (hSwap l 0 (l.length - 1)) 0 (l.length - 1))[l.length - 1]? with
 | none=>exact h0
 | some y=>exact h2 y (List.mem_of_getElem? hk)
theorem hDrain_all {Q:Int->Prop} (h0:Q 0):∀ (m:Nat) {l:LI},(∀ x ∈ l,Q x.2)->∀ x ∈ hDrain m l,Q x
 | 0,l,h=>by simp [hDrain]
 | m+1,l,h=>by
  have:=hPop_all (P:=fun p=>Q p.2) h0 h
  unfold hDrain
  intro x hx
  rcases List.mem_cons.1 hx with rfl | hx
  ·exact this.2
  ·exact hDrain_all h0 m this.1 x hx
end
theorem duePush_all (n:Nat)(hn:0 < n):∀ (ps:List KPayX.T)(k:Nat)(l:LI),k+ps.length<=n->(∀ x ∈ l,0<=x.2/\x.2 < (n:Int))->∀ x ∈ duePush k ps l,0<=x.2/\x.2 < (n:Int)
 | [],k,l,_,h=>h
 | p::r,k,l,hk,h=>by
  unfold duePush
  simp only [List.length_cons] at hk
  refine duePush_all n hn r (k+1) _ (by omega) ?_
  cases decide (p.2.2.2.2.2.2.2=(0:Int)) with
  | true=>exact hPush_all (P:=fun x=>0<=x.2/\x.2 < (n:Int)) ⟨by omega,by omega⟩ h ⟨by omega,by simp only;omega⟩
  | false=>exact h
theorem dueAll_in (ps:List KPayX.T):∀ x ∈ dueAll ps,0<=x/\x < (ps.length:Int):=by
 cases ps with
 | nil=>intro x hx;simp [dueAll,duePush,hDrain] at hx
 | cons p r=>exact hDrain_all (Q:=fun x=>0<=x/\x < ((p::r).length:Int)) ⟨by omega,by simp only [List.length_cons];omega⟩ _ (duePush_all _ (by simp) (p::r) 0 [] (by simp) (by simp))
theorem coHp_col:∀ {cos:List CoD} {id:Nat} {o:Eng.Obj},coHp cos id=some o->∃ t off m k,∃ (xs:List k.T),o=.col t off m k xs 0 none
 | [],_,_,h=>by cases h
 | d::r,id,o,h=>by
  unfold coHp at h
  split at h
  ·cases h;exact ⟨_,_,_,_,_,rfl⟩
  ·exact coHp_col h
theorem ext_still {te:TE} {w w':World} {Sb S':Nat->Prop} {cos:List CoD} (hbel:∀ b,Sb b->b < w.heap.size)(hb:Below w.heap.size w w')(hS:∀ b,Sb b->S' b):Ext (coC te w Sb cos) (coC te w' S' cos):=by
 refine ⟨rfl,fun b h=>hb.block b (hbel b h),hS,fun id s v hi hr=>?_⟩
 cases s with
 | vw id g =>
  obtain ⟨h1,o,h2,_⟩:=hr
  obtain ⟨t,off,m,k,xs,rfl⟩:=coHp_col h2
  exact ⟨h1,_,h2,fun _ _ _ _ _ e=>by cases e⟩
 | pv id g off len =>
  obtain ⟨h1,o,h2,_⟩:=hr
  obtain ⟨t,off,m,k,xs,rfl⟩:=coHp_col h2
  exact ⟨h1,_,h2,fun _ _ _ _ _ e=>by cases e⟩
 | ptr id g i p =>
  obtain ⟨h1,o,h2,h3,_⟩:=hr
  obtain ⟨t,off,m,k,xs,rfl⟩:=coHp_col h2
  exact ⟨h1,_,h2,h3,fun _ e=>(by cases e),fun _ _ _ _ _ e=>(by cases e)⟩
 | mp id =>
  obtain ⟨h1,o,h2,_⟩:=hr
  obtain ⟨t,off,m,k,xs,rfl⟩:=coHp_col h2
  exact ⟨h1,_,h2,fun e=>by simp [Eng.Obj.isMap] at e⟩
 | bm f id =>
  obtain ⟨p,h1,o,h2,_⟩:=hr
  obtain ⟨t,off,m,k,xs,rfl⟩:=coHp_col h2
  exact ⟨p,h1,_,h2,fun _ e=>by cases e⟩
 | ov cid g i=>exact hr
 | oe cid g i j p=>exact hr
 | rp t i off=>exact hr
 | _=>simp [S.ids] at hi
theorem manOut_still {A:Ann} {te:TE} {w w':World} {Sb S':Nat->Prop} {args:List AV} {bs:List (Option Nat)} {cos:List CoD} (hIn:ManIn A te w Sb bs cos)(hbel:∀ b,Sb b->b < w.heap.size)(hb:Below w.heap.size w w')(hS:∀ b,Sb b->S' b)(hS2:∀ b,S' b->b < w'.heap.size/\(Sb b\/w.heap.size<=b)) :
  ManOut A te te w w' Sb S' args bs cos cos:=by
 have h0:Man A te w ⟨fun b=>some b ∈ bs,Sb,XOf te w Sb cos⟩ (coC te w Sb cos):=by
  refine ⟨hIn.r,fun l b h=>.inr (.inr ⟨l,h⟩),fun t i b arr _ _ _ hB=>⟨arr,hB,rfl,fun _ _=>rfl⟩,TLe.refl _,fun _ _=>rfl,fun _ _=>⟨rfl,rfl⟩,fun _ _ _ h=>.inl h⟩
 have hm:Mem w (here (coC te w Sb cos)) (coC te w' S' cos):=by
  refine ⟨⟨hb.os,hb.tape,hb.output,hb.size,fun b hlt _=>hb.block b hlt⟩,fun b h=>(hS2 b h).1,fun id o ho=>?_,fun id b hl=>?_,fun id id' b hl=>?_,fun b h=>?_,fun b h=>hS b h⟩
  ·obtain ⟨t,off,m,k,xs,rfl⟩:=coHp_col ho
   trivial
  ·obtain ⟨h1,_⟩:=hl;cases h1
  ·obtain ⟨h1,_⟩:=hl;cases h1
  ·rcases (hS2 b h).2 with q | q
   ·exact .inl q
   ·exact .inr (.inl q)
 refine ⟨LR.of_get rfl (fun i a b ha hb=>by rw [ha] at hb;cases hb;exact ⟨rfl,rfl,rfl,rfl,rfl⟩),h0.lift rfl (ext_still hbel hb hS) hm (fun _ _ _ _ _ _ _ _=>Iff.rfl),fun l b hl j k x _ e=>?_⟩
 exact hIn.sep l b (by cases l<;>exact hl) (List.mem_of_getElem? e)
theorem rep_ints {te:TE} {w':World} {Sb:Nat->Prop} {v:Value} {l:List Int} {B:Nat} (ho:w'.ownsRow B 3 1 v l.length (l.map (.int .i64))):RepV (clC te w' (fun b=>Sb b\/v.ownBlock=some b)) (.val false [.sl (.int .i64) l]) v:=by
 refine ⟨_,rfl,?_⟩
 rcases ho.2 with ⟨rfl,h2⟩ | ⟨g,cap,cur,rfl,h1,h2,h3,h4,h5,h6⟩
 ·have:l=[]:=List.length_eq_zero_iff.1 h2
  subst this
  exact ⟨none,0,rfl,Nat.le_refl _,fun h=>(h rfl).elim⟩
 ·refine ⟨_,cap,rfl,h3,fun _=>⟨⟨g,0,none⟩,rfl,rfl,.inr rfl,fun i x hx=>⟨[.int .i64 x],⟨rfl,rfl⟩,fun j u hj=>?_⟩⟩⟩
  have hi:i < l.length:=(List.getElem?_eq_some_iff.1 hx).1
  cases j with
  | succ j=>simp at hj
  | zero =>
   simp only [List.getElem?_cons_zero,Option.some.injEq] at hj
   subst hj
   have e:(cur.toList.take (l.length * 1))[i]?=some (.int .i64 x):=by rw [h6,List.getElem?_map,hx];rfl
   rw [List.getElem?_take,if_pos (by omega)] at e
   show w'.cell? ⟨g,0+i * 1+0,none⟩=_
   rw [cell_of_row w' g _ cur 3 (0,0) h2,show 0+i * 1+0=i by omega]
   simpa using e
theorem args_split {args:List AV} {cos:List CoD} {a:AV} {l:List CoD} (ha:isCo a=false)(hco:∀ a ∈ args,isCo a=false)(h:args++cos.map coAV=a::l.map coAV):args=[a]/\cos=l:=by
 have hj:∀ {x y:CoD},coAV x=coAV y->x=y:=by
  rintro ⟨⟩ ⟨⟩ e
  simp only [coAV,AV.val.injEq,List.cons.injEq,S.co.injEq,and_true,true_and] at e
  obtain ⟨rfl,rfl,rfl,rfl,rfl,e⟩:=e
  cases e
  rfl
 have hm:∀ {x y:List CoD},x.map coAV=y.map coAV->x=y:=by
  intro x
  induction x with
  | nil=>intro y e;cases y with | nil=>rfl | cons _ _=>simp at e
  | cons a x ih =>
   intro y e
   cases y with
   | nil=>simp at e
   | cons b y=>simp only [List.map_cons,List.cons.injEq] at e;rw [hj e.1,ih e.2]
 cases args with
 | nil =>
  cases cos with
  | nil=>simp at h
  | cons d r =>
   simp only [List.nil_append,List.map_cons,List.cons.injEq] at h
   rw [<- h.1] at ha;cases ha
 | cons x r =>
  simp only [List.cons_append,List.cons.injEq] at h
  obtain ⟨rfl,h⟩:=h
  cases r with
  | nil=>exact ⟨rfl,hm (by simpa using h)⟩
  | cons y r =>
   cases l with
   | nil=>simp at h
   | cons d l =>
    simp only [List.cons_append,List.map_cons,List.cons.injEq] at h
    have:=hco y (by simp)
    rw [h.1] at this;cases this
theorem one_val {te:TE} {w:World} {Sb:Nat->Prop} {a:AV} {vs:Array Value} {bs:List (Option Nat)} (h:LR3 (Go.Eng.ArgRel te w Sb) [a] vs.toList bs):∃ v b,vs=#[v]/\bs=[b]/\Go.Eng.ArgRel te w Sb a v b:=by
 match hvs:vs.toList,bs,h with
 | [v],[b],h =>
  exact ⟨v,b,by apply Array.ext';simp [hvs],rfl,h.1⟩
 | [],_,h=>cases h
 | _::_::_,[],h=>cases h
 | _::_::_,_::_,h=>exact h.2.elim
theorem pay_at {te:TE} {w:World} {Sb:Nat->Prop} {p:KPayX.T} {vs:List Value} {b o:Nat} (h:RepT te w Sb KPayX p vs)(ha:At w b o vs):PayAt w b o p:=by
 obtain ⟨p0,p1,p2,p3,p4,p5,p6,p7⟩:=p
 obtain ⟨c0,r0,rfl,⟨rfl,_⟩,c1,r1,rfl,⟨rfl,_⟩,c2,r2,rfl,⟨rfl,_⟩,c3,r3,rfl,⟨rfl,_⟩,c4,r4,rfl,⟨rfl,_⟩,c5,r5,rfl,⟨rfl,_⟩,c6,r6,rfl,⟨rfl,_⟩,rfl,_⟩:=h
 exact ⟨ha 0 _ rfl,ha 1 _ rfl,ha 2 _ rfl,ha 3 _ rfl,ha 4 _ rfl,ha 5 _ rfl,ha 6 _ rfl,ha 7 _ rfl⟩
theorem fn_ok (f : Nat) (h : (match Tryz.prog.funcs[f]? with | some fn => !(fn.name == "runtime.NumGoroutine") && !fn.body.isNone | none => false) = true) : ∃ fn, Tryz.prog.funcs[f]? = some fn /\ (fn.name == "runtime.NumGoroutine") = false /\ fn.body.isNone = false := by
 cases hf:Tryz.prog.funcs[f]? with
 | none=>rw [hf] at h;cases h
 | some fn =>
  rw [hf] at h
  simp only [Bool.and_eq_true,Bool.not_eq_true'] at h
  exact ⟨fn,rfl,h⟩
section
variable {A:Ann} {Gl:Nat->Option Go.Obj}
theorem due_ok {ps:List KPayX.T} {cos:List CoD} {args:List AV} (hco:∀ a ∈ args,isCo a=false)(hargs:args++cos.map coAV=[.val false [.sl KPayX ps]])(hlim:ps.length<=1000000)
  {te:TE} {w:World} {Sb:Nat->Prop} {vs:Array Value} {bs:List (Option Nat)} (hbel:∀ b,Sb b->b < w.heap.size) (hA:LR3 (Go.Eng.ArgRel te w Sb) args vs.toList bs) (hIn:ManIn A te w Sb bs cos) :
  Calls Tryz.prog 83 vs w (fun e w'=>∃ v te' S' cos',e=.returned v/\Res te' (XOf te w Sb cos) (XOf te' w' S' cos') w w' Sb S' args bs ⟨[(false,.slice (.int .i64))],[]⟩ (dueAll ps) v/\ManOut A te te' w w' Sb S' args bs cos cos' /\
    LR (fun (p:Bool × List S) (d:CoD)=>p.2=[.sl d.k d.xs]) ((lvs [K.slice (.int .i64)] (dueAll ps)).drop (1+(ioKs args).length)) cos'):=by
 obtain ⟨rfl,rfl⟩:=args_split (l:=[]) rfl hco hargs
 obtain ⟨v,b,rfl,rfl,rfl,hv⟩:=one_val hA
 have hv:RepT te w Sb (.slice KPayX) ps [v]:=repV_inv hv
 obtain ⟨a,cap,e,hcap,hne⟩:=hv
 simp only [List.cons.injEq,and_true] at e
 subst e
 have hc:∃ b off,(0 < ps.length->a=some ⟨b,off,none⟩/\b < w.heap.size)/\∀ k p,ps[k]?=some p->PayAt w b (off+k * 8) p:=by
  by_cases h0:ps=[]
  ·subst h0
   exact ⟨0,0,fun h=>by simp at h,fun k p h=>by simp at h⟩
  ·obtain ⟨⟨b,off,sp⟩,rfl,hsp,hS,hel⟩:=hne h0
   simp only at hsp
   subst hsp
   exact ⟨b,off,fun _=>⟨rfl,hbel _ hS⟩,fun k p hp=>by
    obtain ⟨vs,h1,h2⟩:=hel k p hp
    exact pay_at h1 h2⟩
 obtain ⟨b,off,h1,h2⟩:=hc
 refine (all_ok w ps ps.length cap b off a rfl (by omega) h1 h2).mono ?_
 rintro e w' ⟨v,rfl,hb,ho⟩
 have hlt:∀ g,v.ownBlock=some g->w.heap.size<=g/\g < w'.heap.size:=fun g hg=>ho.lt g hg
 refine ⟨v,te,fun b=>Sb b\/v.ownBlock=some b,[],rfl,⟨#[v],rfl,⟨hb.os,hb.tape,hb.output,hb.size,fun b hlt _=>hb.block b hlt⟩,fun b hb=>.inl hb,fun b hs=>?_,⟨rep_ints ho,trivial⟩,rfl⟩,
  manOut_still hIn hbel hb (fun b h=>.inl h) (fun b hs=>?_),trivial⟩
 ·rcases hs with hs | hs
  ·exact ⟨Nat.lt_of_lt_of_le (hbel b hs) hb.size,.inl hs⟩
  ·exact ⟨(hlt b hs).2,.inr (.inl (hlt b hs).1)⟩
 ·rcases hs with hs | hs
  ·exact ⟨Nat.lt_of_lt_of_le (hbel b hs) hb.size,.inl hs⟩
  ·exact ⟨(hlt b hs).2,.inr (hlt b hs).1⟩
abbrev KF:K:=.slice (.prod (.int .i64) (.ref 219))
abbrev dF (fs:List (List (Int × Option Nat))):CoD:=⟨1050432,29,0,.mp,KF,fs⟩
abbrev dB (bs:List (List Int)):CoD:=⟨1062592,219,0,.own,.slice (.int .u8),bs⟩
theorem files_at {te:TE} {w:World} {Sb:Nat->Prop} {cos:List CoD} (hM:ManR A (coC te w Sb cos)) {fs:List (List (Int × Option Nat))} (hF:coHp cos 1050432=some (.col 29 0 .mp KF fs 0 none)) {i bd:Nat} (hi:te.ι 29 i=some bd) :
  i < fs.length/\∃ bm ents clock,w.cell? ⟨bd,0,none⟩=some (.map (some bm))/\w.heap[bm]?=some (.map ents clock)/\MapKept.Stamped ents clock/\LR (RepM te (.ref 219)) (fs.getD i []) ents.toList:=by
 obtain ⟨hlt,hh,arr,⟨T,fz,hB,_⟩,_,_⟩:=hM.at hF hi
 obtain ⟨bm,ents,clock,h1,h2,h3,⟨h4,h5⟩,h6⟩:=hM.mpp _ _ _ _ fs _ _ hF i _ (getD_some [] hlt)
 refine ⟨hlt,bm,ents,clock,?_,h3,h5,h4⟩
 have:=h6 bd arr hi ⟨T,fz,hB⟩
 rw [cell_of_row w bd 0 arr T fz hB,this]
 exact congrArg some h2
theorem file_at {te:TE} {w:World} {Sb:Nat->Prop} {cos:List CoD} (hM:ManR A (coC te w Sb cos)) {bs:List (List Int)} (hF:coHp cos 1062592=some (.col 219 0 .own (.slice (.int .u8)) bs 0 none)) {i bd:Nat} (hi:te.ι 219 i=some bd) :
  ∃ a cap,w.cell? ⟨bd,0,none⟩=some (.slice a (bs.getD i []).length cap):=by
 obtain ⟨hlt,hh,arr,⟨T,fz,hB,_⟩,_,_⟩:=hM.at hF hi
 obtain ⟨h1,h2⟩:=hM.own _ _ _ (.int .u8) bs _ _ hF i _ (getD_some [] hlt)
 have h3:=h2 (by simp) bd arr hi ⟨T,fz,hB⟩
 unfold RowArg at h1
 have hc:w.cell? ⟨bd,0,none⟩=some (te.cur 1062592 i):=by rw [cell_of_row w bd 0 arr T fz hB];exact h3
 rw [hc]
 split at h1
 ·obtain ⟨q1,q2⟩:=h1
  have q1:te.cur 1062592 i=_:=q1
  have q2:bs.getD i []=[]:=q2
  rw [q1,q2]
  exact ⟨none,0,rfl⟩
 ·obtain ⟨cap,arr',a,q1,_⟩:=h1
  have q1:te.cur 1062592 i=_:=q1
  rw [q1]
  exact ⟨some a,cap,rfl⟩
theorem usedOf_sum {te:TE} {wt:MapEntry->Int} {bs:List (List Int)}:∀ {es:List (Int × Option Nat)} {ms:List MapEntry},LR (RepM te (.ref 219)) es ms->(∀ e ∈ es,∀ m,RepM te (.ref 219) e m->wt m=((bs.getD (e.2.getD 0) []).length:Int))->w64 (ms.map wt).sum=usedOf bs es
 | [],[],_,_=>rfl
 | e::es,m::ms,h,hw=>by
  have ih:=usedOf_sum h.2 (fun x hx=>hw x (List.mem_cons_of_mem _ hx))
  unfold usedOf
  rw [<- ih,<- hw e (List.mem_cons_self ..) m h.1,List.map_cons,List.sum_cons]
  obtain ⟨q1,a1,a2,a3⟩:=w64_spec (wt m+(ms.map wt).sum)
  obtain ⟨q2,b1,b2,b3⟩:=w64_spec (ms.map wt).sum
  obtain ⟨q3,c1,c2,c3⟩:=w64_spec (wt m+w64 (ms.map wt).sum)
  omega
theorem used_okX {fs:List (List (Int × Option Nat))} {bl:List (List Int)} {r:Option Nat} {rr:Int × List (List (Int × Option Nat)) × List (List Int)} {cos:List CoD} {args:List AV} (hco:∀ a ∈ args,isCo a=false)(hargs:args++cos.map coAV=[.val false [.ref 29 r],coAV (dF fs),coAV (dB bl)])(hu:usedX r fs bl=some rr)
  {te:TE} {w:World} {Sb:Nat->Prop} {vs:Array Value} {bs:List (Option Nat)} (hbel:∀ b,Sb b->b < w.heap.size) (hA:LR3 (Go.Eng.ArgRel te w Sb) args vs.toList bs) (hIn:ManIn A te w Sb bs cos) :
  Calls Tryz.prog 139 vs w (fun e w'=>∃ v te' S' cos',e=.returned v/\Res te' (XOf te w Sb cos) (XOf te' w' S' cos') w w' Sb S' args bs ⟨[(false,.int .i64)],[.slice KF,.slice (.slice (.int .u8))]⟩ rr v/\ManOut A te te' w w' Sb S' args bs cos cos' /\
    LR (fun (p:Bool × List S) (d:CoD)=>p.2=[.sl d.k d.xs]) ((lvs [K.int .i64,.slice KF,.slice (.slice (.int .u8))] rr).drop (1+(ioKs args).length)) cos'):=by
 obtain ⟨rfl,rfl⟩:=args_split (l:=[dF fs,dB bl]) rfl hco hargs
 obtain ⟨v,b,rfl,rfl,rfl,hv⟩:=one_val hA
 have hv:RefV te 29 r v:=repV_inv hv
 cases r with
 | none=>simp [usedX] at hu
 | some i =>
  obtain ⟨bd,hi,rfl⟩:=hv
  cases hall:(fs.getD i []).all (fun e=>e.2.isSome) with
  | false=>simp only [usedX,hall,cond_false] at hu;cases hu
  | true =>
   simp only [usedX,hall,cond_true,Option.some.injEq] at hu
   subst hu
   have hF:coHp [dF fs,dB bl] 1050432=some (.col 29 0 .mp KF fs 0 none):=by simp [coHp]
   have hB:coHp [dF fs,dB bl] 1062592=some (.col 219 0 .own (.slice (.int .u8)) bl 0 none):=by simp [coHp]
   obtain ⟨hlt,bm,ents,clock,h1,h2,h3,h4⟩:=files_at hIn.r hF hi
   have hent:∀ e ∈ fs.getD i [],∀ m,RepM te (.ref 219) e m->∃ bf a cap,m.val=.pointer (some ⟨bf,0,none⟩)/\w.cell? ⟨bf,0,none⟩=some (.slice a (bl.getD (e.2.getD 0) []).length cap):=fun e he m hm=>by
    have hs:=List.all_eq_true.1 hall e he
    obtain ⟨j,hj⟩:=Option.isSome_iff_exists.1 hs
    have h5:RefV te 219 e.2 m.val:=hm.2
    rw [hj] at h5 ⊢
    obtain ⟨bf,q1,q2⟩:=h5
    obtain ⟨a,cap,q3⟩:=file_at hIn.r hB q1
    exact ⟨bf,a,cap,q2,q3⟩
   have hwt:∀ e ∈ fs.getD i [],∀ m,RepM te (.ref 219) e m->lenAt w m.val=((bl.getD (e.2.getD 0) []).length:Int):=fun e he m hm=>by
    obtain ⟨bf,a,cap,q1,q2⟩:=hent e he m hm
    simp only [lenAt,q1,q2]
   refine (used_ok bd bm ents clock w (fun m=>lenAt w m.val) h1 h2 h3 (fun x hx=>?_)).mono ?_
   ·obtain ⟨k,hk⟩:=List.mem_iff_getElem?.1 hx
    have hlen:=h4.length
    have hk1:=(List.getElem?_eq_some_iff.1 hk).1
    obtain ⟨e,he⟩:∃ e,(fs.getD i [])[k]?=some e:=⟨_,List.getElem?_eq_getElem (by omega)⟩
    obtain ⟨m,hm1,hm2⟩:=h4.get k e he
    rw [hk] at hm1
    cases hm1
    obtain ⟨bf,a,cap,q1,q2⟩:=hent e (List.mem_of_getElem? he) x hm2
    exact ⟨bf,a,_,cap,q1,q2,by simp only [lenAt,q1,q2]⟩
   ·rintro e w' ⟨rfl,hb⟩
    rw [usedOf_sum h4 hwt]
    exact ⟨_,te,Sb,[dF fs,dB bl],rfl,⟨#[.int .i64 (usedOf bl (fs.getD i []))],rfl,⟨hb.os,hb.tape,hb.output,hb.size,fun b hlt _=>hb.block b hlt⟩,fun b hb=>hb,fun b hs=>⟨Nat.lt_of_lt_of_le (hbel b hs) hb.size,.inl hs⟩,⟨⟨_,rfl,rfl,rfl⟩,trivial⟩,rfl⟩,
     manOut_still hIn hbel hb (fun b h=>h) (fun b hs=>⟨Nat.lt_of_lt_of_le (hbel b hs) hb.size,.inl hs⟩),⟨rfl,rfl,trivial⟩⟩
theorem names_okX {fs:List (List (Int × Option Nat))} {r:Option Nat} {rr:List Int × List (List (Int × Option Nat))} {cos:List CoD} {args:List AV} (hco:∀ a ∈ args,isCo a=false)(hargs:args++cos.map coAV=[.val false [.ref 29 r],coAV (dF fs)])(hu:namesX r fs=some rr)
  {te:TE} {w:World} {Sb:Nat->Prop} {vs:Array Value} {bs:List (Option Nat)} (hbel:∀ b,Sb b->b < w.heap.size) (hA:LR3 (Go.Eng.ArgRel te w Sb) args vs.toList bs) (hIn:ManIn A te w Sb bs cos) :
  Calls Tryz.prog 112 vs w (fun e w'=>∃ v te' S' cos',e=.returned v/\Res te' (XOf te w Sb cos) (XOf te' w' S' cos') w w' Sb S' args bs ⟨[(false,.slice (.int .i64))],[.slice KF]⟩ rr v/\ManOut A te te' w w' Sb S' args bs cos cos' /\
    LR (fun (p:Bool × List S) (d:CoD)=>p.2=[.sl d.k d.xs]) ((lvs [K.slice (.int .i64),.slice KF] rr).drop (1+(ioKs args).length)) cos'):=by
 obtain ⟨rfl,rfl⟩:=args_split (l:=[dF fs]) rfl hco hargs
 obtain ⟨v,b,rfl,rfl,rfl,hv⟩:=one_val hA
 have hv:RefV te 29 r v:=repV_inv hv
 cases r with
 | none=>simp [namesX] at hu
 | some i =>
  obtain ⟨bd,hi,rfl⟩:=hv
  simp only [namesX] at hu
  split at hu
  ·rename_i hnil
   cases hu
   have hF:coHp [dF fs] 1050432=some (.col 29 0 .mp KF fs 0 none):=by simp [coHp]
   obtain ⟨hlt,bm,ents,clock,h1,h2,h3,h4⟩:=files_at hIn.r hF hi
   rw [hnil] at h4
   have he:ents=#[]:=by
    have:=h4.length
    exact Array.eq_empty_of_size_eq_zero (by simpa using this.symm)
   subst he
   refine (names_ok bd bm clock w h1 h2).mono ?_
   rintro e w' ⟨rfl,hb⟩
   refine ⟨_,te,Sb,[dF fs],rfl,⟨#[.slice none 0 0],rfl,⟨hb.os,hb.tape,hb.output,hb.size,fun b hlt _=>hb.block b hlt⟩,fun b hb=>hb,fun b hs=>⟨Nat.lt_of_lt_of_le (hbel b hs) hb.size,.inl hs⟩,⟨⟨_,rfl,?_⟩,trivial⟩,rfl⟩,
     manOut_still hIn hbel hb (fun b h=>h) (fun b hs=>⟨Nat.lt_of_lt_of_le (hbel b hs) hb.size,.inl hs⟩),⟨rfl,trivial⟩⟩
   exact ⟨none,0,rfl,Nat.le_refl _,fun h=>(h rfl).elim⟩
  ·cases hu
theorem xtop_ok (hnum:∀ (te:TE)(w:World)(Sb:Nat->Prop)(e:Option Int),te.te=A.te->Glob Gl Sb w->Calls Tryz.prog 36 #[errV te e] w fun x w'=>x=.returned (.int .i64 (e.getD 0))/\Below w.heap.size w w'):SoundX Tryz.prog A Gl (XTop 36 83 139 112):=by
 intro sg f args cos rr hco hr
 replace hr:(XTop 36 83 139 112 sg f (args++cos.map coAV)).join=some rr:=hr
 generalize hal:args++cos.map coAV=al at hr
 unfold XTop at hr
 split at hr
 ·rename_i e
  obtain ⟨rfl,rfl⟩:=args_split (l:=[]) (a:=.val false [.err e]) rfl hco hal
  cases hn:Nat.beq f 36 with
  | false=>rw [hn] at hr;cases hr
  | true =>
   have:=Nat.eq_of_beq_eq_true hn
   subst this
   rw [hn] at hr
   have hr:some (e.getD 0)=some rr:=hr
   cases hr
   refine ⟨fn_ok 36 (by kernel_rfl),fun te w Sb vs bs hte hG hbel hA hbs hinj hIn=>?_⟩
   obtain ⟨v,b,rfl,rfl,rfl,hv⟩:=one_val hA
   have hv:v=errV te e:=repV_inv hv
   subst hv
   refine (hnum te w Sb e hte hG).mono ?_
   rintro x w' ⟨rfl,hb⟩
   refine ⟨_,te,Sb,[],rfl,⟨#[.int .i64 (e.getD 0)],rfl,⟨hb.os,hb.tape,hb.output,hb.size,fun b hlt _=>hb.block b hlt⟩,fun b hb=>hb,fun b hs=>⟨Nat.lt_of_lt_of_le (hbel b hs) hb.size,.inl hs⟩,⟨⟨_,rfl,rfl,rfl⟩,trivial⟩,rfl⟩,
    manOut_still hIn hbel hb (fun b h=>h) (fun b hs=>⟨Nat.lt_of_lt_of_le (hbel b hs) hb.size,.inl hs⟩),trivial⟩
 ·rename_i k ps
  cases hn:Nat.beq f 83 with
  | false=>rw [hn] at hr;cases hr
  | true =>
   have:=Nat.eq_of_beq_eq_true hn
   subst this
   rw [hn] at hr
   simp only [cond_true] at hr
   split at hr
   ·rename_i l hl
    unfold cst at hl
    split at hl
    ·rename_i hk
     subst hk
     cases hl
     cases hb:Nat.ble ps.length 1000000 with
     | false=>rw [hb] at hr;cases hr
     | true =>
      rw [hb] at hr
      have hr:some (dueAll ps)=some rr:=hr
      cases hr
      exact ⟨fn_ok 83 (by kernel_rfl),fun te w Sb vs bs hte hG hbel hA hbs hinj hIn=>due_ok hco hal (Nat.le_of_ble_eq_true hb) hbel hA hIn⟩
    ·cases hl
   ·cases hr
 ·rename_i r fs bl
  cases hn:Nat.beq f 139 with
  | false=>rw [hn] at hr;cases hr
  | true =>
   have:=Nat.eq_of_beq_eq_true hn
   subst this
   rw [hn] at hr
   have hr:usedX r fs bl=some rr:=hr
   exact ⟨fn_ok 139 (by kernel_rfl),fun te w Sb vs bs hte hG hbel hA hbs hinj hIn=>used_okX hco hal hr hbel hA hIn⟩
 ·rename_i r fs
  cases hn:Nat.beq f 112 with
  | false=>rw [hn] at hr;cases hr
  | true =>
   have:=Nat.eq_of_beq_eq_true hn
   subst this
   rw [hn] at hr
   have hr:namesX r fs=some rr:=hr
   exact ⟨fn_ok 112 (by kernel_rfl),fun te w Sb vs bs hte hG hbel hA hbs hinj hIn=>names_okX hco hal hr hbel hA hIn⟩
 ·cases hr
end
end Go.Proofs.Due
namespace Go.Eng.Top
open Go.RowKit Go.Eng Go.Eng.LVar Go.Eng.LChart Go.Eng.LEnt
set_option maxRecDepth 100000
theorem left_ev (p:TPayment):Ev1 (fun k=>CF k g_payment_Left n_payment_Left [inj KPayment p]) (leftF p):=by
 refine Ev1.step (fun k=>f_payment_Left k p) ?_
 unfold leftF
 by_cases h:p.2.2.2.2.2.2.2=0
 ·rw [if_pos h];exact Ev1.neg (by rw [decide_eq_true h];rfl) (Ev1.now _)
 ·rw [if_neg h];exact Ev1.pos (by rw [decide_eq_false h];rfl) (Ev1.now _)
theorem gave_ev (p:TPayment):Ev1 (fun k=>CF k g_payment_Gave n_payment_Gave [inj KPayment p]) (gaveF p):=Ev1.step (fun k=>f_payment_Gave k p) (Ev1.now _)
theorem pcap_ev (p:TPayment)(n:Int):Ev1 (fun k=>CF k g_payment_capture n_payment_capture [inj KPayment p,inj I n]) (payOpF 4 p n):=by
 refine Ev1.step (fun k=>f_payment_capture k p n _ rfl) (Ev1.bind (left_ev p) ?_)
 unfold payOpF
 rw [if_pos rfl]
 exact Ev1.iff (fun h=>by rw [if_pos h,<- h];exact Ev1.now _) (fun h=>by rw [if_neg h];exact Ev1.now _)
theorem pref_ev (p:TPayment)(n:Int):Ev1 (fun k=>CF k g_payment_refund n_payment_refund [inj KPayment p,inj I n]) (payOpF 6 p n) :=
 Ev1.step (fun k=>f_payment_refund k p n) (Ev1.bind (gave_ev p) (Ev1.now _))
theorem pchg_ev (p:TPayment)(n:Int):Ev1 (fun k=>CF k g_payment_charge n_payment_charge [inj KPayment p,inj I n]) (payOpF 7 p n) :=
 Ev1.step (fun k=>f_payment_charge k p n) (Ev1.bind (gave_ev p) (Ev1.now _))
theorem pshut_ev (p:TPayment)(n:Int):Ev1 (fun k=>CF k g_payment_shut n_payment_shut [inj KPayment p,inj I n]) (payOpF 5 p n) :=
 Ev1.step (fun k=>f_payment_shut k p n) (Ev1.now _)
theorem number_e (e:Option Int):Ev1 (fun k=>CF k g_ops_number n_ops_number [inj .err e]) (e.getD 0,0) :=
 Ev1.step (fun k=>f_ops_number k e) (Ev1.bind (num_ev e) (Ev1.now _))
theorem ready_ev (g:TSaga):Ev1 (fun k=>CF k g_saga_Ready n_saga_Ready [inj KSaga g]) (decide (g.2.1=0/\g.1.2.2.2.2.2.1<=g.2.2.1)):=by
 refine Ev1.step (fun k=>f_saga_Ready k g) ?_
 by_cases h:g.2.1=0
 ·exact Ev1.posD h (Ev1.const (congrArg some (decide_eq_decide.2 ⟨fun q=>⟨h,q⟩,fun q=>q.2⟩)))
 ·exact Ev1.negD h (Ev1.const (congrArg some (decide_eq_false (fun q=>h q.1)).symm))
theorem agree_ev (g:TSaga):Ev1 (fun k=>CF k g_saga_agree n_saga_agree [inj KSaga g]) (g.1,g.2.1,w64 (g.2.2.1+1),0,g.2.2.2.2):=Ev1.step (fun k=>f_saga_agree k g) (Ev1.now _)
theorem refuse_ev (g:TSaga):Ev1 (fun k=>CF k g_saga_refuse n_saga_refuse [inj KSaga g]) (if 3 < w64 (g.2.2.2.1+1) then (g.1,1,g.2.2.1,w64 (g.2.2.2.1+1),9) else (g.1,g.2.1,g.2.2.1,w64 (g.2.2.2.1+1),g.2.2.2.2)):=by
 refine Ev1.step (fun k=>f_saga_refuse k g _ rfl) ?_
 exact Ev1.iff (fun h=>by rw [if_pos h];exact Ev1.now _) (fun h=>by rw [if_neg h];exact Ev1.now _)
theorem leg_ev (g:TSaga)(ok:Bool):Ev1 (fun k=>CF k g_saga_Leg n_saga_Leg [inj KSaga g,inj .bool ok]) (legF g ok):=by
 refine Ev1.step (fun k=>f_saga_Leg k g ok) ?_
 unfold legF
 by_cases h:g.2.1=0
 ·refine Ev1.neg (by rw [decide_eq_true h];rfl) (Ev1.bind (ready_ev g) ?_)
  by_cases h2:g.1.2.2.2.2.2.1<=g.2.2.1
  ·rw [if_neg (fun q=>q.2 h2)];exact Ev1.posD ⟨h,h2⟩ (Ev1.now _)
  ·rw [if_pos ⟨h,h2⟩]
   refine Ev1.negD (fun q=>h2 q.2) ?_
   cases ok with
   | true=>exact Ev1.bind (agree_ev g) (Ev1.now _)
   | false=>exact Ev1.bind (refuse_ev g) (Ev1.now _)
 ·rw [if_neg (fun q=>h q.1)];exact Ev1.pos (by rw [decide_eq_false h];rfl) (Ev1.now _)
theorem turn_ev (g:TSaga)(c:Int):Ev1 (fun k=>CF k g_saga_Turn n_saga_Turn [inj KSaga g,inj I c]) (turnF g c):=by
 refine Ev1.step (fun k=>f_saga_Turn k g c) ?_
 unfold turnF
 exact Ev1.iff (fun h=>by rw [if_pos h];exact Ev1.now _) (fun h=>by rw [if_neg h];exact Ev1.now _)
theorem begin_ev (r:TRequest):Ev1 (fun k=>CF k g_saga_Begin n_saga_Begin [inj KRequest r]) (r,0,0,0,0):=Ev1.step (fun k=>f_saga_Begin k r) (Ev1.now _)
theorem long_ev (r:TRequest):Ev1 (fun k=>CF k g_request_Long n_request_Long [inj KRequest r]) (decide (long r)):=by
 refine Ev1.step (fun k=>f_request_Long k r) ?_
 by_cases h:0 < r.2.2.2.2.2.1
 ·exact Ev1.posD h (Ev1.const (congrArg some (decide_eq_decide.2 ⟨fun q=>⟨h,q⟩,fun q=>q.2⟩)))
 ·exact Ev1.negD h (Ev1.const (congrArg some (decide_eq_false (fun q=>h q.1)).symm))
theorem may1_ev (r:TRequest):Ev1 (fun k=>h_rM_1 k k r.1 r.2.1 r.2.2.1 r.2.2.2.1 r.2.2.2.2.1 r.2.2.2.2.2.1 r.2.2.2.2.2.2)
  (if r.2.1=0 then decide (0<=r.2.2.1/\r.2.2.1 < 3) else if r.2.1=5 then true else if r.2.1=1\/r.2.1=2\/r.2.1=3\/r.2.1=4\/r.2.1=6\/r.2.1=7 then amtB r.2.2.2.2.1 else false):=by
 have ha:Ev1 (fun k=>CF k g_money_Amount n_money_Amount [inj I r.2.2.2.2.1]) (amtB r.2.2.2.2.1):=Ev1.of_rfl 1 (fun k=>amount_eq k _)
 have h2:Ev2 (fun k m=>h_rM_1 k m r.1 r.2.1 r.2.2.1 r.2.2.2.1 r.2.2.2.2.1 r.2.2.2.2.2.1 r.2.2.2.2.2.2)
  (if r.2.1=0 then decide (0<=r.2.2.1/\r.2.2.1 < 3) else if r.2.1=5 then true else if r.2.1=1\/r.2.1=2\/r.2.1=3\/r.2.1=4\/r.2.1=6\/r.2.1=7 then amtB r.2.2.2.2.1 else false):=by
  refine Ev2.step (fun k m=>h_rM_1_s k m r.1 r.2.1 r.2.2.1 r.2.2.2.1 r.2.2.2.2.1 r.2.2.2.2.2.1 r.2.2.2.2.2.2) ?_
  generalize amtB r.2.2.2.2.1=B at ha ⊢
  refine Ev2.iff (fun h=>?_) (fun h0=>?_)
  ·rw [if_pos h]
   refine Ev2.iff (fun q=>Ev2.const (congrArg some (decide_eq_decide.2 ⟨fun w=>⟨q,w⟩,fun w=>w.2⟩))) (fun q=>Ev2.const (congrArg some (decide_eq_false (fun w=>q w.1)).symm))
  rw [if_neg h0]
  refine Ev2.iff (fun h=>by rw [if_pos h];exact Ev2.now _) (fun h5=>?_)
  rw [if_neg h5]
  refine Ev2.iff (fun h=>by rw [if_pos (by omega)];exact Ev2.posD h (Ev2.bind ha (Ev2.now _))) (fun h1=>?_)
  refine Ev2.iff (fun h=>by rw [if_pos (by omega)];exact Ev2.posD h (Ev2.bind ha (Ev2.now _))) (fun h2=>?_)
  refine Ev2.iff (fun h=>by rw [if_pos (by omega)];exact Ev2.posD h (Ev2.bind ha (Ev2.now _))) (fun h3=>?_)
  refine Ev2.iff (fun h=>by rw [if_pos (by omega)];exact Ev2.posD h (Ev2.bind ha (Ev2.now _))) (fun h4=>?_)
  refine Ev2.iff (fun h=>by rw [if_pos (by omega)];exact Ev2.posD h (Ev2.bind ha (Ev2.now _))) (fun h6=>?_)
  refine Ev2.iff (fun h=>by rw [if_pos (by omega)];exact Ev2.bind ha (Ev2.now _)) (fun h7=>?_)
  rw [if_neg (by omega)]
  exact Ev2.now _
 exact h2.diag
theorem may_ev (r:TRequest):Ev1 (fun k=>CF k g_rM n_rM [inj KRequest r]) (mayB r):=by
 refine Ev1.step (fun k=>f_rM k r) ?_
 have h1:=may1_ev r
 unfold mayB
 generalize (if r.2.1=0 then decide (0<=r.2.2.1/\r.2.2.1 < 3) else if r.2.1=5 then true else if r.2.1=1\/r.2.1=2\/r.2.1=3\/r.2.1=4\/r.2.1=6\/r.2.1=7 then amtB r.2.2.2.2.1 else false)=B at h1 ⊢
 have h2:Ev2 (fun k m=>h_rM k m r.1 r.2.1 r.2.2.1 r.2.2.2.1 r.2.2.2.2.1 r.2.2.2.2.2.1 r.2.2.2.2.2.2) (if 0 < r.2.2.2.2.2.1/\r.2.1 ≠ 2 then false else B):=by
  refine Ev2.step (fun k m=>h_rM_s k m r.1 r.2.1 r.2.2.1 r.2.2.2.1 r.2.2.2.2.1 r.2.2.2.2.2.1 r.2.2.2.2.2.2) ?_
  refine Ev2.iff (fun h=>?_) (fun h=>by rw [if_neg (fun q=>h q.1)];exact h1.drop)
  by_cases hq:r.2.1=2
  ·rw [if_neg (fun q=>q.2 hq)];exact Ev2.neg (by rw [decide_eq_true hq];rfl) h1.drop
  ·rw [if_pos ⟨h,hq⟩];exact Ev2.pos (by rw [decide_eq_false hq];rfl) (Ev2.now _)
 refine Ev1.iff (fun h=>by rw [if_pos (by omega)];exact Ev1.now _) (fun q1=>?_)
 refine Ev1.iff (fun h=>by rw [if_pos (by omega)];exact Ev1.now _) (fun q2=>?_)
 refine Ev1.iff (fun h=>by rw [if_pos (by omega)];exact Ev1.now _) (fun q3=>?_)
 refine Ev1.iff (fun h=>by rw [if_pos (by omega)];exact Ev1.now _) (fun q4=>?_)
 refine Ev1.iff (fun h=>by rw [if_pos (by omega)];exact Ev1.now _) (fun q5=>?_)
 refine Ev1.iff (fun h=>by rw [if_pos (by omega)];exact Ev1.now _) (fun q6=>?_)
 rw [if_neg (by omega)]
 exact h2.diag
theorem hPush_len2 (l:List (Int × Int))(x:Int × Int):(hPush l x).length=l.length+1:=Go.Proofs.Due.hPush_len l x
theorem duePush_len:∀ (ps:List TPayment)(k:Nat)(l:List (Int × Int)),(duePush k ps l).length<=l.length+ps.length
 | [],k,l=>by unfold duePush;simp
 | p::r,k,l=>by
  unfold duePush
  refine Nat.le_trans (duePush_len r (k+1) _) ?_
  cases decide (p.2.2.2.2.2.2.2=(0:Int)) with
  | true=>rw [cond_true,hPush_len2];simp only [List.length_cons];omega
  | false=>rw [cond_false];simp only [List.length_cons];omega
theorem dueAll_len (ps:List TPayment):(dueAll ps).length<=ps.length:=by
 unfold dueAll
 rw [Go.Proofs.Due.hDrain_len]
 have:=duePush_len ps 0 []
 simpa using this
theorem dueall_eq (ps:List TPayment)(hl:ps.length<=1000000)(k:Nat):CF (k+1) g_due_All n_due_All [inj (.slice KPayment) ps]=some (dueAll ps):=by
 have h:Nat.ble ps.length 1000000=true:=Nat.ble_eq_true_of_le hl
 have e:X g_due_All n_due_All [inj (.slice KPayment) ps]=(bif Nat.ble ps.length 1000000 then some (some (dueAll ps)) else none):=by kernel_rfl
 rw [h,cond_true] at e
 show callF Go.Proofs.Tryz.prog A X (k+1) g_due_All n_due_All [inj (.slice KPayment) ps]=_
 unfold callF
 rw [e]
theorem by_l (ps:List TPayment)(now:Int)(l:List Int)(hin:∀ x ∈ l,0<=x/\x < (ps.length:Int))(hl:l.length<=1000):∀ (d i:Nat)(out:List Int),i+d=l.length->out.length<=i ->
  Ev2 (fun k m=>h_due_By k m ps now l (l.length:Int) (i:Int) out) (out++(l.drop i).takeWhile fun k=>!decide (now < (ps.getD (Int.toNat k) zP).2.2.2.2.2.2.1))
 | 0,i,out,hi,ho=>by
  refine Ev2.step (fun k m=>h_due_By_s k m ps now l (l.length:Int) (i:Int) out _ rfl) (Ev2.negD (by omega) (Ev2.const ?_))
  rw [List.drop_of_length_le (by omega)];simp
 | d+1,i,out,hi,ho=>by
  have hlt:i < l.length:=by omega
  have he:l.getD (Int.toNat (i:Int)) 0=l[i]:=by rw [Int.toNat_natCast];exact getD_at l i _ hlt
  have hx:=hin _ (List.getElem_mem hlt)
  refine Ev2.step (fun k m=>h_due_By_s k m ps now l (l.length:Int) (i:Int) out l[i] he.symm) (Ev2.posD (by omega) (Ev2.pos (inb_true (by omega) (by omega)) (Ev2.pos (inb_true hx.1 hx.2) ?_)))
  rw [List.drop_eq_getElem_cons hlt,List.takeWhile_cons]
  refine Ev2.iff (fun h=>?_) (fun h=>?_)
  ·rw [decide_eq_true h];exact Ev2.const (by simp)
  ·rw [decide_eq_false h]
   refine Ev2.posD (by simp only [List.length_cons,List.length_nil];omega) ?_
   rw [wnat (by omega)]
   have:=by_l ps now l hin hl d (i+1) (out++[l[i]]) (by omega) (by simp only [List.length_append,List.length_cons,List.length_nil];omega)
   simpa using this
theorem by_ev (ps:List TPayment)(now:Int)(hl:ps.length<=1000):Ev1 (fun k=>CF k g_due_By n_due_By [inj (.slice KPayment) ps,inj I now]) (dueBy ps now):=by
 refine Ev1.step (fun k=>f_due_By k ps now) (Ev1.bind (Ev1.of_rfl 1 (fun k=>dueall_eq ps (by omega) k)) ?_)
 have:=(by_l ps now (dueAll ps) (Go.Proofs.Due.dueAll_in ps) (Nat.le_trans (dueAll_len ps) hl) (dueAll ps).length 0 [] (by omega) (by simp)).diag
 simpa [dueBy] using this
theorem gG2 (l:List TSaga)(i:Nat)(h:i < l.length):l.getD (Int.toNat (i:Int)) ((0,0,0,0,0,0,0),0,0,0,0)=l[i]:=gG l i h
theorem fg_l (key : Int) (l : List TSaga) (hl : l.length ≤ 1000) : ∀ (d i : Nat), i + d = l.length → Ev2 (fun k m => h_engine_Find k m key l (l.length : Int) (i : Int)) (match fndI key ((l.map fun g => g.1.1).drop i) with | none => -1 | some j => ((i + j : Nat) : Int))
  | 0, i, hi => by
    refine Ev2.step (fun k m => h_engine_Find_s k m key l (l.length : Int) (i : Int)) (Ev2.negD (by omega) ?_)
    rw [List.drop_of_length_le (by rw [List.length_map]; omega)]
    exact Ev2.now _
  | d + 1, i, hi => by
    have hlt : i < l.length := by omega
    refine Ev2.step (fun k m => h_engine_Find_s k m key l (l.length : Int) (i : Int)) (Ev2.posD (by omega) (Ev2.pos (inb_true (by omega) (by omega)) ?_))
    rw [gG2 l i hlt]
    have hd : (l.map fun g => g.1.1).drop i = (l[i]).1.1 :: (l.map fun g => g.1.1).drop (i + 1) := by
      rw [List.drop_eq_getElem_cons (by rw [List.length_map]; exact hlt), List.getElem_map]
    rw [hd]
    unfold fndI
    refine Ev2.iff (fun h => ?_) (fun h => ?_)
    · simp only [h, if_true]
      exact Ev2.const (by simp)
    · simp only [h, if_false]
      rw [wnat (by omega)]
      have ih := fg_l key l hl d (i + 1) (by omega)
      cases hf : fndI key ((l.map fun g => g.1.1).drop (i + 1)) with
      | none => rw [hf] at ih; simpa using ih
      | some j =>
        rw [hf] at ih
        show Ev2 _ (((i + (j + 1) : Nat)) : Int)
        rw [show i + (j + 1) = i + 1 + j by omega]
        exact ih
theorem fg_ev (s : TState) (key : Int) (hl : s.2.2.1.length ≤ 1000) : Ev1 (fun k => CF k g_engine_Find n_engine_Find [inj KState s, inj I key]) (num (fndG key s.2.2.1)) := by
  refine Ev1.step (fun k => f_engine_Find k s key) ?_
  have := (fg_l key s.2.2.1 hl s.2.2.1.length 0 (by omega)).diag
  rw [List.drop_zero] at this
  unfold fndG num
  cases hf : fndI key (s.2.2.1.map fun g => g.1.1) with
  | none => rw [hf] at this; exact this
  | some j => rw [hf] at this; simpa using this
end Go.Eng.Top
namespace Go.Eng.Top
open Go.RowKit Go.Eng Go.Eng.LVar Go.Eng.LChart Go.Eng.LEnt
set_option maxRecDepth 100000
abbrev sw (w:Out):TReply × TState:=(w.2,w.1)
abbrev Dm (s:TState):AV:=.val false [.io Kmachine s]
theorem back_len (es:List En):(back es).length=es.length:=by unfold back;rw [List.length_reverse,List.length_map]
theorem back_l (es:List En)(hl:es.length * 16<=140737488351232):∀ (i:Nat)(out:List En),i<=es.length->out=back (es.drop i)->Ev2 (fun k m=>h_entry_Back k m es ((i:Int) - 1) out) (back es)
 | 0,out,h,ho=>by
  subst ho
  exact Ev2.step (fun k m=>h_entry_Back_s k m es _ _ _ rfl _ rfl) (Ev2.negD (by omega) (Ev2.now _))
 | i+1,out,h,ho=>by
  have hlt:i < es.length:=by omega
  have e1:((i+1:Nat):Int) - 1=(i:Int):=by omega
  have hol:out.length<=es.length:=by rw [ho,back_len,List.length_drop];omega
  rw [e1]
  refine Ev2.step (fun k m=>h_entry_Back_s k m es (i:Int) out es[i] (getE es i hlt).symm _ rfl) (Ev2.posD (by omega) (Ev2.pos (inb_true (by omega) (by omega)) (Ev2.pos (inb_true (by omega) (by omega)) (Ev2.posD ?_ ?_))))
  ·have:out.length+1<=es.length:=by
    rw [ho,back_len,List.length_drop];omega
   simp only [List.length_cons,List.length_nil];omega
  ·rw [w64_id (by omega)]
   refine back_l es hl i _ (by omega) ?_
   rw [ho,List.drop_eq_getElem_cons hlt,back_cons];rfl
theorem back_ev (es:List En)(hl:es.length * 16<=140737488351232):Ev1 (fun k=>CF k g_entry_Back n_entry_Back [inj KEs es]) (back es):=by
 refine Ev1.step (fun k=>f_entry_Back k es) ?_
 rw [w64_id (by omega)]
 exact (back_l es hl es.length [] (Nat.le_refl _) (by rw [List.drop_length];rfl)).diag
theorem move_len (ac:List Acc)(f t n:Int):(moveF ac f t n).1.length<=4:=by
 rcases move_cases ac f t n with ⟨c,h⟩ | ⟨v,r,h,hr⟩
 ·rw [h];simp
 ·rw [h];simp only [List.length_cons];omega
theorem move_ne {ac:List Acc} {f t n:Int} (h:(moveF ac f t n).2=none):1<=(moveF ac f t n).1.length:=by
 rcases move_cases ac f t n with ⟨c,e⟩ | ⟨v,r,e,hr⟩
 ·rw [e] at h;cases h
 ·rw [e];simp
theorem take_ev (s:TState)(w:List Acc × Option Int)(id:Int):Ev1 (fun k=>CF k g_oD_take n_oD_take [Dm s,inj KA w.1,inj .err w.2,inj I id]) (sw (takeF s w id)):=by
 refine Ev1.step (fun k=>f_oD_take k s w.1 w.2 id) ?_
 unfold takeF
 obtain ⟨a,e⟩:=w
 cases e with
 | some c=>exact Ev1.pos rfl (Ev1.bind (number_e _) (Ev1.now _))
 | none=>exact Ev1.neg rfl (Ev1.now _)
theorem dpost_ev {s:TState} (h:Op s s)(f t n:Int):Ev1 (fun k=>CF k g_oD_post n_oD_post [Dm s,inj I f,inj I t,inj I n]) (sw (postO s f t n)):=by
 refine Ev1.step (fun k=>f_oD_post k s f t n) (Ev1.bind (move_ev s.1 h.rt.curs f t n) ?_)
 have hl:=move_len s.1 f t n
 unfold postO
 cases hm:(moveF s.1 f t n).2 with
 | some c=>exact Ev1.pos rfl (Ev1.bind (number_e _) (Ev1.now _))
 | none=>exact Ev1.neg rfl (Ev1.bind (post_ev s.1 h.rt _ (by omega)) (Ev1.bind (take_ev s (postF s.1 _) 0) (Ev1.now _)))
def cliB (s:TState)(ks:List Int):Bool:=ks.all fun n=>decide (cli s n)
theorem cli_l (s : TState) (ks : List Int) (hl : ks.length ≤ 10) : ∀ (d i : Nat), i + d = ks.length → Ev2 (fun k m => h_oD_clients k m ks (ks.length : Int) (i : Int) s.1 s.2.1 s.2.2.1 s.2.2.2.1 s.2.2.2.2) (cliB s (ks.drop i), s)
  | 0, i, hi => by
    refine Ev2.step (fun k m => h_oD_clients_s k m ks (ks.length : Int) (i : Int) s.1 s.2.1 s.2.2.1 s.2.2.2.1 s.2.2.2.2) (Ev2.negD (by omega) ?_)
    rw [List.drop_of_length_le (by omega)]
    exact Ev2.now _
  | d + 1, i, hi => by
    have hlt : i < ks.length := by omega
    have he : ks.getD (Int.toNat (i : Int)) 0 = ks[i] := by rw [Int.toNat_natCast]; exact getD_at ks i _ hlt
    refine Ev2.step (fun k m => h_oD_clients_s k m ks (ks.length : Int) (i : Int) s.1 s.2.1 s.2.2.1 s.2.2.2.1 s.2.2.2.2) (Ev2.posD (by omega) (Ev2.pos (inb_true (by omega) (by omega)) ?_))
    rw [he]
    refine Ev2.bind (isc_ev s.1 ks[i]) ?_
    rw [List.drop_eq_getElem_cons hlt]
    show Ev2 _ ((decide (cli s ks[i]) && cliB s (ks.drop (i + 1))), s)
    by_cases h : cli s ks[i]
    · rw [decide_eq_true h, Bool.true_and]
      refine Ev2.neg rfl ?_
      rw [wnat (by omega)]
      exact cli_l s ks hl d (i + 1) (by omega)
    · rw [decide_eq_false h, Bool.false_and]
      exact Ev2.pos rfl (Ev2.now _)
theorem cli_ev (s : TState) (ks : List Int) (hl : ks.length ≤ 10) : Ev1 (fun k => CF k g_oD_clients n_oD_clients [Dm s, inj (.slice I) ks]) (cliB s ks, s) :=
  Ev1.step (fun k => f_oD_clients k s ks) (cli_l s ks hl ks.length 0 (by omega)).diag
theorem cli1 (s:TState)(a:Int):cliB s [a]=decide (cli s a):=by unfold cliB;simp
theorem cli2 (s:TState)(a b:Int):cliB s [a,b]=decide (cli s a/\cli s b):=by unfold cliB;simp only [List.all_cons,List.all_nil,Bool.and_true,Bool.decide_and]
theorem open_ev {s:TState} (h:Op s s)(r:TRequest):Ev1 (fun k=>CF k g_oD_open n_oD_open [Dm s,inj KRequest r]) (sw (openF s r)):=by
 have hh:=h.rt.hi
 refine Ev1.step (fun k=>f_oD_open k s r _ rfl _ rfl) ?_
 unfold openF
 refine Ev1.iff (fun c=>by rw [if_pos c];exact Ev1.now _) (fun c=>?_)
 rw [if_neg c]
 exact Ev1.bind (clone_ev s.1 hh) (Ev1.posD (by simp only [List.length_cons,List.length_nil];omega) (Ev1.bind (take_ev s (s.1++[(r.2.2.1,0,0)],none) _) (Ev1.now _)))
theorem dep_ev {s:TState} (h:Op s s)(r:TRequest):Ev1 (fun k=>CF k g_oD_deposit n_oD_deposit [Dm s,inj KRequest r]) (sw (depF s r)):=by
 refine Ev1.step (fun k=>f_oD_deposit k s r) (Ev1.bind (cli_ev s [r.2.2.1] (by simp)) ?_)
 rw [cli1]
 unfold depF
 by_cases c:cli s r.2.2.1
 ·rw [decide_eq_true c,if_pos c]
  exact Ev1.neg rfl (Ev1.pos (inb_true (by omega) c.2) (Ev1.bind (number_ev 0 (acAt s.1 r.2.2.1).1) (Ev1.bind (dpost_ev h _ _ _) (Ev1.now _))))
 ·rw [decide_eq_false c,if_neg c];exact Ev1.pos rfl (Ev1.now _)
theorem tr_ev {s:TState} (h:Op s s)(r:TRequest):Ev1 (fun k=>CF k g_oD_transfer n_oD_transfer [Dm s,inj KRequest r]) (sw (trF s r)):=by
 refine Ev1.step (fun k=>f_oD_transfer k s r) (Ev1.bind (cli_ev s [r.2.2.1,r.2.2.2.1] (by simp)) ?_)
 rw [cli2]
 unfold trF
 by_cases c:cli s r.2.2.1/\cli s r.2.2.2.1
 ·rw [decide_eq_true c,if_pos c];exact Ev1.neg rfl (Ev1.bind (dpost_ev h _ _ _) (Ev1.now _))
 ·rw [decide_eq_false c,if_neg c];exact Ev1.pos rfl (Ev1.now _)
theorem auth_ev {s:TState} (h:Op s s)(r:TRequest):Ev1 (fun k=>CF k g_oD_auth n_oD_auth [Dm s,inj KRequest r]) (sw (authF s r)):=by
 refine Ev1.step (fun k=>f_oD_auth k s r) (Ev1.bind (cli_ev s [r.2.2.1,r.2.2.2.1] (by simp)) ?_)
 rw [cli2]
 unfold authF
 by_cases c:cli s r.2.2.1/\cli s r.2.2.2.1
 ·rw [decide_eq_true c,if_pos c]
  refine Ev1.neg rfl ?_
  refine Ev1.iff (fun q=>by rw [if_pos (.inl q)];exact Ev1.now _) (fun q1=>?_)
  refine Ev1.iff (fun q=>by rw [if_pos (.inr q)];exact Ev1.now _) (fun q2=>?_)
  rw [if_neg (fun q=>q.elim q1 q2)]
  refine Ev1.iff (fun q=>by rw [if_pos q];exact Ev1.now _) (fun q3=>?_)
  rw [if_neg q3]
  have h2:Ev2 (fun k m=>h_oD_auth k m s.1 s.2.1 s.2.2.1 s.2.2.2.1 s.2.2.2.2 r.1 r.2.1 r.2.2.1 r.2.2.2.1 r.2.2.2.2.1 r.2.2.2.2.2.1 r.2.2.2.2.2.2 0 0)
   (sw (match (holdF s.1 r.2.2.1 r.2.2.2.2.1).2 with
    | some c=>(s,(c,0))
    | none=>(((holdF s.1 r.2.2.1 r.2.2.2.2.1).1,s.2.1++[(r.2.2.1,r.2.2.2.1,r.2.2.2.2.1,0,0,0,r.2.2.2.2.2.2,0)],s.2.2),(0,(s.2.1.length:Int))))):=by
   refine Ev2.step (fun k m=>h_oD_auth_s k m s.1 s.2.1 s.2.2.1 s.2.2.2.1 s.2.2.2.2 r.1 r.2.1 r.2.2.1 r.2.2.2.1 r.2.2.2.2.1 r.2.2.2.2.2.1 r.2.2.2.2.2.2 0 0 _ rfl) (Ev2.bind (hold_ev s.1 h.rt _ _) (Ev2.bind (take_ev s (holdF s.1 _ _) _) ?_))
   unfold takeF
   cases hh:(holdF s.1 r.2.2.1 r.2.2.2.2.1).2 with
   | some c=>exact Ev2.neg rfl (Ev2.now _)
   | none =>
    have hp:=h.pl
    exact Ev2.pos rfl (Ev2.posD (by show s.2.1.length * 64<=211106232532992;omega) (Ev2.posD (by show (s.2.1.length+1) * 64<=211106232532992;omega) (Ev2.now _)))
  exact h2.diag
 ·rw [decide_eq_false c,if_neg c];exact Ev1.pos rfl (Ev1.now _)
def opFn (op:Int):Option Nat:=if op=4 then some 181 else if op=6 then some 182 else if op=7 then some 183 else some 184
theorem payOp_ev {op:Int} (hop:op=4\/op=5\/op=6\/op=7)(p:TPayment)(n:Int) :
  Ev1 (fun k=>CF k g_payment_by n_payment_by [inj I op]) (opFn op)/\Ev1 (fun k=>CF k g_payment_capture ((opFn op).getD 0) [inj KPayment p,inj I n]) (payOpF op p n)/\(opFn op).isSome=true:=by
 rcases hop with rfl | rfl | rfl | rfl
 ·exact ⟨Ev1.step (fun k=>f_payment_by k 4) (Ev1.const rfl),pcap_ev p n,rfl⟩
 ·exact ⟨Ev1.step (fun k=>f_payment_by k 5) (Ev1.const rfl),pshut_ev p n,rfl⟩
 ·exact ⟨Ev1.step (fun k=>f_payment_by k 6) (Ev1.const rfl),pref_ev p n,rfl⟩
 ·exact ⟨Ev1.step (fun k=>f_payment_by k 7) (Ev1.const rfl),pchg_ev p n,rfl⟩
theorem pdo_ev {op:Int} (hop:op=4\/op=5\/op=6\/op=7)(p:TPayment)(n:Int):Ev1 (fun k=>CF k g_pD n_pD [inj KPayment p,inj I op,inj I n]) (payDoF op p n):=by
 obtain ⟨hb,hp,hs⟩:=payOp_ev hop p n
 refine Ev1.step (fun k=>f_pD k p op n _ rfl _ rfl) (Ev1.bind hb (Ev1.neg (by rw [hs];rfl) ?_))
 have h2:Ev1 (fun k=>h_pD k k n (opFn op) p.1 p.2.1 p.2.2.1 p.2.2.2.1 p.2.2.2.2.1 p.2.2.2.2.2.1 p.2.2.2.2.2.2.1 p.2.2.2.2.2.2.2 0 0 0 0 0 0 0 0) (if (payOpF op p n).2=true then ((payOpF op p n).1,none) else (zP,some 6)):=by
  have h3:Ev2 (fun k m=>h_pD k m n (opFn op) p.1 p.2.1 p.2.2.1 p.2.2.2.1 p.2.2.2.2.1 p.2.2.2.2.2.1 p.2.2.2.2.2.2.1 p.2.2.2.2.2.2.2 0 0 0 0 0 0 0 0) (if (payOpF op p n).2=true then ((payOpF op p n).1,none) else (zP,some 6)):=by
   refine Ev2.step (fun k m=>h_pD_s k m n (opFn op) p.1 p.2.1 p.2.2.1 p.2.2.2.1 p.2.2.2.2.1 p.2.2.2.2.2.1 p.2.2.2.2.2.2.1 p.2.2.2.2.2.2.2 0 0 0 0 0 0 0 0) (Ev2.pos hs (Ev2.bind hp ?_))
   generalize payOpF op p n=w
   obtain ⟨q,b⟩:=w
   cases b with
   | true=>exact Ev2.neg rfl (Ev2.now _)
   | false=>exact Ev2.pos rfl (Ev2.now _)
  exact h3.diag
 unfold payDoF
 by_cases c5:op=5
 ·rw [if_neg (fun q=>q.1 c5)]
  exact Ev1.neg (by rw [decide_eq_true c5];rfl) h2
 ·refine Ev1.pos (by rw [decide_eq_false c5];rfl) (Ev1.iff (fun q=>by rw [if_pos ⟨c5,q⟩];exact Ev1.now _) (fun q=>?_))
  rw [if_neg (fun w=>q w.2)]
  exact h2
abbrev bo (s:TState)(w:TPayment × TPayment × Option Int):TPayment × TPayment × Option Int × TState:=(w.1,w.2.1,w.2.2,s)
theorem both_ev (s:TState) {op:Int} (hop:op=4\/op=5\/op=6\/op=7)(r:TRequest)(hr:r.2.1=op):Ev1 (fun k=>CF k g_oD_both n_oD_both [Dm s,inj KRequest r]) (bo s (bothF s op r)):=by
 refine Ev1.step (fun k=>f_oD_both k s r) ?_
 unfold bothF
 refine Ev1.iff (fun q=>by rw [if_pos (.inl q)];exact Ev1.now _) (fun q1=>?_)
 refine Ev1.iff (fun q=>by rw [if_pos (.inr q)];exact Ev1.now _) (fun q2=>?_)
 rw [if_neg (fun q=>q.elim q1 q2)]
 have h2:Ev2 (fun k m=>h_oD_both k m s.1 s.2.1 s.2.2.1 s.2.2.2.1 s.2.2.2.2 r.1 r.2.1 r.2.2.1 r.2.2.2.1 r.2.2.2.2.1 r.2.2.2.2.2.1 r.2.2.2.2.2.2 0 0 0 0 0 0 0 0 0 0 0 0 0 0 0 0)
  (bo s (pAt s r.2.2.1,(payDoF op (pAt s r.2.2.1) r.2.2.2.2.1).1,(payDoF op (pAt s r.2.2.1) r.2.2.2.2.1).2)):=by
  refine Ev2.step (fun k m=>h_oD_both_s k m s.1 s.2.1 s.2.2.1 s.2.2.2.1 s.2.2.2.2 r.1 r.2.1 r.2.2.1 r.2.2.2.1 r.2.2.2.2.1 r.2.2.2.2.2.1 r.2.2.2.2.2.2 0 0 0 0 0 0 0 0 0 0 0 0 0 0 0 0 _ rfl) (Ev2.pos (inb_true (by omega) (by omega)) ?_)
  rw [hr]
  exact Ev2.bind (pdo_ev hop (pAt s r.2.2.1) _) (Ev2.now _)
 exact h2.diag
theorem pay_ev {s:TState} (h:Op s s) {i:Int} (hi:0<=i/\i < (s.2.1.length:Int))(q:TPayment)(w:List Acc × Option Int):Ev1 (fun k=>CF k g_oD_pay n_oD_pay [Dm s,inj I i,inj KPayment q,inj KA w.1,inj .err w.2]) (sw (payF s i q w)):=by
 have hp:=h.pl
 refine Ev1.step (fun k=>f_oD_pay k s i q w.1 w.2) (Ev1.bind (take_ev s w 0) ?_)
 unfold payF takeF
 obtain ⟨a,e⟩:=w
 cases e with
 | some c=>exact Ev1.neg rfl (Ev1.now _)
 | none=>exact Ev1.pos rfl (Ev1.posD (by dsimp only;omega) (Ev1.pos (inb_true hi.1 hi.2) (Ev1.now _)))
theorem both_in {s:TState} {op:Int} {r:TRequest} (h:(bothF s op r).2.2=none):0<=r.2.2.1/\r.2.2.1 < (s.2.1.length:Int):=by
 unfold bothF at h
 split at h
 ·cases h
 ·omega
theorem cap_ev {s:TState} (h:Op s s)(r:TRequest)(hr:r.2.1=4):Ev1 (fun k=>CF k g_oD_capture n_oD_capture [Dm s,inj KRequest r]) (sw (capF s r)):=by
 refine Ev1.step (fun k=>f_oD_capture k s r) (Ev1.bind (both_ev s (.inl rfl) r hr) ?_)
 have hb:=both_in (s:=s) (op:=4) (r:=r)
 unfold capF
 generalize bothF s 4 r=w at hb
 obtain ⟨p,q,e⟩:=w
 cases e with
 | some c=>exact Ev1.pos rfl (Ev1.bind (number_e _) (Ev1.now _))
 | none =>
  refine Ev1.neg rfl (Ev1.bind (move_ev s.1 h.rt.curs p.1 p.2.1 r.2.2.2.2.1) ?_)
  have hl:=move_len s.1 p.1 p.2.1 r.2.2.2.2.1
  dsimp only
  generalize moveF s.1 p.1 p.2.1 r.2.2.2.2.1=m at hl
  obtain ⟨es,g⟩:=m
  cases g with
  | some c=>exact Ev1.pos rfl (Ev1.bind (number_e _) (Ev1.now _))
  | none=>exact Ev1.neg rfl (Ev1.bind (spend_ev s.1 h.rt _ _ (by dsimp only at hl ⊢;omega)) (Ev1.bind (pay_ev h (hb rfl) q (spendF s.1 _ _)) (Ev1.now _)))
theorem void_ev {s:TState} (h:Op s s)(r:TRequest)(hr:r.2.1=5):Ev1 (fun k=>CF k g_oD_void n_oD_void [Dm s,inj KRequest r]) (sw (voidF s r)):=by
 refine Ev1.step (fun k=>f_oD_void k s r) (Ev1.bind (both_ev s (.inr (.inl rfl)) r hr) ?_)
 have hb:=both_in (s:=s) (op:=5) (r:=r)
 unfold voidF
 generalize bothF s 5 r=w at hb
 obtain ⟨p,q,e⟩:=w
 cases e with
 | some c=>exact Ev1.pos rfl (Ev1.bind (number_e _) (Ev1.now _))
 | none=>exact Ev1.neg rfl (Ev1.bind (left_ev p) (Ev1.bind (rel_ev s.1 h.rt _ _) (Ev1.bind (pay_ev h (hb rfl) q (relF s.1 _ _)) (Ev1.now _))))
theorem dback_ev {s:TState} (h:Op s s)(p:TPayment)(n:Int):Ev1 (fun k=>CF k g_oD_back n_oD_back [Dm s,inj KPayment p,inj I n]) ((backF s p n).1,(backF s p n).2,s):=by
 have hl:=move_len s.1 p.1 p.2.1 n
 exact Ev1.step (fun k=>f_oD_back k s p n) (Ev1.bind (move_ev s.1 h.rt.curs p.1 p.2.1 n) (Ev1.bind (back_ev _ (by omega)) (Ev1.now _)))
theorem ref_ev {s:TState} (h:Op s s)(r:TRequest)(hr:r.2.1=6):Ev1 (fun k=>CF k g_oD_refund n_oD_refund [Dm s,inj KRequest r]) (sw (refF s r)):=by
 refine Ev1.step (fun k=>f_oD_refund k s r) (Ev1.bind (both_ev s (.inr (.inr (.inl rfl))) r hr) ?_)
 have hb:=both_in (s:=s) (op:=6) (r:=r)
 unfold refF
 generalize bothF s 6 r=w at hb
 obtain ⟨p,q,e⟩:=w
 cases e with
 | some c=>exact Ev1.pos rfl (Ev1.bind (number_e _) (Ev1.now _))
 | none =>
  refine Ev1.neg rfl (Ev1.bind (dback_ev h p _) ?_)
  have hl:=move_len s.1 p.1 p.2.1 r.2.2.2.2.1
  have hl2:(backF s p r.2.2.2.2.1).1.length<=4:=by show (back _).length<=4;rw [back_len];exact hl
  dsimp only
  generalize backF s p r.2.2.2.2.1=m at hl2
  obtain ⟨es,g⟩:=m
  cases g with
  | some c=>exact Ev1.pos rfl (Ev1.bind (number_e _) (Ev1.now _))
  | none=>exact Ev1.neg rfl (Ev1.bind (post_ev s.1 h.rt _ (by dsimp only at hl2 ⊢;omega)) (Ev1.bind (pay_ev h (hb rfl) q (postF s.1 _)) (Ev1.now _)))
theorem chg_ev {s:TState} (h:Op s s)(r:TRequest)(hr:r.2.1=7):Ev1 (fun k=>CF k g_oD_charge n_oD_charge [Dm s,inj KRequest r]) (sw (chgF s r)):=by
 refine Ev1.step (fun k=>f_oD_charge k s r) (Ev1.bind (both_ev s (.inr (.inr (.inr rfl))) r hr) ?_)
 have hb:=both_in (s:=s) (op:=7) (r:=r)
 have hq:=(both_ok h 7 r).2
 unfold chgF
 generalize bothF s 7 r=w at hb hq
 obtain ⟨p,q,e⟩:=w
 cases e with
 | some c=>exact Ev1.pos rfl (Ev1.bind (number_e _) (Ev1.now _))
 | none =>
  refine Ev1.neg rfl (Ev1.bind (dback_ev h p _) ?_)
  have hto:=(hq rfl).1.to_
  have hl:=move_len s.1 p.1 p.2.1 r.2.2.2.2.1
  have hl2:(backF s p r.2.2.2.2.1).1.length<=4:=by show (back _).length<=4;rw [back_len];exact hl
  have hl3:(backF s p r.2.2.2.2.1).2=none->1<=(backF s p r.2.2.2.2.1).1.length:=fun hn=>by show 1<=(back _).length;rw [back_len];exact move_ne hn
  dsimp only
  dsimp only at hto
  generalize backF s p r.2.2.2.2.1=m at hl2 hl3
  obtain ⟨es,g⟩:=m
  cases g with
  | some c=>exact Ev1.pos rfl (Ev1.bind (number_e _) (Ev1.now _))
  | none =>
   have hl4:=hl3 rfl
   dsimp only at hl2 hl4
   have hz:∀ es2:List En,es2.length<=5->Ev1 (fun k=>h_oD_charge k k s.1 s.2.1 s.2.2.1 s.2.2.2.1 s.2.2.2.2 r.1 r.2.1 r.2.2.1 r.2.2.2.1 r.2.2.2.2.1 r.2.2.2.2.2.1 r.2.2.2.2.2.2 0 0 q.1 q.2.1 q.2.2.1 q.2.2.2.1 q.2.2.2.2.1 q.2.2.2.2.2.1 q.2.2.2.2.2.2.1 q.2.2.2.2.2.2.2 es2) (sw (payF s r.2.2.1 q (postF s.1 es2))):=by
    intro es2 h5
    have h6:Ev2 (fun k m=>h_oD_charge k m s.1 s.2.1 s.2.2.1 s.2.2.2.1 s.2.2.2.2 r.1 r.2.1 r.2.2.1 r.2.2.2.1 r.2.2.2.2.1 r.2.2.2.2.2.1 r.2.2.2.2.2.2 0 0 q.1 q.2.1 q.2.2.1 q.2.2.2.1 q.2.2.2.2.1 q.2.2.2.2.2.1 q.2.2.2.2.2.2.1 q.2.2.2.2.2.2.2 es2) (sw (payF s r.2.2.1 q (postF s.1 es2))) :=
     Ev2.step (fun k m=>h_oD_charge_s k m s.1 s.2.1 s.2.2.1 s.2.2.2.1 s.2.2.2.2 r.1 r.2.1 r.2.2.1 r.2.2.2.1 r.2.2.2.2.1 r.2.2.2.2.2.1 r.2.2.2.2.2.2 0 0 q.1 q.2.1 q.2.2.1 q.2.2.2.1 q.2.2.2.2.1 q.2.2.2.2.2.1 q.2.2.2.2.2.2.1 q.2.2.2.2.2.2.2 es2) (Ev2.bind (post_ev s.1 h.rt es2 (by omega)) (Ev2.bind (pay_ev h (hb rfl) q (postF s.1 es2)) (Ev2.now _)))
    exact h6.diag
   refine Ev1.neg rfl (Ev1.pos (inb_true (by omega) hto.2) (Ev1.pos (inb_true (by omega) (by dsimp only;omega)) (Ev1.bind (Ev1.step (fun k=>f_chart_Free k (acAt s.1 p.2.1)) (Ev1.now _)) ?_)))
   unfold chgE
   refine Ev1.iff (fun c=>?_) (fun c=>?_)
   ·rw [if_pos c]
    refine Ev1.pos (inb_true (by omega) (by dsimp only;omega)) (Ev1.pos (inb_true (by omega) (by dsimp only;omega)) (Ev1.bind (number_ev 2 (acAt s.1 p.2.1).1) (Ev1.posD (by simp only [List.length_set,List.length_cons,List.length_nil];omega) ?_)))
    exact hz _ (by rw [List.length_append,List.length_set];simp only [List.length_cons,List.length_nil];omega)
   ·rw [if_neg c]
    exact hz es (by omega)
theorem ops_ev {s:TState} (h:Op s s)(r:TRequest):Ev1 (fun k=>CF k g_ops_Do n_ops_Do [inj KState s,inj KRequest r]) (opsF s r):=by
 refine Ev1.step (fun k=>f_ops_Do k s r) ?_
 unfold opsF
 have by_:∀ (op:Int) (o:Option Nat),r.2.1=op->(Ev1 (fun k=>CF k g_ops_by n_ops_by [inj I op]) o)->Ev1 (fun k=>CF k g_ops_by n_ops_by [inj I r.2.1]) o:=fun op o e q=>by rw [e];exact q
 by_cases h0:r.2.1=0
 ·rw [if_pos h0]
  exact Ev1.bind (by_ 0 (some 124) h0 (Ev1.step (fun k=>f_ops_by k 0) (Ev1.const rfl))) (Ev1.neg rfl (Ev1.pos rfl (Ev1.bind (open_ev h r) (Ev1.now _))))
 rw [if_neg h0]
 by_cases h1:r.2.1=1
 ·rw [if_pos h1]
  exact Ev1.bind (by_ 1 (some 125) h1 (Ev1.step (fun k=>f_ops_by k 1) (Ev1.const rfl))) (Ev1.neg rfl (Ev1.pos rfl (Ev1.bind (dep_ev h r) (Ev1.now _))))
 rw [if_neg h1]
 by_cases h2:r.2.1=2
 ·rw [if_pos h2]
  exact Ev1.bind (by_ 2 (some 126) h2 (Ev1.step (fun k=>f_ops_by k 2) (Ev1.const rfl))) (Ev1.neg rfl (Ev1.pos rfl (Ev1.bind (tr_ev h r) (Ev1.now _))))
 rw [if_neg h2]
 by_cases h3:r.2.1=3
 ·rw [if_pos h3]
  exact Ev1.bind (by_ 3 (some 127) h3 (Ev1.step (fun k=>f_ops_by k 3) (Ev1.const rfl))) (Ev1.neg rfl (Ev1.pos rfl (Ev1.bind (auth_ev h r) (Ev1.now _))))
 rw [if_neg h3]
 by_cases h4:r.2.1=4
 ·rw [if_pos h4]
  exact Ev1.bind (by_ 4 (some 128) h4 (Ev1.step (fun k=>f_ops_by k 4) (Ev1.const rfl))) (Ev1.neg rfl (Ev1.pos rfl (Ev1.bind (cap_ev h r h4) (Ev1.now _))))
 rw [if_neg h4]
 by_cases h5:r.2.1=5
 ·rw [if_pos h5]
  exact Ev1.bind (by_ 5 (some 129) h5 (Ev1.step (fun k=>f_ops_by k 5) (Ev1.const rfl))) (Ev1.neg rfl (Ev1.pos rfl (Ev1.bind (void_ev h r h5) (Ev1.now _))))
 rw [if_neg h5]
 by_cases h6:r.2.1=6
 ·rw [if_pos h6]
  exact Ev1.bind (by_ 6 (some 130) h6 (Ev1.step (fun k=>f_ops_by k 6) (Ev1.const rfl))) (Ev1.neg rfl (Ev1.pos rfl (Ev1.bind (ref_ev h r h6) (Ev1.now _))))
 rw [if_neg h6]
 by_cases h7:r.2.1=7
 ·rw [if_pos h7]
  exact Ev1.bind (by_ 7 (some 131) h7 (Ev1.step (fun k=>f_ops_by k 7) (Ev1.const rfl))) (Ev1.neg rfl (Ev1.pos rfl (Ev1.bind (chg_ev h r h7) (Ev1.now _))))
 rw [if_neg h7]
 have hn:Ev1 (fun k=>CF k g_ops_by n_ops_by [inj I r.2.1]) none:=by
  refine Ev1.step (fun k=>f_ops_by k r.2.1) ?_
  refine Ev1.iff (fun _=>Ev1.now _) (fun q1=>?_)
  exact Ev1.posD (by omega) (Ev1.now _)
 exact Ev1.bind hn (Ev1.pos rfl (Ev1.now _))
theorem res_ev {s:TState} (h:Op s s)(r:TRequest):Ev1 (fun k=>CF k g_ops_Reserve n_ops_Reserve [inj KState s,inj KRequest r]) (resF s r):=by
 refine Ev1.step (fun k=>f_ops_Reserve k s r) (Ev1.bind (cli_ev s [r.2.2.1,r.2.2.2.1] (by simp)) ?_)
 rw [cli2]
 unfold resF
 by_cases c:cli s r.2.2.1/\cli s r.2.2.2.1
 ·rw [decide_eq_true c,if_pos c]
  refine Ev1.neg rfl (Ev1.bind (move_ev s.1 h.rt.curs _ _ _) ?_)
  generalize moveF s.1 r.2.2.1 r.2.2.2.1 r.2.2.2.2.1=m
  obtain ⟨es,g⟩:=m
  cases g with
  | some c=>exact Ev1.pos rfl (Ev1.now _)
  | none =>
   refine Ev1.neg rfl (Ev1.bind (hold_ev s.1 h.rt _ _) ?_)
   unfold withA
   dsimp only
   generalize holdF s.1 r.2.2.1 r.2.2.2.2.1=w
   obtain ⟨a,e⟩:=w
   cases e with
   | some c=>exact Ev1.pos rfl (Ev1.now _)
   | none=>exact Ev1.neg rfl (Ev1.now _)
 ·rw [decide_eq_false c,if_neg c];exact Ev1.pos rfl (Ev1.now _)
theorem setl_ev {s:TState} (h:Op s s)(r:TRequest):Ev1 (fun k=>CF k g_ops_Settle n_ops_Settle [inj KState s,inj KRequest r]) (setlF s r):=by
 refine Ev1.step (fun k=>f_ops_Settle k s r) (Ev1.bind (move_ev s.1 h.rt.curs _ _ _) ?_)
 have hl:=move_len s.1 r.2.2.1 r.2.2.2.1 r.2.2.2.2.1
 unfold setlF
 generalize moveF s.1 r.2.2.1 r.2.2.2.1 r.2.2.2.2.1=m at hl
 obtain ⟨es,g⟩:=m
 cases g with
 | some c=>exact Ev1.pos rfl (Ev1.now _)
 | none =>
  refine Ev1.neg rfl (Ev1.bind (spend_ev s.1 h.rt _ _ (by dsimp only at hl ⊢;omega)) ?_)
  unfold withA
  dsimp only
  generalize spendF s.1 r.2.2.2.2.1 es=w
  obtain ⟨a,e⟩:=w
  cases e with
  | some c=>exact Ev1.pos rfl (Ev1.now _)
  | none=>exact Ev1.neg rfl (Ev1.now _)
theorem undo_ev {s:TState} (h:Op s s)(r:TRequest):Ev1 (fun k=>CF k g_ops_Undo n_ops_Undo [inj KState s,inj KRequest r]) (undoF s r):=by
 refine Ev1.step (fun k=>f_ops_Undo k s r) (Ev1.bind (rel_ev s.1 h.rt _ _) ?_)
 unfold undoF withA
 generalize relF s.1 r.2.2.1 r.2.2.2.2.1=w
 obtain ⟨a,e⟩:=w
 cases e with
 | some c=>exact Ev1.pos rfl (Ev1.now _)
 | none=>exact Ev1.neg rfl (Ev1.now _)
theorem tick_l (l : List Int) (hl : l.length ≤ 1000) : ∀ (d i : Nat) (s : TState), Op s s → i + d = l.length → Ev2 (fun k m => h_ops_Tick k m l (l.length : Int) (i : Int) s.1 s.2.1 s.2.2.1 s.2.2.2.1 s.2.2.2.2 0) (voids (l.drop i) s)
  | 0, i, s, h, hi => by
    refine Ev2.step (fun k m => h_ops_Tick_s k m l (l.length : Int) (i : Int) s.1 s.2.1 s.2.2.1 s.2.2.2.1 s.2.2.2.2 0 _ rfl) (Ev2.negD (by omega) ?_)
    rw [List.drop_of_length_le (by omega)]
    exact Ev2.now _
  | d + 1, i, s, h, hi => by
    have hlt : i < l.length := by omega
    have he : l.getD (Int.toNat (i : Int)) 0 = l[i] := by rw [Int.toNat_natCast]; exact getD_at l i _ hlt
    refine Ev2.step (fun k m => h_ops_Tick_s k m l (l.length : Int) (i : Int) s.1 s.2.1 s.2.2.1 s.2.2.2.1 s.2.2.2.2 0 _ rfl) (Ev2.posD (by omega) (Ev2.pos (inb_true (by omega) (by omega)) ?_))
    rw [he, List.drop_eq_getElem_cons hlt]
    refine Ev2.bind (ops_ev h (0, 5, l[i], 0, 0, 0, 0)) ?_
    rw [wnat (by omega)]
    have ho := (ops_op h (0, 5, l[i], 0, 0, 0, 0) (fun e => by simp at e) (fun e => by simp at e)).1
    exact tick_l l hl d (i + 1) (opsF s (0, 5, l[i], 0, 0, 0, 0)).1 ho.self (by omega)
theorem tick_ev {s : TState} (h : Op s s) : Ev1 (fun k => CF k g_ops_Tick n_ops_Tick [inj KState s]) (tickF s) := by
  have hp := h.pl
  refine Ev1.step (fun k => f_ops_Tick k s _ rfl) ?_
  unfold tickF
  refine Ev1.iff (fun c => by rw [if_pos c]; exact Ev1.now _) (fun c => ?_)
  rw [if_neg c]
  refine Ev1.bind (by_ev s.2.1 _ (by omega)) ?_
  have hlen : (dueBy s.2.1 (w64 (s.2.2.2.2 + 1))).length ≤ 1000 := by
    unfold dueBy
    refine Nat.le_trans (List.takeWhile_sublist _).length_le (Nat.le_trans (dueAll_len _) (by omega))
  have := (tick_l (dueBy s.2.1 (w64 (s.2.2.2.2 + 1))) hlen (dueBy s.2.1 (w64 (s.2.2.2.2 + 1))).length 0 (s.1, s.2.1, s.2.2.1, s.2.2.2.1, w64 (s.2.2.2.2 + 1)) ⟨rfl, h.rt, h.pl, h.ps, Nat.le_refl _⟩ (by omega)).diag
  exact this
end Go.Eng.Top
namespace Go.Eng.Top
open Go.RowKit Go.Eng Go.Eng.LVar Go.Eng.LChart Go.Eng.LEnt
set_option maxRecDepth 100000
theorem sub_ev {s:TState} (h:Inv s)(e:TEvent):Ev1 (fun k=>CF k g_eM_submit n_eM_submit [Dm s,inj KEvent e]) (sw (subF s e.2.1)):=by
 have hkl:=h.kl
 have hgl:=h.gl
 refine Ev1.step (fun k=>f_eM_submit k s e _ rfl _ rfl) (Ev1.bind (may_ev e.2.1) ?_)
 unfold subF
 cases hm:mayB e.2.1 with
 | false=>rw [if_pos rfl];exact Ev1.pos rfl (Ev1.now _)
 | true =>
  rw [if_neg (by simp)]
  refine Ev1.neg rfl (Ev1.bind (ask_ev s.2.2.2.1 e.2.1 (by omega)) ?_)
  cases ha:(askF s.2.2.2.1 e.2.1).2 with
  | true=>rw [if_pos rfl];exact Ev1.pos rfl (Ev1.now _)
  | false =>
   rw [if_neg (by simp)]
   refine Ev1.neg rfl (Ev1.bind (long_ev e.2.1) ?_)
   have hput:=put_ev s.2.2.2.1 e.2.1 (by omega)
   have hpl:(putF s.2.2.2.1 e.2.1).1.length<=256:=by
    unfold putF
    split
    ·exact Nat.zero_le _
    ·split
     ·exact Nat.zero_le _
     ·simp only [List.length_append,List.length_cons,List.length_nil];omega
   have hz:Ev1 (fun k=>h_eM_submit k k s.1 s.2.1 s.2.2.1 s.2.2.2.1 s.2.2.2.2 0 0 e.2.1.1 e.2.1.2.1 e.2.1.2.2.1 e.2.1.2.2.2.1 e.2.1.2.2.2.2.1 e.2.1.2.2.2.2.2.1 e.2.1.2.2.2.2.2.2)
    (sw (match (putF s.2.2.2.1 e.2.1).2 with
  | some c=>(s,(c,0))
  | none =>
   if long e.2.1 then (match (resF s e.2.1).2 with
    | some c=>((s.1,s.2.1,s.2.2.1,(tellF (putF s.2.2.2.1 e.2.1).1 e.2.1.1 (c,0)).1,s.2.2.2.2),(c,0))
    | none=>(((resF s e.2.1).1.1,(resF s e.2.1).1.2.1,(resF s e.2.1).1.2.2.1++[(e.2.1,0,0,0,0)],(putF s.2.2.2.1 e.2.1).1,(resF s e.2.1).1.2.2.2.2),(10,0)))
   else (((opsF s e.2.1).1.1,(opsF s e.2.1).1.2.1,(opsF s e.2.1).1.2.2.1,(tellF (putF s.2.2.2.1 e.2.1).1 e.2.1.1 (opsF s e.2.1).2).1,(opsF s e.2.1).1.2.2.2.2),(opsF s e.2.1).2))):=by
    refine Ev2.diag (f:=fun k m=>h_eM_submit k m s.1 s.2.1 s.2.2.1 s.2.2.2.1 s.2.2.2.2 0 0 e.2.1.1 e.2.1.2.1 e.2.1.2.2.1 e.2.1.2.2.2.1 e.2.1.2.2.2.2.1 e.2.1.2.2.2.2.2.1 e.2.1.2.2.2.2.2.2) ?_
    refine Ev2.step (fun k m=>h_eM_submit_s k m s.1 s.2.1 s.2.2.1 s.2.2.2.1 s.2.2.2.2 0 0 e.2.1.1 e.2.1.2.1 e.2.1.2.2.1 e.2.1.2.2.2.1 e.2.1.2.2.2.2.1 e.2.1.2.2.2.2.2.1 e.2.1.2.2.2.2.2.2 _ rfl _ rfl) (Ev2.bind hput ?_)
    generalize putF s.2.2.2.1 e.2.1=P at hpl
    obtain ⟨ks,g⟩:=P
    dsimp only at hpl
    cases g with
    | some c=>exact Ev2.pos rfl (Ev2.bind (num_ev _) (Ev2.now _))
    | none =>
     refine Ev2.neg rfl (Ev2.bind (long_ev e.2.1) ?_)
     dsimp only
     by_cases hlo:long e.2.1
     ·rw [decide_eq_true hlo,if_pos hlo]
      refine Ev2.neg rfl (Ev2.bind (res_ev h.op e.2.1) ?_)
      have hrest:(resF s e.2.1).1.2.2.1=s.2.2.1:=by rw [(res_op h.op e.2.1).1.rest]
      generalize resF s e.2.1=R at hrest
      obtain ⟨t,g2⟩:=R
      dsimp only at hrest
      cases g2 with
      | some c=>exact Ev2.pos rfl (Ev2.bind (num_ev _) (Ev2.bind (tell_ev ks _ _ (by omega)) (Ev2.now _)))
      | none=>exact Ev2.neg rfl (Ev2.posD (by dsimp only;rw [hrest];omega) (Ev2.bind (begin_ev e.2.1) (Ev2.posD (by dsimp only;rw [hrest];simp only [List.length_cons,List.length_nil];omega) (Ev2.now _))))
     ·rw [decide_eq_false hlo,if_neg hlo]
      exact Ev2.pos rfl (Ev2.bind (ops_ev h.op e.2.1) (Ev2.bind (tell_ev ks _ _ (by omega)) (Ev2.now _)))
   by_cases hlo:long e.2.1
   ·rw [decide_eq_true hlo]
    refine Ev1.pos rfl ?_
    refine Ev1.iff (fun c=>by rw [if_pos ⟨hlo,c⟩];exact Ev1.now _) (fun c=>?_)
    rw [if_neg (fun q=>c q.2)]
    exact hz
   ·rw [decide_eq_false hlo,if_neg (fun q=>hlo q.1)]
    exact Ev1.neg rfl hz
theorem end_ev (s:TState)(hg:s.2.2.1.length<=16)(hk:s.2.2.2.1.length<=256)(i:Nat)(hi:i < s.2.2.1.length)(o:TReply):Ev1 (fun k=>CF k g_eM_end n_eM_end [Dm s,inj I (i:Int),inj KReply o]) (sw (endF s i o)):=by
 have ht:=tell_ev s.2.2.2.1 (s.2.2.1.getD i zG).1.1 o (by omega)
 have e1:Int.toNat (w64 ((i:Int)+1))=i+1:=by rw [wnat (by omega),Int.toNat_natCast]
 have e2:w64 ((i:Int)+1)=((i+1:Nat):Int):=wnat (by omega)
 have hl1:(s.2.2.1.take i).length<=16:=by rw [List.length_take];omega
 have hl2:(s.2.2.1.drop (i+1)).length<=16:=by rw [List.length_drop];omega
 refine Ev1.step (fun k=>f_eM_end k s (i:Int) o _ rfl _ rfl _ rfl _ rfl) ?_
 rw [e1,e2,Int.toNat_natCast]
 refine Ev1.pos (inb_true (by omega) (by omega)) (Ev1.pos (by rw [decide_eq_true (show (0:Int)<=(i:Int) by omega),decide_eq_true (show (i:Int)<=(s.2.2.1.length:Int) by omega)];rfl) (Ev1.posD (by omega) (Ev1.pos (by rw [decide_eq_true (show (0:Int)<=((i+1:Nat):Int) by omega),decide_eq_true (show ((i+1:Nat):Int)<=(s.2.2.1.length:Int) by omega)];rfl) (Ev1.posD (by omega) (Ev1.bind ht (Ev1.now _))))))
theorem gstep_ev {s:TState} (h:Inv s)(e:TEvent):Ev1 (fun k=>CF k g_eM_step n_eM_step [Dm s,inj KEvent e]) (sw (stepF s e.2.2.1 e.2.2.2)):=by
 have hgl:=h.gl
 have hkl:=h.kl
 refine Ev1.step (fun k=>f_eM_step k s e) (Ev1.bind (fg_ev s e.2.2.1 (by omega)) ?_)
 unfold stepF
 cases hf:fndG e.2.2.1 s.2.2.1 with
 | none=>exact Ev1.posD (by show (-1:Int) < 0;omega) (Ev1.now _)
 | some i =>
  have hi:=fndG_lt hf
  have hget:s.2.2.1.getD (Int.toNat (num (some i))) zG=s.2.2.1.getD i zG:=by show s.2.2.1.getD (Int.toNat (i:Int)) zG=_;rw [Int.toNat_natCast]
  refine Ev1.negD (by show ¬ ((i:Int) < 0);omega) (Ev1.pos (inb_true (by show (0:Int)<=(i:Int);omega) (by show (i:Int) < _;omega)) ?_)
  dsimp only
  unfold zG at hget ⊢
  rw [hget]
  generalize s.2.2.1.getD i ((0,0,0,0,0,0,0),0,0,0,0)=g
  have hset:∀ g2:TSaga,Ev1 (fun k=>h_eM_step k k (num (some i)) s.1 s.2.1 s.2.2.1 s.2.2.2.1 s.2.2.2.2 0 0 g2.1.1 g2.1.2.1 g2.1.2.2.1 g2.1.2.2.2.1 g2.1.2.2.2.2.1 g2.1.2.2.2.2.2.1 g2.1.2.2.2.2.2.2 g2.2.1 g2.2.2.1 g2.2.2.2.1 g2.2.2.2.2) (sw (putG s i g2)):=by
   intro g2
   have h2:Ev2 (fun k m=>h_eM_step k m (num (some i)) s.1 s.2.1 s.2.2.1 s.2.2.2.1 s.2.2.2.2 0 0 g2.1.1 g2.1.2.1 g2.1.2.2.1 g2.1.2.2.2.1 g2.1.2.2.2.2.1 g2.1.2.2.2.2.2.1 g2.1.2.2.2.2.2.2 g2.2.1 g2.2.2.1 g2.2.2.2.1 g2.2.2.2.2) (sw (putG s i g2)):=by
    refine Ev2.step (fun k m=>h_eM_step_s k m (num (some i)) s.1 s.2.1 s.2.2.1 s.2.2.2.1 s.2.2.2.2 0 0 g2.1.1 g2.1.2.1 g2.1.2.2.1 g2.1.2.2.2.1 g2.1.2.2.2.2.1 g2.1.2.2.2.2.2.1 g2.1.2.2.2.2.2.2 g2.2.1 g2.2.2.1 g2.2.2.2.1 g2.2.2.2.2) (Ev2.posD (by omega) (Ev2.pos (inb_true (by show (0:Int)<=(i:Int);omega) (by show (i:Int) < _;omega)) (Ev2.const ?_)))
    have:Int.toNat (num (some i))=i:=by show Int.toNat (i:Int)=i;rw [Int.toNat_natCast]
    rw [this]
    rfl
   exact h2.diag
  have hend:∀ (t:TState) (ht:Op s t) (o:TReply),Ev1 (fun k=>CF k g_eM_end n_eM_end [Dm t,inj I (num (some i)),inj KReply o]) (sw (endF t i o)):=by
   intro t ht o
   have e1:t.2.2.1=s.2.2.1:=by rw [ht.rest]
   have e2:t.2.2.2.1=s.2.2.2.1:=by rw [ht.rest]
   exact end_ev t (by rw [e1];omega) (by rw [e2];omega) i (by rw [e1];exact hi) o
  refine Ev1.iff (fun c=>?_) (fun c=>?_)
  ·rw [if_pos c]
   exact Ev1.bind (undo_ev h.op g.1) (Ev1.bind (hend _ (undo_op h.op g.1).1 _) (Ev1.now _))
  ·rw [if_neg c]
   refine Ev1.bind (ready_ev g) (Ev1.iff (fun c2=>?_) (fun c2=>?_))
   ·rw [if_pos c2]
    refine Ev1.bind (setl_ev h.op g.1) ?_
    have hs:=setl_op h.op g.1
    generalize setlF s g.1=w at hs
    obtain ⟨t,e2⟩:=w
    cases e2 with
    | none=>exact Ev1.pos rfl (Ev1.bind (hend t hs.1 _) (Ev1.now _))
    | some c3=>exact Ev1.neg rfl (Ev1.bind (num_ev _) (Ev1.bind (turn_ev g _) (hset _)))
   ·rw [if_neg c2]
    exact Ev1.bind (leg_ev g e.2.2.2) (hset _)
theorem do_ev {s:TState} (h:Inv s)(e:TEvent):Ev1 (fun k=>CF k g_engine_Do n_engine_Do [inj KState s,inj KEvent e]) (doF s e):=by
 refine Ev1.step (fun k=>f_engine_Do k s e) ?_
 unfold doF
 refine Ev1.iff (fun c=>by rw [if_pos c];exact Ev1.bind (sub_ev h e) (Ev1.now _)) (fun c=>?_)
 rw [if_neg c]
 refine Ev1.iff (fun c=>by rw [if_pos c];exact Ev1.bind (gstep_ev h e) (Ev1.now _)) (fun c=>?_)
 rw [if_neg c]
 refine Ev1.iff (fun c=>by rw [if_pos c];exact Ev1.bind (Ev1.step (fun k=>f_eM_tick k s e) (Ev1.bind (tick_ev h.op) (Ev1.now _))) (Ev1.now _)) (fun c=>?_)
 rw [if_neg c]
 exact Ev1.now _
theorem waits_l (l : List TSaga) (hl : l.length ≤ 16) : ∀ (d i : Nat) (out : List Int), i + d = l.length → out.length = i → Ev2 (fun k m => h_engine_Waits k m l (l.length : Int) (i : Int) out) (out ++ (l.drop i).map fun g => g.1.1)
  | 0, i, out, hi, ho => by
    refine Ev2.step (fun k m => h_engine_Waits_s k m l (l.length : Int) (i : Int) out _ rfl) (Ev2.negD (by omega) (Ev2.const ?_))
    rw [List.drop_of_length_le (by omega)]; simp
  | d + 1, i, out, hi, ho => by
    have hlt : i < l.length := by omega
    refine Ev2.step (fun k m => h_engine_Waits_s k m l (l.length : Int) (i : Int) out [(l[i]).1.1] (by rw [gG2 l i hlt])) (Ev2.posD (by omega) (Ev2.pos (inb_true (by omega) (by omega)) (Ev2.posD (by show (out.length + 1) * 8 ≤ 211106232532992; omega) ?_)))
    rw [wnat (by omega), List.drop_eq_getElem_cons hlt, List.map_cons]
    have := waits_l l hl d (i + 1) (out ++ [(l[i]).1.1]) (by omega) (by rw [List.length_append, ho]; rfl)
    rw [List.append_assoc] at this
    exact this
def waitsF (s:TState):List Int:=s.2.2.1.map fun g=>g.1.1
theorem waits_ev {s : TState} (hl : s.2.2.1.length ≤ 16) : Ev1 (fun k => CF k g_engine_Waits n_engine_Waits [inj KState s]) (waitsF s) :=
  Ev1.step (fun k => f_engine_Waits k s) (by simpa [waitsF] using (waits_l s.2.2.1 hl s.2.2.1.length 0 [] (by omega) rfl).diag)
end Go.Eng.Top
namespace Go.Eng.Top
open Go.RowKit Go.Eng Go.Eng.LVar Go.Eng.LCrc Go.Eng.LFrm
set_option maxRecDepth 100000
theorem mapGet_put:∀ (M:MF)(n:Int)(x:Option Nat),mapGet none (mapPut M n x) n=x
 | [],n,x=>by simp [mapPut,mapGet]
 | e::r,n,x=>by
  unfold mapPut
  by_cases h:e.1=n
  ·rw [decide_eq_true h,cond_true];simp [mapGet]
  ·rw [decide_eq_false h,cond_false]
   unfold mapGet
   rw [decide_eq_false h,cond_false]
   exact mapGet_put r n x
def Mof (t:Nat):Option Nat->Option Nat->MF
 | none,none=>[]
 | some g,none=>[(0,some g)]
 | none,some h=>[(((2+t:Nat):Int),some h)]
 | some g,some h=>[(0,some g),(((2+t:Nat):Int),some h)]
theorem mof_all (t:Nat)(b r:Option Nat):allS (Mof t b r)=true:=by cases b<;>cases r<;>rfl
theorem ne0 (t:Nat):¬ ((0:Int)=((2+t:Nat):Int)):=by omega
theorem ne1 (t:Nat):¬ (((2+t:Nat):Int)=(1:Int)):=by omega
theorem ne2 (t:Nat):¬ (((2+t:Nat):Int)=(0:Int)):=by omega
theorem mof_rec (t:Nat)(b r:Option Nat):mapGet none (Mof t b r) ((2+t:Nat):Int)=r:=by
 cases b<;>cases r<;>simp only [Mof,mapGet,decide_eq_false (ne0 t),cond_false,decide_eq_true,cond_true,decide_true]
theorem mof_one (t:Nat)(b r:Option Nat):mapGet none (Mof t b r) 1=none:=by
 cases b<;>cases r<;>simp only [Mof,mapGet,decide_eq_false (ne1 t),cond_false,decide_eq_false (show ¬ ((0:Int)=1) by omega)]
theorem mof_put (t:Nat)(b:Option Nat)(x:Nat):mapPut (Mof t b none) ((2+t:Nat):Int) (some x)=Mof t b (some x):=by
 cases b<;>simp only [Mof,mapPut,decide_eq_false (ne0 t),cond_false]
theorem mof_save (t:Nat)(b r:Option Nat)(x:Nat):mapPut (mapDel (mapPut (Mof t b r) 1 (some x)) 1) 0 (some x)=(match r with | some h=>(match b with | some _=>[(0,some x),(((2+t:Nat):Int),some h)] | none=>[(((2+t:Nat):Int),some h),(0,some x)]) | none=>[(0,some x)]):=by
 cases b<;>cases r<;>simp only [Mof,mapPut,mapDel,decide_eq_false (ne1 t),decide_eq_false (ne2 t),decide_eq_false (ne0 t),cond_false,decide_eq_false (show ¬ ((0:Int)=1) by omega),decide_true,cond_true]
theorem sum_mof {B:List (List Int)} {t u:Nat} {b r:Option Nat} (hb:∀ g,b=some g->(B.getD g []).length<=16390)(hr:∀ h,r=some h->(B.getD h []).length<=u):sumL B (Mof t b r)<=16390+u:=by
 cases b with
 | none =>
  cases r with
  | none=>simp [Mof,sumL]
  | some h=>have:=hr h rfl;simp only [Mof,sumL,Option.getD_some];omega
 | some g =>
  have:=hb g rfl
  cases r with
  | none=>simp only [Mof,sumL,Option.getD_some];omega
  | some h=>have:=hr h rfl;simp only [Mof,sumL,Option.getD_some];omega
structure DC where
 F:List MF
 R:List Int
 L:List Int
 S:List Bool
 jd:List (Option Nat)
 jt:List Int
 jb:List (List Int)
 jr:List (List (List Int))
 jk:List Bool
 B:List (List Int)
 sf:List Int
structure Lens (c c':DC):Prop where
 F:c'.F.length=c.F.length
 R:c'.R.length=c.R.length
 L:c'.L.length=c.L.length
 S:c'.S.length=c.S.length
 jd:c'.jd.length=c.jd.length
 jt:c'.jt.length=c.jt.length
 jb:c'.jb.length=c.jb.length
 jr:c'.jr.length=c.jr.length
 jk:c'.jk.length=c.jk.length
theorem Lens.refl (c:DC):Lens c c:=⟨rfl,rfl,rfl,rfl,rfl,rfl,rfl,rfl,rfl⟩
theorem Lens.trans {a b c:DC} (h:Lens a b)(k:Lens b c):Lens a c:=⟨k.F.trans h.F,k.R.trans h.R,k.L.trans h.L,k.S.trans h.S,k.jd.trans h.jd,k.jt.trans h.jt,k.jb.trans h.jb,k.jr.trans h.jr,k.jk.trans h.jk⟩
structure DI (c:DC)(j d t u n:Nat):Prop where
 dk:Dk c.F c.R c.L c.S d
 jd:c.jd.getD j none=some d
 jt:j < c.jt.length/\c.jt.getD j 0=(t:Int)
 jb:j < c.jb.length
 jr:j < c.jr.length/\(c.jr.getD j []).length<=n
 jk:c.jk.getD j false=false
 files:∃ b r,c.F.getD d []=Mof t b r/\(∀ g,b=some g->g < c.B.length/\(c.B.getD g []).length<=16390)/\(∀ h,r=some h->h < c.B.length/\(c.B.getD h []).length<=u)/\∀ g h,b=some g->r=some h->g ≠ h
theorem fail_none {j:Nat} {jk:List Bool}:Ev1 (fun k=>CF k g_jJ_fail n_jJ_fail [inj (.ref 99) (some j),inj .err none,Cs jk]) (none,jk) :=
 Ev1.step (fun k=>f_jJ_fail k (some j) none jk) (Ev1.pos rfl (Ev1.negD (by simp) (Ev1.now _)))
section
variable {F:List MF} {R L:List Int} {S:List Bool} {d j:Nat} {B:List (List Int)} {sf:List Int} {jd:List (Option Nat)} {jk:List Bool} {M:MF} {name:Int} {b:List Int}
theorem put_old (h:Dk F R L S d)(hj:jd.getD j none=some d)(hM:F.getD d []=M)(ha:allS M=true)(hs:sumL B M+b.length<=262144) {g:Nat} (hg:mapGet none M name=some g)(hl:(B.getD g []).length<=1000000) :
  ∃ sf',Ev1 (fun k=>CF k g_jJ_put n_jJ_put [inj (.ref 99) (some j),inj (.int .i64) name,inj BB b,Ci F,Cj R,Ck L,Cl S,Co jd,Cs jk,Ct B,Cu sf]) (none,F,R,L,S,jd,jk,B.set g (B.getD g []++b),sf'):=by
 refine ⟨sf.set g (((B.set g (B.getD g []++b)).getD g []).length:Int),Ev1.step (fun k=>f_jJ_put k (some j) name b F R L S jd jk B sf) (Ev1.pos rfl ?_)⟩
 simp only [Option.getD_some]
 rw [hj]
 exact Ev1.bind (append_old h hM ha hs hg hl) (Ev1.neg rfl (Ev1.pos rfl (Ev1.bind (sync_ev h hM hg) (Ev1.bind fail_none (Ev1.now _)))))
theorem put_new (h:Dk F R L S d)(hj:jd.getD j none=some d)(hM:F.getD d []=M)(ha:allS M=true)(hs:sumL B M+b.length<=262144)(hg:mapGet none M name=none) :
  ∃ sf',Ev1 (fun k=>CF k g_jJ_put n_jJ_put [inj (.ref 99) (some j),inj (.int .i64) name,inj BB b,Ci F,Cj R,Ck L,Cl S,Co jd,Cs jk,Ct B,Cu sf]) (none,F.set d (mapPut M name (some B.length)),R,L,S,jd,jk,B++[b],sf'):=by
 refine ⟨(sf++[0]).set B.length (((B++[b]).getD B.length []).length:Int),Ev1.step (fun k=>f_jJ_put k (some j) name b F R L S jd jk B sf) (Ev1.pos rfl ?_)⟩
 simp only [Option.getD_some]
 rw [hj]
 exact Ev1.bind (append_new h hM ha hs hg) (Ev1.neg rfl (Ev1.pos rfl (Ev1.bind (sync_ev (h.set _) (getD_set_self _ _ _ _ h.hd) (mapGet_put M name _)) (Ev1.bind fail_none (Ev1.now _)))))
end
theorem broken_ev {j:Nat} {jk:List Bool} (h:jk.getD j false=false):Ev1 (fun k=>CF k g_jJ_Broken n_jJ_Broken [inj (.ref 99) (some j),Cs jk]) (false,jk):=by
 refine Ev1.step (fun k=>f_jJ_Broken k (some j) jk) (Ev1.pos rfl (Ev1.const ?_))
 show some (jk.getD j false,jk)=_
 rw [h]
theorem jappend (c:DC) {j d t u n:Nat} (h:DI c j d t u n)(b:List Int)(hb:b.length<=10000)(hu:u+6+b.length<=200000)(hn:n<=100000)(ht:t<=100000) :
  ∃ c',Ev1 (fun k=>CF k g_jJ_Append n_jJ_Append [inj (.ref 99) (some j),inj (.slice BB) [b],Ci c.F,Cj c.R,Ck c.L,Cl c.S,Co c.jd,Cp c.jt,Cr c.jr,Cs c.jk,Ct c.B,Cu c.sf])
   (none,c'.F,c'.R,c'.L,c'.S,c'.jd,c'.jt,c'.jr,c'.jk,c'.B,c'.sf)/\c'.jb=c.jb/\DI c' j d t (u+6+b.length) (n+1)/\Lens c c':=by
 obtain ⟨bs,r,hF,hbs,hr,hne⟩:=h.files
 have hsum:=sum_mof (B:=c.B) (t:=t) (fun g hg=>(hbs g hg).2) (fun g hg=>(hr g hg).2)
 have hfl:=fr_len b
 have ename:w64 (2+c.jt.getD j 0)=((2+t:Nat):Int):=by rw [h.jt.2,w64_eq (by omega) (by omega)];omega
 -- what is laid
 have hput:∃ F' B' sf' r',Ev1 (fun k=>CF k g_jJ_put n_jJ_put [inj (.ref 99) (some j),inj (.int .i64) ((2+t:Nat):Int),inj BB (fr b),Ci c.F,Cj c.R,Ck c.L,Cl c.S,Co c.jd,Cs c.jk,Ct c.B,Cu c.sf])
   (none,F',c.R,c.L,c.S,c.jd,c.jk,B',sf')/\F'.length=c.F.length/\F'.getD d []=Mof t bs r'/\(∀ g,bs=some g->g < B'.length/\(B'.getD g []).length<=16390)/\(∀ h,r'=some h->h < B'.length/\(B'.getD h []).length<=u+6+b.length)/\∀ g h,bs=some g->r'=some h->g ≠ h:=by
  cases r with
  | some g =>
   obtain ⟨g1,g2⟩:=hr g rfl
   have hs2:sumL c.B (Mof t bs (some g))+(fr b).length<=262144:=by rw [hfl];omega
   obtain ⟨sf',e⟩:=put_old (b:=fr b) (sf:=c.sf) (jk:=c.jk) h.dk h.jd hF (mof_all t bs (some g)) hs2 (mof_rec t bs (some g)) (by omega)
   refine ⟨_,_,_,some g,e,rfl,hF,fun x hx=>?_,fun x hx=>?_,hne⟩
   ·obtain ⟨q1,q2⟩:=hbs x hx
    rw [getD_set_ne _ _ _ (Ne.symm (hne x g hx rfl)),List.length_set]
    exact ⟨q1,q2⟩
   ·cases hx
    rw [getD_set_self _ _ _ _ g1,List.length_set,List.length_append]
    exact ⟨g1,by omega⟩
  | none =>
   have hs2:sumL c.B (Mof t bs none)+(fr b).length<=262144:=by rw [hfl];omega
   obtain ⟨sf',e⟩:=put_new (b:=fr b) (sf:=c.sf) (jk:=c.jk) h.dk h.jd hF (mof_all t bs none) hs2 (mof_rec t bs none)
   refine ⟨_,_,_,some c.B.length,e,by rw [List.length_set],by rw [getD_set_self _ _ _ _ h.dk.hd,mof_put],fun x hx=>?_,fun x hx=>?_,fun x y hx hy=>?_⟩
   ·obtain ⟨q1,q2⟩:=hbs x hx
    rw [getD_app _ _ _ q1,List.length_append]
    exact ⟨by omega,q2⟩
   ·cases hx
    rw [getD_snoc,List.length_append]
    exact ⟨by simp,by omega⟩
   ·cases hy
    have:=(hbs x hx).1
    omega
 obtain ⟨F',B',sf',r',e,f1,f2,f3,f4,f5⟩:=hput
 refine ⟨⟨F',c.R,c.L,c.S,c.jd,c.jt,c.jb,c.jr.set j (c.jr.getD j []++[b]),c.jk,B',sf'⟩,?_,rfl,⟨⟨by rw [f1];exact h.dk.hd,h.dk.room,h.dk.left,h.dk.stop⟩,h.jd,h.jt,h.jb,⟨by rw [List.length_set];exact h.jr.1,?_⟩,h.jk,bs,r',f2,f3,f4,f5⟩,⟨f1,rfl,rfl,rfl,rfl,rfl,rfl,List.length_set,rfl⟩⟩
 ·have hr2:∀ s2,Ev2 (fun k m=>h_jJ_Append_1 k m (some j) [b] 1 1 F' c.R c.L c.S c.jd c.jt s2 c.jk B' sf') (none,F',c.R,c.L,c.S,c.jd,c.jt,s2,c.jk,B',sf'):=fun s2 =>
   Ev2.step (fun k m=>h_jJ_Append_1_s k m (some j) [b] 1 1 F' c.R c.L c.S c.jd c.jt s2 c.jk B' sf' _ rfl _ rfl) (Ev2.negD (by omega) (Ev2.now _))
  have hr1:Ev2 (fun k m=>h_jJ_Append_1 k m (some j) [b] 1 0 F' c.R c.L c.S c.jd c.jt c.jr c.jk B' sf') (none,F',c.R,c.L,c.S,c.jd,c.jt,c.jr.set j (c.jr.getD j []++[b]),c.jk,B',sf'):=by
   have hl:=h.jr.2
   refine Ev2.step (fun k m=>h_jJ_Append_1_s k m (some j) [b] 1 0 F' c.R c.L c.S c.jd c.jt c.jr c.jk B' sf' b rfl _ rfl) (Ev2.posD (by omega) (Ev2.pos rfl (Ev2.pos rfl (Ev2.posD (by omega) (Ev2.posD (by simp only [Option.getD_some,List.length_cons,List.length_nil];omega) (Ev2.pos rfl (Ev2.pos (by simp) ?_)))))))
   exact hr2 _
  have ha2:Ev2 (fun k m=>h_jJ_Append k m (some j) [b] [b] 1 1 (fr b) c.F c.R c.L c.S c.jd c.jt c.jr c.jk c.B c.sf) (none,F',c.R,c.L,c.S,c.jd,c.jt,c.jr.set j (c.jr.getD j []++[b]),c.jk,B',sf'):=by
   refine Ev2.step (fun k m=>h_jJ_Append_s k m (some j) [b] [b] 1 1 (fr b) c.F c.R c.L c.S c.jd c.jt c.jr c.jk c.B c.sf) (Ev2.negD (by omega) (Ev2.pos rfl ?_))
   simp only [Option.getD_some]
   rw [ename]
   exact Ev2.bind e (Ev2.neg rfl (Ev1.drop hr1.diag))
  have ha1:Ev2 (fun k m=>h_jJ_Append k m (some j) [b] [b] 1 0 [] c.F c.R c.L c.S c.jd c.jt c.jr c.jk c.B c.sf) (none,F',c.R,c.L,c.S,c.jd,c.jt,c.jr.set j (c.jr.getD j []++[b]),c.jk,B',sf'):=by
   have hm:=make_ev b (by omega)
   rw [if_neg (by omega)] at hm
   exact Ev2.step (fun k m=>h_jJ_Append_s k m (some j) [b] [b] 1 0 [] c.F c.R c.L c.S c.jd c.jt c.jr c.jk c.B c.sf) (Ev2.posD (by omega) (Ev2.pos rfl (Ev2.bind hm (Ev2.neg rfl (Ev2.posD (by simp only [List.length_nil];omega) ha2)))))
  exact Ev1.step (fun k=>f_jJ_Append k (some j) [b] c.F c.R c.L c.S c.jd c.jt c.jr c.jk c.B c.sf) (Ev1.pos rfl (Ev1.neg h.jk ha1.diag))
 ·rw [getD_set_self _ _ _ _ h.jr.1,List.length_append]
  have:=h.jr.2
  simp only [List.length_cons,List.length_nil]
  omega
theorem jsave (c:DC) {j d t u n:Nat} (h:DI c j d t u n)(b:List Int)(hb:b.length<=1000000)(hu:u<=200000)(ht:t < 100000) :
  ∃ e c' t',Ev1 (fun k=>CF k g_jJ_Save n_jJ_Save [inj (.ref 99) (some j),inj BB b,Ci c.F,Cj c.R,Ck c.L,Cl c.S,Co c.jd,Cp c.jt,Cq c.jb,Cr c.jr,Cs c.jk,Ct c.B,Cu c.sf])
   (e,c'.F,c'.R,c'.L,c'.S,c'.jd,c'.jt,c'.jb,c'.jr,c'.jk,c'.B,c'.sf)/\DI c' j d t' u n/\t<=t'/\t'<=t+1/\Lens c c':=by
 obtain ⟨bs,r,hF,hbs,hr,hne⟩:=h.files
 have hsum:=sum_mof (B:=c.B) (t:=t) (fun g hg=>(hbs g hg).2) (fun g hg=>(hr g hg).2)
 have e1:w64 (c.jt.getD j 0+1)=((t+1:Nat):Int):=by rw [h.jt.2,w64_eq (by omega) (by omega)];omega
 have e2:w64 (2+c.jt.getD j 0)=((2+t:Nat):Int):=by rw [h.jt.2,w64_eq (by omega) (by omega)];omega
 have hi:I64 [((t+1:Nat):Int)]:=by simp [I64];omega
 have hl:=encs_len hi
 simp only [List.length_cons,List.length_nil] at hl
 have hm:=make_ev (encs [((t+1:Nat):Int)]++b) (by rw [List.length_append];omega)
 by_cases hbig:16384 < (encs [((t+1:Nat):Int)]++b).length
 ·rw [if_pos hbig] at hm
  refine ⟨some 13,c,t,Ev1.step (fun k=>f_jJ_Save k (some j) b c.F c.R c.L c.S c.jd c.jt c.jb c.jr c.jk c.B c.sf _ rfl _ rfl _ rfl _ rfl _ rfl _ rfl) (Ev1.pos rfl (Ev1.neg h.jk (Ev1.pos rfl ?_))),?_,Nat.le_refl _,Nat.le_succ _,Lens.refl c⟩
  ·simp only [Option.getD_some]
   rw [e1]
   exact Ev1.bind (all_ev _ hi (by simp)) (Ev1.posD (by omega) (Ev1.bind hm (Ev1.pos rfl (Ev1.now _))))
  ·exact h
 ·rw [if_neg hbig] at hm
  have hfl:=fr_len (encs [((t+1:Nat):Int)]++b)
  generalize fr (encs [((t+1:Nat):Int)]++b)=x at hm hfl
  have hs2:sumL c.B (Mof t bs r)+x.length<=262144:=by rw [hfl];omega
  obtain ⟨sf',ep⟩:=put_new (b:=x) (sf:=c.sf) (jk:=c.jk) h.dk h.jd hF (mof_all t bs r) hs2 (mof_one t bs r)
  have d1:=h.dk.set (mapPut (Mof t bs r) 1 (some c.B.length))
  have er:=rename_ev d1 (getD_set_self _ _ _ [] h.dk.hd) (from_:=1) (to_:=0) (mapGet_put (Mof t bs r) 1 (some c.B.length))
  rw [mof_save] at er
  have d2:=d1.set (match r with | some h=>(match bs with | some _=>[(0,some c.B.length),(((2+t:Nat):Int),some h)] | none=>[(((2+t:Nat):Int),some h),(0,some c.B.length)]) | none=>[(0,some c.B.length)])
  have hset:=getD_set_self (c.F.set d (mapPut (Mof t bs r) 1 (some c.B.length))) d (match r with | some h=>(match bs with | some _=>[(0,some c.B.length),(((2+t:Nat):Int),some h)] | none=>[(((2+t:Nat):Int),some h),(0,some c.B.length)]) | none=>[(0,some c.B.length)]) ([]:MF) d1.hd
  have hfin:∃ F3,Ev1 (fun k=>((CF k g_dD_Read n_dD_Read [inj (.ref 29) (some d),inj (.int .i64) ((2+t:Nat):Int),Ci ((c.F.set d (mapPut (Mof t bs r) 1 (some c.B.length))).set d (match r with | some h=>(match bs with | some _=>[(0,some c.B.length),(((2+t:Nat):Int),some h)] | none=>[(((2+t:Nat):Int),some h),(0,some c.B.length)]) | none=>[(0,some c.B.length)])),Ct (c.B++[x])]).bind fun r_4 =>
    (bif r_4.2.1 then (bif (some j).isSome then ((CF k g_dD_Remove n_dD_Remove [inj (.ref 29) (some d),inj (.int .i64) ((2+t:Nat):Int),Ci r_4.2.2.1,Ck c.L,Cl c.S]).bind fun r_5 =>
     ((CF k g_jJ_fail n_jJ_fail [inj (.ref 99) (some j),inj .err r_5.1,Cs c.jk]).bind fun r_6 =>
      some (r_6.1,r_5.2.1,c.R,r_5.2.2.1,r_5.2.2.2,c.jd,c.jt.set j ((t+1:Nat):Int),c.jb.set j b,c.jr.set j [],r_6.2,r_4.2.2.2,sf'))) else none)
     else some (none,r_4.2.2.1,c.R,c.L,c.S,c.jd,c.jt.set j ((t+1:Nat):Int),c.jb.set j b,c.jr.set j [],c.jk,r_4.2.2.2,sf')):Option g_jJ_Save.R))
    (none,F3,c.R,c.L,c.S,c.jd,c.jt.set j ((t+1:Nat):Int),c.jb.set j b,c.jr.set j [],c.jk,c.B++[x],sf')/\F3.length=c.F.length/\F3.getD d []=Mof (t+1) (some c.B.length) none:=by
   cases r with
   | none =>
    refine ⟨_,Ev1.bind (read_none hset ?_) (Ev1.neg rfl (Ev1.now _)),by simp,hset⟩
    simp only [mapGet,decide_eq_false (ne0 t),cond_false]
   | some g =>
    have hg:=hr g rfl
    cases bs with
    | none =>
     have hget:mapGet none ([(((2+t:Nat):Int),some g),(0,some c.B.length)]:MF) ((2+t:Nat):Int)=some g:=by simp only [mapGet,decide_true,cond_true]
     refine ⟨_,Ev1.bind (read_some hset hget (by rw [getD_app _ _ _ hg.1];omega)) (Ev1.pos rfl (Ev1.pos rfl (Ev1.bind (remove_ev d2 hset hget) (Ev1.bind fail_none (Ev1.now _))))),by simp,?_⟩
     rw [getD_set_self _ _ _ _ d2.hd]
     simp only [mapDel,decide_true,cond_true,Mof]
    | some g0 =>
     have hget:mapGet none ([(0,some c.B.length),(((2+t:Nat):Int),some g)]:MF) ((2+t:Nat):Int)=some g:=by simp only [mapGet,decide_eq_false (ne0 t),cond_false,decide_true,cond_true]
     refine ⟨_,Ev1.bind (read_some hset hget (by rw [getD_app _ _ _ hg.1];omega)) (Ev1.pos rfl (Ev1.pos rfl (Ev1.bind (remove_ev d2 hset hget) (Ev1.bind fail_none (Ev1.now _))))),by simp,?_⟩
     rw [getD_set_self _ _ _ _ d2.hd]
     simp only [mapDel,decide_eq_false (ne0 t),cond_false,decide_true,cond_true,Mof]
  obtain ⟨F3,ef,f1,f2⟩:=hfin
  refine ⟨none,⟨F3,c.R,c.L,c.S,c.jd,c.jt.set j ((t+1:Nat):Int),c.jb.set j b,c.jr.set j [],c.jk,c.B++[x],sf'⟩,t+1,Ev1.step (fun k=>f_jJ_Save k (some j) b c.F c.R c.L c.S c.jd c.jt c.jb c.jr c.jk c.B c.sf _ rfl _ rfl _ rfl _ rfl _ rfl _ rfl) (Ev1.pos rfl (Ev1.neg h.jk (Ev1.pos rfl ?_))),?_,Nat.le_succ _,Nat.le_refl _,?_⟩
  ·simp only [Option.getD_some]
   rw [e1,e2]
   refine Ev1.bind (all_ev _ hi (by simp)) (Ev1.posD (by omega) (Ev1.bind hm (Ev1.neg rfl (Ev1.bind ep (Ev1.neg rfl (Ev1.pos rfl ?_))))))
   simp only []
   rw [h.jd]
   exact Ev1.bind er (Ev1.neg rfl (Ev1.pos rfl (Ev1.pos rfl (Ev1.pos rfl (Ev1.posD (by omega) (Ev1.pos rfl (Ev1.pos rfl (Ev1.pos rfl ef))))))))
  ·refine ⟨⟨by rw [f1];exact h.dk.hd,h.dk.room,h.dk.left,h.dk.stop⟩,h.jd,⟨by rw [List.length_set];exact h.jt.1,getD_set_self _ _ _ _ h.jt.1⟩,by rw [List.length_set];exact h.jb,⟨by rw [List.length_set];exact h.jr.1,by rw [getD_set_self _ _ _ _ h.jr.1];simp⟩,h.jk,some c.B.length,none,f2,fun g hg=>?_,fun g hg=>(by cases hg),fun g h _ hg=>(by cases hg)⟩
   cases hg
   rw [getD_snoc,List.length_append]
   exact ⟨by simp,by omega⟩
  ·exact ⟨f1,rfl,rfl,rfl,rfl,List.length_set,List.length_set,List.length_set,rfl⟩
end Go.Eng.Top
namespace Go.Eng.Top
open Go.RowKit Go.Eng Go.Eng.LVar Go.Eng.LCrc Go.Eng.LFrm
set_option maxRecDepth 100000
theorem DI.mono {c:DC} {j d t u n u' n':Nat} (h:DI c j d t u n)(hu:u<=u')(hn:n<=n'):DI c j d t u' n':=by
 obtain ⟨b,r,h1,h2,h3,h4⟩:=h.files
 exact ⟨h.dk,h.jd,h.jt,h.jb,⟨h.jr.1,Nat.le_trans h.jr.2 hn⟩,h.jk,b,r,h1,h2,fun g hg=>⟨(h3 g hg).1,Nat.le_trans (h3 g hg).2 hu⟩,h4⟩
theorem set_snoc {α:Type} (l:List α)(x y:α) {i:Nat} (h:i=l.length):(l++[x]).set i y=l++[y]:=by
 subst h;rw [List.set_append_right _ _ (Nat.le_refl _)];simp
theorem getD_snoc' {α:Type} (l:List α)(x z:α) {i:Nat} (h:i=l.length):(l++[x]).getD i z=x:=by
 subst h;exact getD_snoc l x z
theorem new_ev:Ev1 (fun k=>CF k g_ops_New n_ops_New []) s0:=Ev1.of_rfl 40 (fun k=>by kernel_rfl)
theorem scan_ev:Ev1 (fun k=>CF k g_frame_Scan n_frame_Scan [inj BB []]) ([],0):=Ev1.of_rfl 10 (fun k=>by kernel_rfl)
theorem jopen_ev {F:List MF} {L:List Int} {S:List Bool} {jd:List (Option Nat)} {jt:List Int} {jb:List (List Int)} {jr:List (List (List Int))} {jk:List Bool} {B:List (List Int)} {sf:List Int} {d:Nat} (hF:F.getD d []=[])(hr:jr.length=jd.length)(ht:jt.length=jd.length) :
  Ev1 (fun k=>CF k g_jO n_jO [inj (.ref 29) (some d),Ci F,Ck L,Cl S,Co jd,Cp jt,Cq jb,Cr jr,Cs jk,Ct B,Cu sf])
   (some jd.length,none,F,L,S,jd++[some d],jt++[0],jb++[[]],jr++[[]],jk++[false],B,sf):=by
 refine Ev1.step (fun k=>f_jO k (some d) F L S jd jt jb jr jk B sf _ rfl _ rfl _ rfl _ rfl) (Ev1.bind (read_none hF rfl) (Ev1.neg rfl ?_))
 have e2:w64 (2+(jt++[0]).getD jd.length 0)=2:=by rw [getD_snoc' jt 0 0 ht.symm];exact w64_id (by omega)
 have h3:Ev2 (fun k m=>h_jO_3 k m (some d) jd.length [] 0 0 F L S (jd++[some d]) (jt++[0]) (jb++[[]]) (jr++[[]]) (jk++[false]) B sf)
   (some jd.length,none,F,L,S,jd++[some d],jt++[0],jb++[[]],jr++[[]],jk++[false],B,sf):=by
  refine Ev2.step (fun k m=>h_jO_3_s k m (some d) jd.length [] 0 0 F L S (jd++[some d]) (jt++[0]) (jb++[[]]) (jr++[[]]) (jk++[false]) B sf _ rfl _ rfl _ rfl) (Ev2.negD (by omega) (Ev2.bind (read_none hF rfl) (Ev2.bind scan_ev (Ev2.neg rfl (Ev2.const ?_)))))
  rw [set_snoc jr [] [] hr.symm]
 have h1:Ev2 (fun k m=>h_jO_1 k m (some d) jd.length F L S (jd++[some d]) (jt++[0]) (jb++[[]]) (jr++[[]]) (jk++[false]) B sf)
   (some jd.length,none,F,L,S,jd++[some d],jt++[0],jb++[[]],jr++[[]],jk++[false],B,sf) :=
  Ev2.step (fun k m=>h_jO_1_s k m (some d) jd.length F L S (jd++[some d]) (jt++[0]) (jb++[[]]) (jr++[[]]) (jk++[false]) B sf) (Ev2.bind (names_ev hF) (Ev1.drop h3.diag))
 exact h1.diag
theorem turn_ev' {j:Nat} {jt:List Int} {t:Int} (h:jt.getD j 0=t):Ev1 (fun k=>CF k g_jJ_Turn n_jJ_Turn [inj (.ref 99) (some j),Cp jt]) (t,jt):=by
 refine Ev1.step (fun k=>f_jJ_Turn k (some j) jt) (Ev1.pos rfl (Ev1.const ?_))
 show some (jt.getD j 0,jt)=_
 rw [h]
theorem recs_ev {j:Nat} {jr:List (List (List Int))} (h:jr.getD j []=[]):Ev1 (fun k=>CF k g_jJ_Records n_jJ_Records [inj (.ref 99) (some j),Cr jr]) ([],jr):=by
 refine Ev1.step (fun k=>f_jJ_Records k (some j) jr) (Ev1.pos rfl ?_)
 simp only [Option.getD_some]
 rw [h]
 have h2:Ev2 (fun k m=>h_jJ_Records k m (some j) j 0 0 [] jr) ([],jr):=Ev2.step (fun k m=>h_jJ_Records_s k m (some j) j 0 0 [] jr _ rfl _ rfl) (Ev2.negD (by omega) (Ev2.now _))
 exact h2.diag
theorem dopen_ev {F:List MF} {L:List Int} {S:List Bool} {ej:List (Option Nat)} {es:List TState} {jd:List (Option Nat)} {jt:List Int} {jb:List (List Int)} {jr:List (List (List Int))} {jk:List Bool} {B:List (List Int)} {sf:List Int} {d:Nat} (hF:F.getD d []=[])(hr:jr.length=jd.length)(ht:jt.length=jd.length) :
  Ev1 (fun k=>CF k g_dO n_dO [inj (.ref 29) (some d),Ci F,Ck L,Cl S,Cm ej,Cn es,Co jd,Cp jt,Cq jb,Cr jr,Cs jk,Ct B,Cu sf])
   (some ej.length,none,F,L,S,ej++[some jd.length],es++[s0],jd++[some d],jt++[0],jb++[[]],jr++[[]],jk++[false],B,sf):=by
 have h1:Ev2 (fun k m=>h_dO_1 k m (some d) ej.length [] 0 0 F L S (ej++[some jd.length]) (es++[s0]) (jd++[some d]) (jt++[0]) (jb++[[]]) (jr++[[]]) (jk++[false]) B sf)
   (some ej.length,none,F,L,S,ej++[some jd.length],es++[s0],jd++[some d],jt++[0],jb++[[]],jr++[[]],jk++[false],B,sf) :=
  Ev2.step (fun k m=>h_dO_1_s k m (some d) ej.length [] 0 0 F L S (ej++[some jd.length]) (es++[s0]) (jd++[some d]) (jt++[0]) (jb++[[]]) (jr++[[]]) (jk++[false]) B sf) (Ev2.negD (by omega) (Ev2.now _))
 have h0:Ev2 (fun k m=>h_dO k m (some d) (some jd.length) ej.length F L S (ej++[some jd.length]) (es++[s0]) (jd++[some d]) (jt++[0]) (jb++[[]]) (jr++[[]]) (jk++[false]) B sf)
   (some ej.length,none,F,L,S,ej++[some jd.length],es++[s0],jd++[some d],jt++[0],jb++[[]],jr++[[]],jk++[false],B,sf) :=
  Ev2.step (fun k m=>h_dO_s k m (some d) (some jd.length) ej.length F L S (ej++[some jd.length]) (es++[s0]) (jd++[some d]) (jt++[0]) (jb++[[]]) (jr++[[]]) (jk++[false]) B sf) (Ev2.bind (recs_ev (getD_snoc' jr [] [] hr.symm)) (Ev1.drop h1.diag))
 exact Ev1.step (fun k=>f_dO k (some d) F L S ej es jd jt jb jr jk B sf) (Ev1.bind (jopen_ev hF hr ht) (Ev1.neg rfl (Ev1.bind new_ev (Ev1.bind (turn_ev' (getD_snoc' jt 0 0 ht.symm)) (Ev1.negD (by omega) h0.diag)))))
theorem state_len {s:TState} (h:Inv s):(encs (stL s)).length<=100000:=by
 have h0:=h.op.rt.hi
 have h1:=h.op.pl
 have h2:=h.gl
 have h3:=h.kl
 have hl:=encs_len (stL_i64 h.st)
 have e0:=fm_len acL 3 (fun _=>rfl) s.1
 have e1:=fm_len payL 8 (fun _=>rfl) s.2.1
 have e2:=fm_len sagL 11 (fun _=>rfl) s.2.2.1
 have e3:=fm_len knL 10 (fun _=>rfl) s.2.2.2.1
 have:(stL s).length<=5000:=by
  simp only [stL,t1,t2,t3,List.length_cons,List.length_append]
  omega
 omega
theorem eev {x:Nat} {es:List TState} {s:TState} (h:es.getD x ([],[],[],[],0)=s):Ev1 (fun k=>CF k g_dE_State n_dE_State [inj (.ref 30) (some x),Cn es]) (s,es):=by
 refine Ev1.step (fun k=>f_dE_State k (some x) es) (Ev1.pos rfl (Ev1.const ?_))
 show some (es.getD x ([],[],[],[],0),es)=_
 rw [h]
theorem set_same {α:Type} (l:List α)(i:Nat)(z:α)(h:i < l.length) {x:α} (hx:l.getD i z=x):l.set i x=l:=by
 rw [getD_at l i z h] at hx
 rw [<- hx,List.set_getElem_self]
theorem ddo_ev (c:DC) {x j d t u n:Nat} {ej:List (Option Nat)} {es:List TState} {s:TState} (h:DI c j d t u n)(hs:Inv s)(hej:ej.getD x none=some j)(hx:x < es.length)(hes:es.getD x ([],[],[],[],0)=s)(e:TEvent)(he:I64 (evL e))(hr:I64 (rqL e.2.1)) {l:Nat} (hel:(encs (evL e)).length<=l)(hl80:l<=80)(hu:u<=190000)(hn:n<=90000)(ht:t<=90000) :
  ∃ c',Ev1 (fun k=>CF k g_dE_Do n_dE_Do [inj (.ref 30) (some x),inj KEvent e,Ci c.F,Cj c.R,Ck c.L,Cl c.S,Cm ej,Cn es,Co c.jd,Cp c.jt,Cq c.jb,Cr c.jr,Cs c.jk,Ct c.B,Cu c.sf])
   ((doF s e).2,c'.F,c'.R,c'.L,c'.S,ej,es.set x (doF s e).1,c'.jd,c'.jt,c'.jb,c'.jr,c'.jk,c'.B,c'.sf)/\DI c' j d t (u+6+l) (n+1)/\Lens c c':=by
 have hd:=do_ev hs e
 have hi:=(do_all hs e hr).1
 have hst:=same_st s (doF s e).1 hs.st hi.st
 by_cases hq:stL s=stL (doF s e).1
 ·have hqe:(doF s e).1=s:=(stL_inj hq).symm
  refine ⟨c,Ev1.step (fun k=>f_dE_Do k (some x) e c.F c.R c.L c.S ej es c.jd c.jt c.jb c.jr c.jk c.B c.sf s hes.symm) (Ev1.pos rfl ?_),h.mono (by omega) (by omega),Lens.refl c⟩
  simp only [Option.getD_some]
  rw [hej]
  refine Ev1.bind (broken_ev h.jk) (Ev1.neg rfl (Ev1.pos rfl (Ev1.bind hd (Ev1.pos rfl (Ev1.bind hst (Ev1.posD hq (Ev1.const ?_)))))))
  rw [hqe,set_same es x _ hx hes]
 ·obtain ⟨c',ha,hjb,hD,hL⟩:=jappend c h (encs (evL e)) (by omega) (by omega) (by omega) (by omega)
  refine ⟨c',Ev1.step (fun k=>f_dE_Do k (some x) e c.F c.R c.L c.S ej es c.jd c.jt c.jb c.jr c.jk c.B c.sf s hes.symm) (Ev1.pos rfl ?_),hD.mono (by omega) (by omega),hL⟩
  simp only [Option.getD_some]
  rw [hej]
  refine Ev1.bind (broken_ev h.jk) (Ev1.neg rfl (Ev1.pos rfl (Ev1.bind hd (Ev1.pos rfl (Ev1.bind hst (Ev1.negD hq (Ev1.bind (event_ev e he) (Ev1.pos rfl (Ev1.bind ha (Ev1.pos rfl (Ev1.neg rfl ?_)))))))))))
  have h2:Ev2 (fun k m=>h_dE_Do k m (some x) none 0 0 (doF s e).1.1 (doF s e).1.2.1 (doF s e).1.2.2.1 (doF s e).1.2.2.2.1 (doF s e).1.2.2.2.2 (doF s e).2.1 (doF s e).2.2 c'.F c'.R c'.L c'.S ej es c'.jd c'.jt c.jb c'.jr c'.jk c'.B c'.sf)
   ((doF s e).2,c'.F,c'.R,c'.L,c'.S,ej,es.set x (doF s e).1,c'.jd,c'.jt,c'.jb,c'.jr,c'.jk,c'.B,c'.sf):=by
   rw [hjb]
   exact Ev2.step (fun k m=>h_dE_Do_s k m (some x) none 0 0 (doF s e).1.1 (doF s e).1.2.1 (doF s e).1.2.2.1 (doF s e).1.2.2.2.1 (doF s e).1.2.2.2.2 (doF s e).2.1 (doF s e).2.2 c'.F c'.R c'.L c'.S ej es c'.jd c'.jt c.jb c'.jr c'.jk c'.B c'.sf) (Ev2.neg rfl (Ev2.pos rfl (Ev2.now _)))
  exact h2.diag
theorem dkeep_ev (c:DC) {x j d t u n:Nat} {ej:List (Option Nat)} {es:List TState} {s:TState} (h:DI c j d t u n)(hs:Inv s)(hej:ej.getD x none=some j)(hes:es.getD x ([],[],[],[],0)=s)(hu:u<=190000)(ht:t<=90000) :
  ∃ e c' t',Ev1 (fun k=>CF k g_dE_Keep n_dE_Keep [inj (.ref 30) (some x),Ci c.F,Cj c.R,Ck c.L,Cl c.S,Cm ej,Cn es,Co c.jd,Cp c.jt,Cq c.jb,Cr c.jr,Cs c.jk,Ct c.B,Cu c.sf])
   (e,c'.F,c'.R,c'.L,c'.S,ej,es,c'.jd,c'.jt,c'.jb,c'.jr,c'.jk,c'.B,c'.sf)/\DI c' j d t' u n/\t<=t'/\t'<=t+1/\Lens c c':=by
 have hl:=state_len hs
 obtain ⟨e,c',t',he,hD,h1,h2,hL⟩:=jsave c h (encs (stL s)) (by omega) (by omega) (by omega)
 refine ⟨e,c',t',Ev1.step (fun k=>f_dE_Keep k (some x) c.F c.R c.L c.S ej es c.jd c.jt c.jb c.jr c.jk c.B c.sf) (Ev1.pos rfl (Ev1.pos rfl ?_)),hD,h1,h2,hL⟩
 simp only [Option.getD_some]
 rw [hej,hes]
 exact Ev1.bind (state_ev s hs.st) (Ev1.bind he (Ev1.now _))
end Go.Eng.Top
namespace Go.Eng.Top
open Go.RowKit Go.Eng Go.Eng.LVar
set_option maxRecDepth 100000
abbrev zS:TSaid:=((0,0,0,0,0,0,0),0,0)
abbrev zT:TState:=([],[],[],[],0)
abbrev zR:TRequest:=(0,0,0,0,0,0,0)
abbrev St2:Type:=TState × List TSaid
def askS (p:St2)(r:TRequest):St2:=((doF p.1 (0,r,0,false)).1,p.2++[(r,(doF p.1 (0,r,0,false)).2)])
def actF (p:St2)(a:TEvent):St2 :=
 if a.1=0 then askS p a.2.1
 else if a.1=1 then (if 0 < (p.2.length:Int) then askS p (p.2.getD (Int.toNat (Int.tmod a.2.2.1 (p.2.length:Int))) zS).1 else p)
 else if a.1=2 then (if 0 < ((waitsF p.1).length:Int) then ((doF p.1 (1,zR,(waitsF p.1).getD (Int.toNat (Int.tmod a.2.2.1 ((waitsF p.1).length:Int))) 0,a.2.2.2)).1,p.2) else p)
 else if a.1=3 then ((doF p.1 (2,zR,0,false)).1,p.2)
 else p
structure AOk (a:TEvent):Prop where
 kind:0<=a.1/\a.1<=4
 n:0<=a.2.2.1
 rq:I64 (rqL a.2.1)
structure WC where
 wd:List (Option Nat)
 we:List (Option Nat)
 ws:List (List TSaid)
 wn:List (List TEvent)
 wc:List Int
 wr:List (Option Int)
 ww:List TState
 wo:List (List TEvent)
 ej:List (Option Nat)
 es:List TState
 c:DC
structure WI (W:WC)(w x j d:Nat)(s:TState)(said:List TSaid)(t u n:Nat):Prop where
 wd:W.wd.getD w none=some d
 we:W.we.getD w none=some x
 ws:w < W.ws.length/\W.ws.getD w []=said
 wn:w < W.wn.length/\(W.wn.getD w []).length<=n
 wr:W.wr.getD w none=none
 wo:w < W.wo.length/\(W.wo.getD w []).length<=n
 ej:W.ej.getD x none=some j
 es:x < W.es.length/\W.es.getD x zT=s
 di:DI W.c j d t u n
 inv:Inv s
 sl:said.length<=n
 sr:∀ a ∈ said,I64 (rqL a.1)
structure Fr (W W':WC)(w x:Nat):Prop where
 wd:W'.wd=W.wd
 we:W'.we=W.we
 wc:W'.wc=W.wc
 wr:W'.wr=W.wr
 ej:W'.ej=W.ej
 ws:∀ i,i ≠ w->W'.ws.getD i []=W.ws.getD i []
 es:∀ i,i ≠ x->W'.es.getD i zT=W.es.getD i zT
 lws:W'.ws.length=W.ws.length
 lwn:W'.wn.length=W.wn.length
 lww:W'.ww.length=W.ww.length
 lwo:W'.wo.length=W.wo.length
 les:W'.es.length=W.es.length
 c:Lens W.c W'.c
theorem Fr.refl (W:WC)(w x:Nat):Fr W W w x:=⟨rfl,rfl,rfl,rfl,rfl,fun _ _=>rfl,fun _ _=>rfl,rfl,rfl,rfl,rfl,rfl,Lens.refl _⟩
theorem Fr.trans {A B C:WC} {w x:Nat} (h:Fr A B w x)(k:Fr B C w x):Fr A C w x :=
 ⟨k.wd.trans h.wd,k.we.trans h.we,k.wc.trans h.wc,k.wr.trans h.wr,k.ej.trans h.ej,fun i hi=>(k.ws i hi).trans (h.ws i hi),fun i hi=>(k.es i hi).trans (h.es i hi),k.lws.trans h.lws,k.lwn.trans h.lwn,k.lww.trans h.lww,k.lwo.trans h.lwo,k.les.trans h.les,h.c.trans k.c⟩
noncomputable abbrev callDoes (k w:Nat)(e:TEvent)(W:WC):=CF k g_wW_does n_wW_does [inj (.ref 26) (some w),inj KEvent e,Cb W.we,Cd W.wn,Cg W.ww,Ch W.wo,Ci W.c.F,Cj W.c.R,Ck W.c.L,Cl W.c.S,Cm W.ej,Cn W.es,Co W.c.jd,Cp W.c.jt,Cq W.c.jb,Cr W.c.jr,Cs W.c.jk,Ct W.c.B,Cu W.c.sf]
abbrev outD (o:TReply)(W:WC):R6:=(o,W.we,W.wn,W.ww,W.wo,W.c.F,W.c.R,W.c.L,W.c.S,W.ej,W.es,W.c.jd,W.c.jt,W.c.jb,W.c.jr,W.c.jk,W.c.B,W.c.sf)
noncomputable abbrev callAsk (k w:Nat)(r:TRequest)(W:WC):=CF k g_wW_ask n_wW_ask [inj (.ref 26) (some w),inj KRequest r,Cb W.we,Cc W.ws,Cd W.wn,Cg W.ww,Ch W.wo,Ci W.c.F,Cj W.c.R,Ck W.c.L,Cl W.c.S,Cm W.ej,Cn W.es,Co W.c.jd,Cp W.c.jt,Cq W.c.jb,Cr W.c.jr,Cs W.c.jk,Ct W.c.B,Cu W.c.sf]
abbrev outK (W:WC):R5:=(W.we,W.ws,W.wn,W.ww,W.wo,W.c.F,W.c.R,W.c.L,W.c.S,W.ej,W.es,W.c.jd,W.c.jt,W.c.jb,W.c.jr,W.c.jk,W.c.B,W.c.sf)
noncomputable abbrev callAct (k w:Nat)(a:TEvent)(keep:Int)(W:WC):=CF k g_wW_Act n_wW_Act [inj (.ref 26) (some w),inj KEvent a,inj I keep,Ca W.wd,Cb W.we,Cc W.ws,Cd W.wn,Ce W.wc,Cf W.wr,Cg W.ww,Ch W.wo,Ci W.c.F,Cj W.c.R,Ck W.c.L,Cl W.c.S,Cm W.ej,Cn W.es,Co W.c.jd,Cp W.c.jt,Cq W.c.jb,Cr W.c.jr,Cs W.c.jk,Ct W.c.B,Cu W.c.sf]
abbrev outW (W:WC):R3:=(W.wd,W.we,W.ws,W.wn,W.wc,W.wr,W.ww,W.wo,W.c.F,W.c.R,W.c.L,W.c.S,W.ej,W.es,W.c.jd,W.c.jt,W.c.jb,W.c.jr,W.c.jk,W.c.B,W.c.sf)
theorem does_ev (W:WC) {w x j d:Nat} {s:TState} {said:List TSaid} {t u n:Nat} (h:WI W w x j d s said t u n)(e:TEvent)(he:I64 (evL e))(hr:I64 (rqL e.2.1)) {l:Nat} (hel:(encs (evL e)).length<=l)(hl80:l<=80)(hu:u<=190000)(hn:n<=90000)(ht:t<=90000) :
  ∃ W',Ev1 (fun k=>callDoes k w e W) (outD (doF s e).2 W')/\WI W' w x j d (doF s e).1 said t (u+6+l) (n+1)/\W'.ws=W.ws/\Fr W W' w x:=by
 obtain ⟨c',hd,hD,hL⟩:=ddo_ev W.c h.di h.inv h.ej h.es.1 h.es.2 e he hr hel hl80 hu hn ht
 have hinv:=(do_all h.inv e hr).1
 have hsl:=h.sl
 have hwn:=h.wn.2
 have hwo:=h.wo.2
 have base:∀ (wn' wo':List (List TEvent)),wn'.length=W.wn.length->wo'.length=W.wo.length->(wn'.getD w []).length<=n+1->(wo'.getD w []).length<=n+1 ->
   WI ⟨W.wd,W.we,W.ws,wn',W.wc,W.wr,W.ww.set w s,wo',W.ej,W.es.set x (doF s e).1,c'⟩ w x j d (doF s e).1 said t (u+6+l) (n+1)/\Fr W ⟨W.wd,W.we,W.ws,wn',W.wc,W.wr,W.ww.set w s,wo',W.ej,W.es.set x (doF s e).1,c'⟩ w x:=by
  intro wn' wo' h1 h2 h3 h4
  refine ⟨⟨h.wd,h.we,h.ws,⟨by rw [h1];exact h.wn.1,h3⟩,h.wr,⟨by rw [h2];exact h.wo.1,h4⟩,h.ej,⟨by rw [List.length_set];exact h.es.1,getD_set_self _ _ _ _ h.es.1⟩,hD,hinv,by omega,h.sr⟩,⟨rfl,rfl,rfl,rfl,rfl,fun _ _=>rfl,fun i hi=>getD_set_ne _ _ _ (Ne.symm hi),rfl,h1,List.length_set,h2,List.length_set,hL⟩⟩
 have go:∀ {g:Nat->R9->Option R6} {r:R6},Ev1 (fun k=>g k ((doF s e).2,c'.F,c'.R,c'.L,c'.S,W.ej,W.es.set x (doF s e).1,c'.jd,c'.jt,c'.jb,c'.jr,c'.jk,c'.B,c'.sf)) r ->
   Ev1 (fun k=>(CF k g_dE_Do n_dE_Do [inj (.ref 30) (W.we.getD w none),inj KEvent e,Ci W.c.F,Cj W.c.R,Ck W.c.L,Cl W.c.S,Cm W.ej,Cn W.es,Co W.c.jd,Cp W.c.jt,Cq W.c.jb,Cr W.c.jr,Cs W.c.jk,Ct W.c.B,Cu W.c.sf]).bind (g k)) r:=by
  intro g r hg
  rw [h.we]
  exact Ev1.bind hd hg
 have hst:Ev1 (fun k=>CF k g_dE_State n_dE_State [inj (.ref 30) (W.we.getD w none),Cn W.es]) (s,W.es):=by rw [h.we];exact eev h.es.2
 by_cases c12:(doF s e).2.1=12
 ·obtain ⟨q1,q2⟩:=base W.wn (W.wo.set w (W.wo.getD w []++[e])) rfl List.length_set (by omega) (by rw [getD_set_self _ _ _ _ h.wo.1,List.length_append];simp only [List.length_cons,List.length_nil];omega)
  refine ⟨⟨W.wd,W.we,W.ws,W.wn,W.wc,W.wr,W.ww.set w s,W.wo.set w (W.wo.getD w []++[e]),W.ej,W.es.set x (doF s e).1,c'⟩,Ev1.step (fun k=>f_wW_does k (some w) e W.we W.wn W.ww W.wo W.c.F W.c.R W.c.L W.c.S W.ej W.es W.c.jd W.c.jt W.c.jb W.c.jr W.c.jk W.c.B W.c.sf _ rfl _ rfl) (Ev1.pos rfl (Ev1.bind hst (Ev1.pos rfl (Ev1.pos rfl (go ?_))))),q1,rfl,q2⟩
  exact Ev1.posD c12 (Ev1.pos rfl (Ev1.posD (by simp only [Option.getD_some,List.length_cons,List.length_nil];omega) (Ev1.pos rfl (Ev1.pos (by simp) (Ev1.now _)))))
 ·by_cases c8:(doF s e).2.1=8
  ·obtain ⟨q1,q2⟩:=base W.wn W.wo rfl rfl (by omega) (by omega)
   refine ⟨⟨W.wd,W.we,W.ws,W.wn,W.wc,W.wr,W.ww.set w s,W.wo,W.ej,W.es.set x (doF s e).1,c'⟩,Ev1.step (fun k=>f_wW_does k (some w) e W.we W.wn W.ww W.wo W.c.F W.c.R W.c.L W.c.S W.ej W.es W.c.jd W.c.jt W.c.jb W.c.jr W.c.jk W.c.B W.c.sf _ rfl _ rfl) (Ev1.pos rfl (Ev1.bind hst (Ev1.pos rfl (Ev1.pos rfl (go ?_))))),q1,rfl,q2⟩
   exact Ev1.negD c12 (Ev1.posD c8 (Ev1.now _))
  ·obtain ⟨q1,q2⟩:=base (W.wn.set w (W.wn.getD w []++[e])) W.wo List.length_set rfl (by rw [getD_set_self _ _ _ _ h.wn.1,List.length_append];simp only [List.length_cons,List.length_nil];omega) (by omega)
   refine ⟨⟨W.wd,W.we,W.ws,W.wn.set w (W.wn.getD w []++[e]),W.wc,W.wr,W.ww.set w s,W.wo,W.ej,W.es.set x (doF s e).1,c'⟩,Ev1.step (fun k=>f_wW_does k (some w) e W.we W.wn W.ww W.wo W.c.F W.c.R W.c.L W.c.S W.ej W.es W.c.jd W.c.jt W.c.jb W.c.jr W.c.jk W.c.B W.c.sf _ rfl _ rfl) (Ev1.pos rfl (Ev1.bind hst (Ev1.pos rfl (Ev1.pos rfl (go ?_))))),q1,rfl,q2⟩
   exact Ev1.negD c12 (Ev1.negD c8 (Ev1.pos rfl (Ev1.posD (by simp only [Option.getD_some,List.length_cons,List.length_nil];omega) (Ev1.pos rfl (Ev1.pos (by simp) (Ev1.now _))))))
theorem i64_ev0 {r:TRequest} (h:I64 (rqL r)):I64 (evL (0,r,0,false)):=i64_cons.2 ⟨by simp,by simpa [evL] using h⟩
theorem i64_ev1 {key:Int} (h:-9223372036854775808<=key/\key<=9223372036854775807)(ok:Bool):I64 (evL (1,zR,key,ok)):=by
 refine i64_cons.2 ⟨by simp,?_⟩
 simp only [show ¬ ((1:Int)=0) by omega,if_false,if_true]
 refine i64_cons.2 ⟨h,?_⟩
 cases ok<;>simp [I64]
theorem i64_ev2:I64 (evL (2,zR,0,false)):=by simp [evL,I64]
theorem ask_w (W:WC) {w x j d:Nat} {s:TState} {said:List TSaid} {t u n:Nat} (h:WI W w x j d s said t u n)(r:TRequest)(hr:I64 (rqL r)) {l:Nat} (hel:(encs (evL (0,r,0,false))).length<=l)(hl80:l<=80)(hu:u<=190000)(hn:n<=90000)(ht:t<=90000) :
  ∃ W',Ev1 (fun k=>callAsk k w r W) (outK W')/\WI W' w x j d (askS (s,said) r).1 (askS (s,said) r).2 t (u+6+l) (n+1)/\Fr W W' w x:=by
 obtain ⟨W',hd,hW,hws,hF⟩:=does_ev W h (0,r,0,false) (i64_ev0 hr) hr hel hl80 hu hn ht
 have hsl:=h.sl
 have hlw:w < W'.ws.length:=hW.ws.1
 refine ⟨⟨W'.wd,W'.we,W.ws.set w (W.ws.getD w []++[(r,(doF s (0,r,0,false)).2)]),W'.wn,W'.wc,W'.wr,W'.ww,W'.wo,W'.ej,W'.es,W'.c⟩,Ev1.step (fun k=>f_wW_ask k (some w) r W.we W.ws W.wn W.ww W.wo W.c.F W.c.R W.c.L W.c.S W.ej W.es W.c.jd W.c.jt W.c.jb W.c.jr W.c.jk W.c.B W.c.sf _ rfl) (Ev1.pos rfl (Ev1.bind hd (Ev1.posD ?_ (Ev1.pos rfl (Ev1.pos (by simp) (Ev1.now _)))))),⟨hW.wd,hW.we,⟨by rw [List.length_set];exact h.ws.1,by rw [getD_set_self _ _ _ _ h.ws.1,h.ws.2];rfl⟩,hW.wn,hW.wr,hW.wo,hW.ej,hW.es,hW.di,hW.inv,?_,?_⟩,⟨hF.wd,hF.we,hF.wc,hF.wr,hF.ej,fun i hi=>getD_set_ne _ _ _ (Ne.symm hi),hF.es,List.length_set,hF.lwn,hF.lww,hF.lwo,hF.les,hF.c⟩⟩
 ·simp only [Option.getD_some]
  rw [h.ws.2]
  simp only [List.length_cons,List.length_nil]
  omega
 ·show (said++[_]).length<=n+1
  rw [List.length_append];simp only [List.length_cons,List.length_nil];omega
 ·intro a ha
  rcases List.mem_append.1 (show a ∈ said++[_] from ha) with ha | ha
  ·exact h.sr a ha
  ·rw [List.mem_singleton] at ha;rw [ha];exact hr
theorem stop_ev (W:WC) {w x j d:Nat} {s:TState} {said:List TSaid} {t u n:Nat} (h:WI W w x j d s said t u n):Ev1 (fun k=>CF k g_dD_Stopped n_dD_Stopped [inj (.ref 29) (W.wd.getD w none),Cl W.c.S]) (false,W.c.S):=by
 rw [h.wd]
 refine Ev1.step (fun k=>f_dD_Stopped k (some d) W.c.S) (Ev1.pos rfl (Ev1.const ?_))
 show some (W.c.S.getD d false,W.c.S)=_
 rw [h.di.dk.stop]
theorem WI.mono {W:WC} {w x j d:Nat} {s:TState} {said:List TSaid} {t u n u' n':Nat} (h:WI W w x j d s said t u n)(hu:u<=u')(hn:n<=n'):WI W w x j d s said t u' n' :=
 ⟨h.wd,h.we,h.ws,⟨h.wn.1,Nat.le_trans h.wn.2 hn⟩,h.wr,⟨h.wo.1,Nat.le_trans h.wo.2 hn⟩,h.ej,h.es,h.di.mono hu hn,h.inv,Nat.le_trans h.sl hn,h.sr⟩
theorem tmod_in {a:Int} (ha:0<=a) {n:Nat} (hn:0 < (n:Int)):0<=Int.tmod a (n:Int)/\Int.tmod a (n:Int) < (n:Int):=by
 rw [Int.tmod_eq_emod_of_nonneg ha]
 exact ⟨Int.emod_nonneg _ (by omega),Int.emod_lt_of_pos _ hn⟩
theorem getD_mem {α:Type} (l:List α)(z:α) {i:Int} (h:0<=i/\i < (l.length:Int)):l.getD (Int.toNat i) z ∈ l:=by
 obtain ⟨n,rfl⟩:=Int.eq_ofNat_of_zero_le h.1
 rw [Int.toNat_natCast,getD_at l n z (by omega)]
 exact List.getElem_mem _
theorem actl_ev (W:WC) {w x j d:Nat} {s:TState} {said:List TSaid} {t u n:Nat} (h:WI W w x j d s said t u n)(a:TEvent)(ha:AOk a)(keep:Int) {l:Nat} (hl80:l<=80)(hl0:a.1=0->(encs (evL (0,a.2.1,0,false))).length<=l)(hl1:a.1=1->80<=l)(hl3:(encs (evL (2,zR,0,false))).length<=l)(hl2:a.1=2->∀ q ∈ waitsF s,(encs (evL (1,zR,q,a.2.2.2))).length<=l)(hu:u<=190000)(hn:n<=90000)(ht:t<=90000) :
  ∃ W' t',Ev1 (fun k=>callAct k w a keep W) (outW W')/\WI W' w x j d (actF (s,said) a).1 (actF (s,said) a).2 t' (u+6+l) (n+1)/\t'<=t+1/\Fr W W' w x:=by
 have hwr:(W.wr.getD w none).isSome=false:=by rw [h.wr];rfl
 have step:=fun k=>f_wW_Act k (some w) a keep W.wd W.we W.ws W.wn W.wc W.wr W.ww W.wo W.c.F W.c.R W.c.L W.c.S W.ej W.es W.c.jd W.c.jt W.c.jb W.c.jr W.c.jk W.c.B W.c.sf said (by simp only [Option.getD_some];exact h.ws.2.symm) _ rfl _ rfl
 have hsl:=h.sl
 unfold actF
 by_cases k0:a.1=0
 ·rw [if_pos k0]
  obtain ⟨W',hk,hW,hF⟩:=ask_w W h a.2.1 ha.rq (hl0 k0) hl80 hu hn ht
  have hstp:Ev1 (fun k=>CF k g_dD_Stopped n_dD_Stopped [inj (.ref 29) (W.wd.getD w none),Cl W'.c.S]) (false,W'.c.S):=by have:=stop_ev W' hW;rw [hF.wd] at this;exact this
  refine ⟨⟨W.wd,W'.we,W'.ws,W'.wn,W.wc,W.wr,W'.ww,W'.wo,W'.ej,W'.es,W'.c⟩,t,Ev1.step step (Ev1.pos rfl (Ev1.neg hwr (Ev1.posD k0 (Ev1.bind hk (Ev1.pos rfl (Ev1.bind hstp (Ev1.neg rfl (Ev1.now _)))))))),⟨h.wd,hW.we,hW.ws,hW.wn,h.wr,hW.wo,hW.ej,hW.es,hW.di,hW.inv,hW.sl,hW.sr⟩,by omega,⟨rfl,hF.we,rfl,rfl,hF.ej,hF.ws,hF.es,hF.lws,hF.lwn,hF.lww,hF.lwo,hF.les,hF.c⟩⟩
 rw [if_neg k0]
 by_cases k1:a.1=1
 ·rw [if_pos k1]
  by_cases hs:0 < (said.length:Int)
  ·rw [if_pos hs]
   have hm:=tmod_in ha.n hs
   have hmem:=getD_mem said zS hm
   obtain ⟨W',hk,hW,hF⟩:=ask_w W h (said.getD (Int.toNat (Int.tmod a.2.2.1 (said.length:Int))) zS).1 (h.sr _ hmem) (Nat.le_trans (event_len _ (i64_ev0 (h.sr _ hmem))) (hl1 k1)) hl80 hu hn ht
   have hstp:Ev1 (fun k=>CF k g_dD_Stopped n_dD_Stopped [inj (.ref 29) (W.wd.getD w none),Cl W'.c.S]) (false,W'.c.S):=by have:=stop_ev W' hW;rw [hF.wd] at this;exact this
   refine ⟨⟨W.wd,W'.we,W'.ws,W'.wn,W.wc,W.wr,W'.ww,W'.wo,W'.ej,W'.es,W'.c⟩,t,Ev1.step step (Ev1.pos rfl (Ev1.neg hwr (Ev1.negD k0 (Ev1.posD k1 (Ev1.pos rfl (Ev1.posD hs (Ev1.pos rfl (Ev1.pos rfl (Ev1.pos (by rw [decide_eq_false (show ¬ ((said.length:Int)=0) by omega)];rfl) (Ev1.pos (inb_true hm.1 hm.2) (Ev1.bind hk (Ev1.pos rfl (Ev1.bind hstp (Ev1.neg rfl (Ev1.now _))))))))))))))),⟨h.wd,hW.we,hW.ws,hW.wn,h.wr,hW.wo,hW.ej,hW.es,hW.di,hW.inv,hW.sl,hW.sr⟩,by omega,⟨rfl,hF.we,rfl,rfl,hF.ej,hF.ws,hF.es,hF.lws,hF.lwn,hF.lww,hF.lwo,hF.les,hF.c⟩⟩
  ·rw [if_neg hs]
   exact ⟨W,t,Ev1.step step (Ev1.pos rfl (Ev1.neg hwr (Ev1.negD k0 (Ev1.posD k1 (Ev1.pos rfl (Ev1.negD hs (Ev1.pos rfl (Ev1.bind (stop_ev W h) (Ev1.neg rfl (Ev1.now _)))))))))),h.mono (by omega) (by omega),by omega,Fr.refl W w x⟩
 rw [if_neg k1]
 by_cases k2:a.1=2
 ·rw [if_pos k2]
  have hst:Ev1 (fun k=>CF k g_dE_State n_dE_State [inj (.ref 30) (W.we.getD w none),Cn W.es]) (s,W.es):=by rw [h.we];exact eev h.es.2
  have hwt:=waits_ev h.inv.gl
  by_cases hs:0 < ((waitsF s).length:Int)
  ·rw [if_pos hs]
   have hm:=tmod_in ha.n hs
   have hmem:=getD_mem (waitsF s) 0 hm
   have hkey:-9223372036854775808<=(waitsF s).getD (Int.toNat (Int.tmod a.2.2.1 ((waitsF s).length:Int))) 0/\(waitsF s).getD (Int.toNat (Int.tmod a.2.2.1 ((waitsF s).length:Int))) 0<=9223372036854775807:=by
    obtain ⟨g,hg,e⟩:=List.mem_map.1 hmem
    rw [<- e]
    have:=h.inv.gs g hg
    unfold sagL rqL at this
    exact (i64_cons.1 this).1
   obtain ⟨W',hk,hW,hws,hF⟩:=does_ev W h (1,zR,(waitsF s).getD (Int.toNat (Int.tmod a.2.2.1 ((waitsF s).length:Int))) 0,a.2.2.2) (i64_ev1 hkey _) (by simp [rqL,I64]) (hl2 k2 _ hmem) hl80 hu hn ht
   have hstp:Ev1 (fun k=>CF k g_dD_Stopped n_dD_Stopped [inj (.ref 29) (W.wd.getD w none),Cl W'.c.S]) (false,W'.c.S):=by have:=stop_ev W' hW;rw [hF.wd] at this;exact this
   refine ⟨⟨W.wd,W'.we,W.ws,W'.wn,W.wc,W.wr,W'.ww,W'.wo,W'.ej,W'.es,W'.c⟩,t,Ev1.step step (Ev1.pos rfl (Ev1.neg hwr (Ev1.negD k0 (Ev1.negD k1 (Ev1.posD k2 (Ev1.pos rfl (Ev1.bind hst (Ev1.bind hwt (Ev1.posD hs (Ev1.pos (by rw [decide_eq_false (show ¬ (((waitsF s).length:Int)=0) by omega)];rfl) (Ev1.pos (inb_true hm.1 hm.2) (Ev1.bind hk (Ev1.pos rfl (Ev1.bind hstp (Ev1.neg rfl (Ev1.now _)))))))))))))))),⟨h.wd,hW.we,h.ws,hW.wn,h.wr,hW.wo,hW.ej,hW.es,hW.di,hW.inv,hW.sl,hW.sr⟩,by omega,⟨rfl,hF.we,rfl,rfl,hF.ej,fun _ _=>rfl,hF.es,rfl,hF.lwn,hF.lww,hF.lwo,hF.les,hF.c⟩⟩
  ·rw [if_neg hs]
   exact ⟨W,t,Ev1.step step (Ev1.pos rfl (Ev1.neg hwr (Ev1.negD k0 (Ev1.negD k1 (Ev1.posD k2 (Ev1.pos rfl (Ev1.bind hst (Ev1.bind hwt (Ev1.negD hs (Ev1.pos rfl (Ev1.bind (stop_ev W h) (Ev1.neg rfl (Ev1.now _))))))))))))),h.mono (by omega) (by omega),by omega,Fr.refl W w x⟩
 rw [if_neg k2]
 by_cases k3:a.1=3
 ·rw [if_pos k3]
  obtain ⟨W',hk,hW,hws,hF⟩:=does_ev W h (2,zR,0,false) i64_ev2 (by simp [rqL,I64]) hl3 hl80 hu hn ht
  have hstp:Ev1 (fun k=>CF k g_dD_Stopped n_dD_Stopped [inj (.ref 29) (W.wd.getD w none),Cl W'.c.S]) (false,W'.c.S):=by have:=stop_ev W' hW;rw [hF.wd] at this;exact this
  refine ⟨⟨W.wd,W'.we,W.ws,W'.wn,W.wc,W.wr,W'.ww,W'.wo,W'.ej,W'.es,W'.c⟩,t,Ev1.step step (Ev1.pos rfl (Ev1.neg hwr (Ev1.negD k0 (Ev1.negD k1 (Ev1.negD k2 (Ev1.posD k3 (Ev1.bind hk (Ev1.pos rfl (Ev1.bind hstp (Ev1.neg rfl (Ev1.now _))))))))))),⟨h.wd,hW.we,h.ws,hW.wn,h.wr,hW.wo,hW.ej,hW.es,hW.di,hW.inv,hW.sl,hW.sr⟩,by omega,⟨rfl,hF.we,rfl,rfl,hF.ej,fun _ _=>rfl,hF.es,rfl,hF.lwn,hF.lww,hF.lwo,hF.les,hF.c⟩⟩
 rw [if_neg k3]
 have k4:a.1=4:=by have:=ha.kind;omega
 obtain ⟨e,c',t',hk,hD,h1,h2,hL⟩:=dkeep_ev W.c h.di h.inv h.ej h.es.2 hu ht
 have hst:Ev1 (fun k=>CF k g_dD_Stopped n_dD_Stopped [inj (.ref 29) (W.wd.getD w none),Cl c'.S]) (false,c'.S):=by
  rw [h.wd]
  refine Ev1.step (fun k=>f_dD_Stopped k (some d) c'.S) (Ev1.pos rfl (Ev1.const ?_))
  show some (c'.S.getD d false,c'.S)=_
  rw [hD.dk.stop]
 have hk2:Ev1 (fun k=>CF k g_dE_Keep n_dE_Keep [inj (.ref 30) (W.we.getD w none),Ci W.c.F,Cj W.c.R,Ck W.c.L,Cl W.c.S,Cm W.ej,Cn W.es,Co W.c.jd,Cp W.c.jt,Cq W.c.jb,Cr W.c.jr,Cs W.c.jk,Ct W.c.B,Cu W.c.sf])
   (e,c'.F,c'.R,c'.L,c'.S,W.ej,W.es,c'.jd,c'.jt,c'.jb,c'.jr,c'.jk,c'.B,c'.sf):=by rw [h.we];exact hk
 refine ⟨⟨W.wd,W.we,W.ws,W.wn,W.wc,W.wr,W.ww,W.wo,W.ej,W.es,c'⟩,t',Ev1.step step (Ev1.pos rfl (Ev1.neg hwr (Ev1.negD k0 (Ev1.negD k1 (Ev1.negD k2 (Ev1.negD k3 (Ev1.posD k4 (Ev1.pos rfl (Ev1.bind hk2 (Ev1.pos rfl (Ev1.bind hst (Ev1.neg rfl (Ev1.now _))))))))))))),(WI.mono ⟨h.wd,h.we,h.ws,h.wn,h.wr,h.wo,h.ej,h.es,hD,h.inv,h.sl,h.sr⟩ (by omega) (by omega)),h2,⟨rfl,rfl,rfl,rfl,rfl,fun _ _=>rfl,fun _ _=>rfl,rfl,rfl,rfl,rfl,rfl,hL⟩⟩
theorem act_ev (W:WC) {w x j d:Nat} {s:TState} {said:List TSaid} {t u n:Nat} (h:WI W w x j d s said t u n)(a:TEvent)(ha:AOk a)(keep:Int)(hu:u<=190000)(hn:n<=90000)(ht:t<=90000) :
  ∃ W' t',Ev1 (fun k=>callAct k w a keep W) (outW W')/\WI W' w x j d (actF (s,said) a).1 (actF (s,said) a).2 t' (u+86) (n+1)/\t'<=t+1/\Fr W W' w x :=
 actl_ev W h a ha keep (l:=80) (by omega) (fun _=>event_len _ (i64_ev0 ha.rq)) (fun _=>by omega) (event_len _ i64_ev2)
  (fun _ q hq=>event_len _ (i64_ev1 (by
   obtain ⟨g,hg,e⟩:=List.mem_map.1 hq
   rw [<- e]
   have:=h.inv.gs g hg
   unfold sagL rqL at this
   exact (i64_cons.1 this).1) _)) hu hn ht
end Go.Eng.Top
namespace Go.Eng.Top
open Go.RowKit Go.Eng Go.Eng.LVar
set_option maxRecDepth 100000
set_option maxHeartbeats 1000000
def oneR (n a1 a2 a3 a4 a5:Int):TRequest :=
 (n,a1 % 8,(if a1 % 8=0 then a2 % 3 else if 4<=a1 % 8 then a2 % 4 else 9+a2 % 6),9+a3 % 6,1+a4 * 7,(if a1 % 8=2 then a5 % 4 else 0),(if a1 % 8=3 then 1+a5 % 8 else 0))
def oneF (a0 a1 a2 a3 a4 a5 n:Int):TEvent :=
 if a0 % 12=0 then (1,zR,a1,false)
 else if a0 % 12 < 4 then (2,zR,a1,decide (0 < a2 % 4))
 else if a0 % 12=4 then (3,zR,0,false)
 else if a0 % 12=5 then (if 0 < a1 % 4 then (4,zR,0,false) else (5,zR,a2 % 4,false))
 else (0,oneR n a1 a2 a3 a4 a5,0,false)
theorem tm {x d:Int} (h:0<=x):Int.tmod x d=x % d:=Int.tmod_eq_emod_of_nonneg h
theorem one_eq (a0 a1 a2 a3 a4 a5 n:Int)(h0:0<=a0/\a0<=255)(h1:0<=a1/\a1<=255)(h2:0<=a2/\a2<=255)(h3:0<=a3/\a3<=255)(h4:0<=a4/\a4<=255)(h5:0<=a5/\a5<=255) :
  Ev1 (fun k=>CF k g_script_one n_script_one [inj BB [a0,a1,a2,a3,a4,a5],inj (.int .i64) n]) (oneF a0 a1 a2 a3 a4 a5 n):=by
 refine Ev1.step (fun k=>f_script_one k [a0,a1,a2,a3,a4,a5] n a5 rfl a2 rfl a1 rfl (a0 % 12) (tm h0.1).symm (a1 % 4) (tm h1.1).symm (a2 % 4) (tm h2.1).symm (a1 % 8) ?_ (9+a3 % 6) ?_ (9+a2 % 6) ?_ (1+a4 * 7) ?_ _ rfl _ rfl _ rfl _ rfl _ rfl _ rfl _ rfl) (Ev1.const ?_)
 ·rw [tm h1.1,w64_id (by omega)]
 ·show _=w64 (9+w64 (Int.tmod a3 6));rw [tm h3.1,w64_id (x:=a3 % 6) (by omega),w64_id (by omega)]
 ·show _=w64 (9+w64 (Int.tmod a2 6));rw [tm h2.1,w64_id (x:=a2 % 6) (by omega),w64_id (by omega)]
 ·show _=w64 (1+w64 (w64 a4 * 7));rw [w64_id (x:=a4) (by omega),w64_id (x:=a4 * 7) (by omega),w64_id (by omega)]
 rw [tm h2.1,tm h5.1,tm h5.1,w64_id (x:=a1) (by omega),w64_id (x:=a2 % 4) (by omega),w64_id (x:=a2 % 3) (by omega),w64_id (x:=a5 % 4) (by omega),w64_id (x:=a5 % 8) (by omega),w64_id (x:=1+a5 % 8) (by omega)]
 have q0:inb 0 [a0,a1,a2,a3,a4,a5].length=true:=rfl
 have q1:inb 1 [a0,a1,a2,a3,a4,a5].length=true:=rfl
 have q2:inb 2 [a0,a1,a2,a3,a4,a5].length=true:=rfl
 have q3:inb 3 [a0,a1,a2,a3,a4,a5].length=true:=rfl
 have q4:inb 4 [a0,a1,a2,a3,a4,a5].length=true:=rfl
 have q5:inb 5 [a0,a1,a2,a3,a4,a5].length=true:=rfl
 simp only [q0,q1,q2,q3,q4,q5,cond_true]
 clear q0 q1 q2 q3 q4 q5
 have hb:0<=a0 % 12/\a0 % 12 < 12:=by omega
 have hc:0<=a1 % 8/\a1 % 8 < 8:=by omega
 have hd:0<=a1 % 4:=by omega
 unfold oneF oneR zR
 generalize a0 % 12=m at hb ⊢
 generalize a1 % 8=o at hc ⊢
 generalize a1 % 4=u at hd ⊢
 rcases (by omega:m=0\/m=1\/m=2\/m=3\/m=4\/m=5\/6<=m) with rfl | rfl | rfl | rfl | rfl | rfl | h
 ·rfl
 ·rfl
 ·rfl
 ·rfl
 ·rfl
 ·by_cases hu:0 < u
  ·simp [hu]
  ·simp [hu]
 ·rw [if_neg (by omega),if_neg (by omega),if_neg (by omega),if_neg (by omega)]
  simp only [decide_eq_false (show ¬ m=0 by omega),decide_eq_false (show ¬ m=1 by omega),decide_eq_false (show ¬ m=2 by omega),decide_eq_false (show ¬ m=3 by omega),decide_eq_false (show ¬ m=4 by omega),decide_eq_false (show ¬ m=5 by omega),cond_false]
  rcases (by omega:o=0\/o=1\/o=2\/o=3\/o=4\/o=5\/o=6\/o=7) with rfl | rfl | rfl | rfl | rfl | rfl | rfl | rfl<;>rfl
def actAt (b:List Int)(i:Nat)(n:Int):TEvent:=oneF (b.getD (6 * i) 0) (b.getD (6 * i+1) 0) (b.getD (6 * i+2) 0) (b.getD (6 * i+3) 0) (b.getD (6 * i+4) 0) (b.getD (6 * i+5) 0) n
def acts (b:List Int):List TEvent:=(List.range (b.length / 6)).map fun i=>actAt b i (i:Int)
theorem acts_len (b:List Int):(acts b).length=b.length / 6:=by simp [acts]
theorem getD_drop (b:List Int)(m j:Nat):(b.drop m).getD j 0=b.getD (m+j) 0:=by
 rw [List.getD_eq_getElem?_getD,List.getD_eq_getElem?_getD,List.getElem?_drop]
theorem six6 (b:List Int)(h:6<=b.length):b.take 6=[b.getD 0 0,b.getD 1 0,b.getD 2 0,b.getD 3 0,b.getD 4 0,b.getD 5 0]:=by
 rcases b with _ | ⟨a0,_ | ⟨a1,_ | ⟨a2,_ | ⟨a3,_ | ⟨a4,_ | ⟨a5,r⟩⟩⟩⟩⟩⟩<;>first | rfl | (simp at h)
theorem byt_get {b:List Int} (h:Byt b)(i:Nat):0<=b.getD i 0/\b.getD i 0<=255:=by
 rw [List.getD_eq_getElem?_getD]
 cases hq:b[i]? with
 | none=>simp
 | some y=>exact h y (List.mem_of_getElem? hq)
theorem acts_l (b:List Int)(hb:Byt b)(hl:b.length<=4000000):∀ (d i:Nat),i+d=b.length / 6->Ev2 (fun k m=>h_sA k m (b.drop (6 * i)) ((List.range i).map fun j=>actAt b j (j:Int))) (acts b):=by
 intro d
 induction d with
 | zero =>
  intro i hi
  refine Ev2.step (fun k m=>h_sA_s k m (b.drop (6 * i)) _ _ rfl) (Ev2.negD (by rw [List.length_drop];omega) ?_)
  rw [show i=b.length / 6 by omega]
  exact Ev2.now _
 | succ d ih =>
  intro i hi
  have hle:6 * i+6<=b.length:=by omega
  have hd:(6:Int)<=((b.drop (6 * i)).length:Int):=by rw [List.length_drop];omega
  refine Ev2.step (fun k m=>h_sA_s k m (b.drop (6 * i)) _ _ rfl) (Ev2.posD hd (Ev2.posD hd ?_))
  rw [six6 (b.drop (6 * i)) (by omega)]
  simp only [getD_drop,Nat.add_zero,List.length_map,List.length_range]
  refine Ev2.bind (one_eq _ _ _ _ _ _ (i:Int) (byt_get hb _) (byt_get hb _) (byt_get hb _) (byt_get hb _) (byt_get hb _) (byt_get hb _)) (Ev2.posD (by simp only [List.length_cons,List.length_nil];omega) (Ev2.posD hd ?_))
  have e1:(b.drop (6 * i)).drop 6=b.drop (6 * (i+1)):=by rw [List.drop_drop,Nat.mul_succ]
  have e2:(List.range i).map (fun j=>actAt b j (j:Int))++[actAt b i (i:Int)]=(List.range (i+1)).map fun j=>actAt b j (j:Int):=by
   rw [List.range_succ,List.map_append];rfl
  rw [e1]
  have:=ih (i+1) (by omega)
  rw [<- e2] at this
  exact this
theorem acts_ev (b:List Int)(hb:Byt b)(hl:b.length<=4000000):Ev1 (fun k=>CF k g_sA n_sA [inj BB b]) (acts b) :=
 Ev1.step (fun k=>f_sA k b) (Ev2.diag (f:=fun k m=>h_sA k m b []) (acts_l b hb hl (b.length / 6) 0 (by omega)))
theorem oneR_i64 {n a1 a2 a3 a4 a5:Int} (hn:0<=n/\n<=1000000)(h1:0<=a1/\a1<=255)(h2:0<=a2/\a2<=255)(h3:0<=a3/\a3<=255)(h4:0<=a4/\a4<=255)(h5:0<=a5/\a5<=255):I64 (rqL (oneR n a1 a2 a3 a4 a5)):=by
 simp only [oneR,rqL,I64,List.mem_cons,List.not_mem_nil,or_false,forall_eq_or_imp,forall_eq]
 refine ⟨by omega,by omega,?_,by omega,by omega,?_,?_⟩
 ·split
  ·omega
  ·split<;>omega
 ·split<;>omega
 ·split<;>omega
theorem one_ok {a0 a1 a2 a3 a4 a5 n:Int} (hn:0<=n/\n<=1000000)(h0:0<=a0/\a0<=255)(h1:0<=a1/\a1<=255)(h2:0<=a2/\a2<=255)(h3:0<=a3/\a3<=255)(h4:0<=a4/\a4<=255)(h5:0<=a5/\a5<=255):(oneF a0 a1 a2 a3 a4 a5 n).1=5\/AOk (oneF a0 a1 a2 a3 a4 a5 n):=by
 unfold oneF
 split
 ·exact .inr ⟨by simp,h1.1,by simp [rqL,I64]⟩
 ·split
  ·exact .inr ⟨by simp,h1.1,by simp [rqL,I64]⟩
  ·split
   ·exact .inr ⟨by simp,by simp,by simp [rqL,I64]⟩
   ·split
    ·split
     ·exact .inr ⟨by simp,by simp,by simp [rqL,I64]⟩
     ·exact .inl rfl
    ·exact .inr ⟨by simp,by simp,oneR_i64 hn h1 h2 h3 h4 h5⟩
theorem acts_ok (b:List Int)(hb:Byt b)(hl:b.length<=4000000):∀ a ∈ acts b,a.1=5\/AOk a:=by
 intro a ha
 obtain ⟨i,hi,rfl⟩:=List.mem_map.1 ha
 have:=List.mem_range.1 hi
 exact one_ok (by omega) (byt_get hb _) (byt_get hb _) (byt_get hb _) (byt_get hb _) (byt_get hb _) (byt_get hb _)
def richL:List Int:=[6,0,0,0,0,0,6,0,1,0,0,0,6,0,2,0,0,0,6,0,3,0,0,0,6,0,4,0,0,0,6,0,5,0,0,0,6,1,0,0,250,0,6,1,1,0,250,0,6,1,2,0,250,0,6,1,3,0,250,0,6,1,4,0,250,0,6,1,5,0,250,0]
theorem rich_ev:Ev1 (fun k=>CF k g_law24_Rich n_law24_Rich []) richL:=Ev1.of_rfl 30 (fun k=>by kernel_rfl)
def allL (b:List Int):List Int:=richL++b.take 3000
theorem all24_ev (b:List Int)(hl:b.length<=211106232532000):Ev1 (fun k=>CF k g_law24_All n_law24_All [inj BB b]) (allL b):=by
 have he:∀ m:Int,m=minI (b.length:Int) 3000->Int.toNat m=min b.length 3000/\0<=m/\m<=(b.length:Int):=by
  intro m hm
  subst hm
  unfold minI
  by_cases h:(3000:Int) < (b.length:Int)
  ·rw [decide_eq_true h,cond_true];omega
  ·rw [decide_eq_false h,cond_false];omega
 obtain ⟨e1,e2,e3⟩:=he _ rfl
 have et:b.take (Int.toNat (minI (b.length:Int) 3000))=b.take 3000:=by
  rw [e1]
  by_cases h:b.length<=3000
  ·rw [List.take_of_length_le (by omega),List.take_of_length_le h]
  ·rw [show min b.length 3000=3000 by omega]
 refine Ev1.step (fun k=>f_law24_All k b _ rfl _ rfl _ rfl) (Ev1.bind rich_ev (Ev1.pos (by rw [decide_eq_true e2,decide_eq_true e3];rfl) ?_))
 rw [et]
 have:(b.take 3000).length<=3000:=by rw [List.length_take];omega
 exact Ev1.posD (by show (72+(b.take 3000).length) * 1<=211106232532992;omega) (Ev1.now _)
theorem allL_byt {b:List Int} (hb:Byt b):Byt (allL b):=by
 intro x hx
 rcases List.mem_append.1 hx with hx | hx
 ·simp only [richL,List.mem_cons,List.not_mem_nil,or_false] at hx
  omega
 ·exact hb x (List.mem_of_mem_take hx)
theorem allL_len (b:List Int):(allL b).length<=3072:=by
 unfold allL
 rw [List.length_append,List.length_take]
 have:richL.length=72:=rfl
 omega
theorem tacts_ev (b:List Int)(hb:Byt b)(hl:b.length<=211106232532000):Ev1 (fun k=>CF k g_top_acts n_top_acts [inj BB b]) (acts (allL b)):=by
 have:=allL_len b
 exact Ev1.step (fun k=>f_top_acts k b) (Ev1.bind (all24_ev b hl) (Ev1.bind (acts_ev (allL b) (allL_byt hb) (by omega)) (Ev1.now _)))
end Go.Eng.Top
namespace Go.Eng.Top
open Go.RowKit Go.Eng Go.Eng.LVar
set_option maxRecDepth 100000
structure Al (W:WC):Prop where
 we:W.we.length=W.wd.length
 ws:W.ws.length=W.wd.length
 wn:W.wn.length=W.wd.length
 wr:W.wr.length=W.wd.length
 ww:W.ww.length=W.wd.length
 wo:W.wo.length=W.wd.length
 es:W.es.length=W.ej.length
 jt:W.c.jt.length=W.c.jd.length
 jb:W.c.jb.length=W.c.jd.length
 jr:W.c.jr.length=W.c.jd.length
 jk:W.c.jk.length=W.c.jd.length
 R:W.c.R.length=W.c.F.length
 L:W.c.L.length=W.c.F.length
 S:W.c.S.length=W.c.F.length
theorem Al.fr {W W':WC} {w x:Nat} (h:Al W)(f:Fr W W' w x):Al W' :=
 ⟨by rw [f.we,f.wd];exact h.we,by rw [f.lws,f.wd];exact h.ws,by rw [f.lwn,f.wd];exact h.wn,by rw [f.wr,f.wd];exact h.wr,by rw [f.lww,f.wd];exact h.ww,by rw [f.lwo,f.wd];exact h.wo,by rw [f.les,f.ej];exact h.es,
  by rw [f.c.jt,f.c.jd];exact h.jt,by rw [f.c.jb,f.c.jd];exact h.jb,by rw [f.c.jr,f.c.jd];exact h.jr,by rw [f.c.jk,f.c.jd];exact h.jk,by rw [f.c.R,f.c.F];exact h.R,by rw [f.c.L,f.c.F];exact h.L,by rw [f.c.S,f.c.F];exact h.S⟩
def newW (W:WC):WC:=⟨W.wd++[some W.c.F.length],W.we++[some W.ej.length],W.ws++[[]],W.wn++[[]],W.wc++[0],W.wr++[none],W.ww++[zT],W.wo++[[]],W.ej++[some W.c.jd.length],W.es++[s0],
 ⟨W.c.F++[[]],W.c.R++[262144],W.c.L++[-1],W.c.S++[false],W.c.jd++[some W.c.F.length],W.c.jt++[0],W.c.jb++[[]],W.c.jr++[[]],W.c.jk++[false],W.c.B,W.c.sf⟩⟩
noncomputable abbrev callOf (k:Nat)(W:WC):=CF k g_wO n_wO [inj I (262144:Int),Ca W.wd,Cb W.we,Cc W.ws,Cd W.wn,Ce W.wc,Cf W.wr,Cg W.ww,Ch W.wo,Ci W.c.F,Cj W.c.R,Ck W.c.L,Cl W.c.S,Cm W.ej,Cn W.es,Co W.c.jd,Cp W.c.jt,Cq W.c.jb,Cr W.c.jr,Cs W.c.jk,Ct W.c.B,Cu W.c.sf]
abbrev outO (w:Nat)(W:WC):R1:=(some w,W.wd,W.we,W.ws,W.wn,W.wc,W.wr,W.ww,W.wo,W.c.F,W.c.R,W.c.L,W.c.S,W.ej,W.es,W.c.jd,W.c.jt,W.c.jb,W.c.jr,W.c.jk,W.c.B,W.c.sf)
theorem wof_ev (W:WC)(h:Al W):Ev1 (fun k=>callOf k W) (outO W.wd.length (newW W)):=by
 have hd:=diskOf_ev (F:=W.c.F) (R:=W.c.R) (L:=W.c.L) (S:=W.c.S) 262144
 have ho:=dopen_ev (F:=W.c.F++[[]]) (L:=W.c.L++[-1]) (S:=W.c.S++[false]) (ej:=W.ej) (es:=W.es) (jd:=W.c.jd) (jt:=W.c.jt) (jb:=W.c.jb) (jr:=W.c.jr) (jk:=W.c.jk) (B:=W.c.B) (sf:=W.c.sf) (d:=W.c.F.length) (getD_snoc _ _ _) h.jr h.jt
 have e1:(W.wd++[some W.c.F.length]).getD W.wd.length none=some W.c.F.length:=getD_snoc _ _ _
 refine Ev1.step (fun k=>f_wO k 262144 W.wd W.we W.ws W.wn W.wc W.wr W.ww W.wo W.c.F W.c.R W.c.L W.c.S W.ej W.es W.c.jd W.c.jt W.c.jb W.c.jr W.c.jk W.c.B W.c.sf) (Ev1.bind hd ?_)
 dsimp only
 rw [e1]
 refine Ev1.bind ho (Ev1.const ?_)
 dsimp only
 rw [set_snoc W.we _ _ h.we.symm,set_snoc W.wr _ _ h.wr.symm]
 rfl
theorem al_new (W:WC)(h:Al W):Al (newW W):=by
 constructor<;>simp only [newW,List.length_append,List.length_cons,List.length_nil,h.we,h.ws,h.wn,h.wr,h.ww,h.wo,h.es,h.jt,h.jb,h.jr,h.jk,h.R,h.L,h.S]
theorem wi_new (W:WC)(h:Al W):WI (newW W) W.wd.length W.ej.length W.c.jd.length W.c.F.length s0 [] 0 0 0 where
 wd:=getD_snoc _ _ _
 we:=getD_snoc' _ _ _ h.we.symm
 ws:=⟨by simp only [newW,List.length_append,List.length_cons,List.length_nil,h.ws];omega,getD_snoc' _ _ _ h.ws.symm⟩
 wn:=⟨by simp only [newW,List.length_append,List.length_cons,List.length_nil,h.wn];omega,by show ((W.wn++[[]]).getD W.wd.length []).length<=0;rw [getD_snoc' _ _ _ h.wn.symm];exact Nat.le_refl _⟩
 wr:=getD_snoc' _ _ _ h.wr.symm
 wo:=⟨by simp only [newW,List.length_append,List.length_cons,List.length_nil,h.wo];omega,by show ((W.wo++[[]]).getD W.wd.length []).length<=0;rw [getD_snoc' _ _ _ h.wo.symm];exact Nat.le_refl _⟩
 ej:=getD_snoc _ _ _
 es:=⟨by simp only [newW,List.length_append,List.length_cons,List.length_nil,h.es];omega,getD_snoc' _ _ _ h.es.symm⟩
 di:={
  dk:=⟨by simp only [newW,List.length_append,List.length_cons,List.length_nil];omega,getD_snoc' _ _ _ h.R.symm,getD_snoc' _ _ _ h.L.symm,getD_snoc' _ _ _ h.S.symm⟩
  jd:=getD_snoc _ _ _
  jt:=⟨by simp only [newW,List.length_append,List.length_cons,List.length_nil,h.jt];omega,getD_snoc' _ _ _ h.jt.symm⟩
  jb:=by simp only [newW,List.length_append,List.length_cons,List.length_nil,h.jb];omega
  jr:=⟨by simp only [newW,List.length_append,List.length_cons,List.length_nil,h.jr];omega,by show ((W.c.jr++[[]]).getD W.c.jd.length []).length<=0;rw [getD_snoc' _ _ _ h.jr.symm];exact Nat.le_refl _⟩
  jk:=getD_snoc' _ _ _ h.jk.symm
  files:=⟨none,none,getD_snoc _ _ _,fun g hg=>(by cases hg),fun g hg=>(by cases hg),fun g h hg=>(by cases hg)⟩ }
 inv:=inv0
 sl:=Nat.le_refl _
 sr:=fun a ha=>by cases ha
structure Old (W W':WC):Prop where
 wd:∀ i,i < W.wd.length->W'.wd.getD i none=W.wd.getD i none
 we:∀ i,i < W.wd.length->W'.we.getD i none=W.we.getD i none
 ws:∀ i,i < W.wd.length->W'.ws.getD i []=W.ws.getD i []
 wr:∀ i,i < W.wd.length->W'.wr.getD i none=W.wr.getD i none
 es:∀ i,i < W.ej.length->W'.es.getD i zT=W.es.getD i zT
theorem Old.fr {W V V':WC} (h:Old W V)(f:Fr V V' W.wd.length W.ej.length):Old W V' :=
 ⟨fun i hi=>by rw [f.wd];exact h.wd i hi,fun i hi=>by rw [f.we];exact h.we i hi,fun i hi=>by rw [f.ws i (by omega)];exact h.ws i hi,fun i hi=>by rw [f.wr];exact h.wr i hi,fun i hi=>by rw [f.es i (by omega)];exact h.es i hi⟩
end Go.Eng.Top
namespace Go.Eng.Top
open Go.RowKit Go.Eng Go.Eng.LVar
set_option maxRecDepth 100000
noncomputable abbrev hWRun (k m:Nat)(b:List Int)(w:Nat)(ac:List TEvent)(i:Int)(W:WC):Option R1:=h_wR k m b (some w) ac (ac.length:Int) i W.wd W.we W.ws W.wn W.wc W.wr W.ww W.wo W.c.F W.c.R W.c.L W.c.S W.ej W.es W.c.jd W.c.jt W.c.jb W.c.jr W.c.jk W.c.B W.c.sf
theorem wrun_l (b:List Int)(ac:List TEvent)(hl:ac.length<=1000)(hb:6 * ac.length<=b.length)(hok:∀ a ∈ ac,AOk a)(w x j d:Nat):∀ (dd i:Nat)(W:WC)(p:St2)(t u n:Nat),i+dd=ac.length->WI W w x j d p.1 p.2 t u n->u<=86 * i->n<=i->t<=i ->
  ∃ W' t' u' n',Ev2 (fun k m=>hWRun k m b w ac (i:Int) W) (outO w W')/\WI W' w x j d ((ac.drop i).foldl actF p).1 ((ac.drop i).foldl actF p).2 t' u' n'/\Fr W W' w x
 | 0,i,W,p,t,u,n,hi,h,hu,hn,ht=>by
  refine ⟨W,t,u,n,?_,by rw [List.drop_of_length_le (by omega)];exact h,Fr.refl W w x⟩
  exact Ev2.step (fun k m=>h_wR_s k m b (some w) ac (ac.length:Int) (i:Int) W.wd W.we W.ws W.wn W.wc W.wr W.ww W.wo W.c.F W.c.R W.c.L W.c.S W.ej W.es W.c.jd W.c.jt W.c.jb W.c.jr W.c.jk W.c.B W.c.sf _ rfl) (Ev2.negD (by omega) (Ev2.now _))
 | dd+1,i,W,p,t,u,n,hi,h,hu,hn,ht=>by
  have hlt:i < ac.length:=by omega
  have he:ac.getD (Int.toNat (i:Int)) ((0:Int),((0:Int),(0:Int),(0:Int),(0:Int),(0:Int),(0:Int),(0:Int)),(0:Int),false)=ac[i]:=by rw [Int.toNat_natCast];exact getD_at ac i _ hlt
  have hk:((6 * i+5:Nat):Int)=w64 (w64 (6 * (i:Int))+5):=by rw [w64_id (x:=6 * (i:Int)) (by omega),w64_id (by omega)];omega
  have st:=fun k m=>h_wR_s k m b (some w) ac (ac.length:Int) (i:Int) W.wd W.we W.ws W.wn W.wc W.wr W.ww W.wo W.c.F W.c.R W.c.L W.c.S W.ej W.es W.c.jd W.c.jt W.c.jb W.c.jr W.c.jk W.c.B W.c.sf ((6 * i+5:Nat):Int) hk
  obtain ⟨W1,t1,g1,g2,g3,g4⟩:=act_ev W h ac[i] (hok _ (List.getElem_mem hlt)) (w64 (w64 (b.getD (Int.toNat ((6 * i+5:Nat):Int)) 0) * 7)) (by omega) (by omega) (by omega)
  obtain ⟨W',t',u',n',h1,h2,h6⟩:=wrun_l b ac hl hb hok w x j d dd (i+1) W1 (actF p ac[i]) t1 (u+86) (n+1) (by omega) g2 (by omega) (by omega) (by omega)
  refine ⟨W',t',u',n',Ev2.step st (Ev2.posD (by omega) (Ev2.pos (inb_true (by omega) (by omega)) (Ev2.pos (inb_true (by omega) (by omega)) ?_))),?_,g4.trans h6⟩
  ·rw [he]
   refine Ev2.bind g1 ?_
   rw [wnat (by omega)]
   exact h1
  ·rw [List.drop_eq_getElem_cons hlt,List.foldl_cons]
   exact h2
noncomputable abbrev callWRun (k:Nat)(b:List Int)(W:WC):=CF k g_wR n_wR [inj BB b,inj I (262144:Int),Ca W.wd,Cb W.we,Cc W.ws,Cd W.wn,Ce W.wc,Cf W.wr,Cg W.ww,Ch W.wo,Ci W.c.F,Cj W.c.R,Ck W.c.L,Cl W.c.S,Cm W.ej,Cn W.es,Co W.c.jd,Cp W.c.jt,Cq W.c.jb,Cr W.c.jr,Cs W.c.jk,Ct W.c.B,Cu W.c.sf]
theorem wrun_ev (W:WC)(h:Al W)(b:List Int)(hb:Byt b)(hl:b.length<=4000)(hok:∀ a ∈ acts b,AOk a) :
  ∃ W' t u n,Ev1 (fun k=>callWRun k b W) (outO W.wd.length W')/\WI W' W.wd.length W.ej.length W.c.jd.length W.c.F.length ((acts b).foldl actF (s0,[])).1 ((acts b).foldl actF (s0,[])).2 t u n/\Al W':=by
 have hal:=acts_len b
 obtain ⟨W',t,u,n,h1,h2,h3⟩:=wrun_l b (acts b) (by omega) (by omega) hok W.wd.length W.ej.length W.c.jd.length W.c.F.length (acts b).length 0 (newW W) (s0,[]) 0 0 0 (by omega) (wi_new W h) (by omega) (by omega) (by omega)
 refine ⟨W',t,u,n,?_,h2,(al_new W h).fr h3⟩
 exact Ev1.step (fun k=>f_wR k b 262144 W.wd W.we W.ws W.wn W.wc W.wr W.ww W.wo W.c.F W.c.R W.c.L W.c.S W.ej W.es W.c.jd W.c.jt W.c.jb W.c.jr W.c.jk W.c.B W.c.sf) (Ev1.bind (wof_ev W h) (Ev1.bind (acts_ev b hb (by omega)) h1.diag))
def exL:List Int:=[6,2,0,3,10,2,1,0,1,0,0,0,1,0,1,0,0,0,1,0,1,0,0,0]
abbrev outT (b:Bool)(W:WC):R2:=(b,W.wd,W.we,W.ws,W.wn,W.wc,W.wr,W.ww,W.wo,W.c.F,W.c.R,W.c.L,W.c.S,W.ej,W.es,W.c.jd,W.c.jt,W.c.jb,W.c.jr,W.c.jk,W.c.B,W.c.sf)
noncomputable abbrev callAwake (k:Nat)(W:WC):=CF k g_tw n_tw [Ca W.wd,Cb W.we,Cc W.ws,Cd W.wn,Ce W.wc,Cf W.wr,Cg W.ww,Ch W.wo,Ci W.c.F,Cj W.c.R,Ck W.c.L,Cl W.c.S,Cm W.ej,Cn W.es,Co W.c.jd,Cp W.c.jt,Cq W.c.jb,Cr W.c.jr,Cs W.c.jk,Ct W.c.B,Cu W.c.sf]
def exS:St2:=(acts (allL exL)).foldl actF (s0,[])
theorem ex_byt:Byt (allL exL):=allL_byt (by intro x hx;simp only [exL,List.mem_cons,List.not_mem_nil,or_false] at hx;omega)
theorem ex_kinds:(acts (allL exL)).all (fun a=>!decide (a.1=5))=true:=by decide +kernel
theorem ex_ok:∀ a ∈ acts (allL exL),AOk a:=by
 intro a ha
 have h1:=List.all_eq_true.1 ex_kinds a ha
 have h2:=allL_len exL
 exact (acts_ok _ ex_byt (by omega) a ha).resolve_left (by simpa using h1)
theorem ex_val:exS.2.length=13/\exS.1.1.length=15/\(exS.1.1.getD 9 (0,0,0)).2.1=1680/\(exS.1.1.getD 12 (0,0,0)).2.1=1822/\exS.1.2.2.1.length=0:=by decide +kernel
theorem awake_ev (W:WC)(h:Al W):∃ W',Ev1 (fun k=>callAwake k W) (outT true W')/\Al W':=by
 have hlen:=allL_len exL
 obtain ⟨W',t,u,n,h1,h2,h3⟩:=wrun_ev W h (allL exL) ex_byt (by omega) ex_ok
 obtain ⟨v1,v2,v3,v4,v5⟩:=ex_val
 refine ⟨W',?_,h3⟩
 have hst:Ev1 (fun k=>CF k g_dE_State n_dE_State [inj (.ref 30) (W'.we.getD W.wd.length none),Cn W'.es]) (exS.1,W'.es):=by rw [h2.we];exact eev h2.es.2
 have h4:Ev2 (fun k m=>h_tw k m (some W.wd.length) W'.wd W'.we W'.ws W'.wn W'.wc W'.wr W'.ww W'.wo W'.c.F W'.c.R W'.c.L W'.c.S W'.ej W'.es W'.c.jd W'.c.jt W'.c.jb W'.c.jr W'.c.jk W'.c.B W'.c.sf) (outT true W'):=by
  refine Ev2.step (fun k m=>h_tw_s k m (some W.wd.length) W'.wd W'.we W'.ws W'.wn W'.wc W'.wr W'.ww W'.wo W'.c.F W'.c.R W'.c.L W'.c.S W'.ej W'.es W'.c.jd W'.c.jt W'.c.jb W'.c.jr W'.c.jk W'.c.B W'.c.sf) (Ev2.pos rfl (Ev2.bind hst (Ev2.pos rfl (Ev2.pos ?_ (Ev2.pos rfl (Ev2.posD ?_ (Ev2.posD (by rw [v2];rfl) (Ev2.pos (inb_true (by omega) (by rw [v2];omega)) (Ev2.posD v3 (Ev2.pos (inb_true (by omega) (by rw [v2];omega)) (Ev2.posD v4 (Ev2.const ?_))))))))))))
  ·show (!(W'.wr.getD W.wd.length none).isSome)=true
   rw [h2.wr];rfl
  ·show ((W'.ws.getD W.wd.length []).length:Int)=13
   rw [h2.ws.2]
   show (exS.2.length:Int)=13
   rw [v1];rfl
  ·rw [v5];rfl
 refine Ev1.step (fun k=>f_tw k W.wd W.we W.ws W.wn W.wc W.wr W.ww W.wo W.c.F W.c.R W.c.L W.c.S W.ej W.es W.c.jd W.c.jt W.c.jb W.c.jr W.c.jk W.c.B W.c.sf) (Ev1.bind (all24_ev exL (by decide)) (Ev1.bind h1 (Ev1.neg rfl (Ev1.pos rfl (Ev1.neg ?_ h4.diag)))))
 show (!(W'.we.getD W.wd.length none).isSome)=false
 rw [h2.we];rfl
theorem s15_l (s : TState) (hl : s.2.1.length ≤ 1000) : ∀ (d i : Nat), i + d = s.2.1.length → Ev2 (fun k m => h_s15_1 k m (s.2.1.length : Int) (i : Int) s.1 s.2.1 s.2.2.1 s.2.2.2.1 s.2.2.2.2 s.1 s.2.1 s.2.2.1 s.2.2.2.1 s.2.2.2.2) true
  | 0, i, h => Ev2.step (fun k m => h_s15_1_s k m (s.2.1.length : Int) (i : Int) s.1 s.2.1 s.2.2.1 s.2.2.2.1 s.2.2.2.2 s.1 s.2.1 s.2.2.1 s.2.2.2.1 s.2.2.2.2 _ rfl _ rfl) (Ev2.negD (by omega) (Ev2.now _))
  | d + 1, i, h => by
    refine Ev2.step (fun k m => h_s15_1_s k m (s.2.1.length : Int) (i : Int) s.1 s.2.1 s.2.2.1 s.2.2.2.1 s.2.2.2.2 s.1 s.2.1 s.2.2.1 s.2.2.2.1 s.2.2.2.2 _ rfl _ rfl) (Ev2.posD (by omega) (Ev2.pos (inb_true (by omega) (by omega)) (Ev2.pos (inb_true (by omega) (by omega)) (Ev2.neg (by simp) ?_))))
    rw [wnat (by omega)]
    exact s15_l s hl d (i + 1) (by omega)
theorem s17_l (s : TState) (hl : s.2.2.1.length ≤ 1000) : ∀ (d i : Nat), i + d = s.2.2.1.length → Ev2 (fun k m => h_s17_1 k m (s.2.2.1.length : Int) (i : Int) s.1 s.2.1 s.2.2.1 s.2.2.2.1 s.2.2.2.2 s.1 s.2.1 s.2.2.1 s.2.2.2.1 s.2.2.2.2) true
  | 0, i, h => Ev2.step (fun k m => h_s17_1_s k m (s.2.2.1.length : Int) (i : Int) s.1 s.2.1 s.2.2.1 s.2.2.2.1 s.2.2.2.2 s.1 s.2.1 s.2.2.1 s.2.2.2.1 s.2.2.2.2 _ rfl _ rfl) (Ev2.negD (by omega) (Ev2.now _))
  | d + 1, i, h => by
    refine Ev2.step (fun k m => h_s17_1_s k m (s.2.2.1.length : Int) (i : Int) s.1 s.2.1 s.2.2.1 s.2.2.2.1 s.2.2.2.2 s.1 s.2.1 s.2.2.1 s.2.2.2.1 s.2.2.2.2 _ rfl _ rfl) (Ev2.posD (by omega) (Ev2.pos (inb_true (by omega) (by omega)) (Ev2.pos (inb_true (by omega) (by omega)) (Ev2.neg (by simp) ?_))))
    rw [wnat (by omega)]
    exact s17_l s hl d (i + 1) (by omega)
theorem same17_ev {s : TState} (h : Inv s) : Ev1 (fun k => CF k g_s17 n_s17 [inj KState s, inj KState s]) true := by
  have h1 := h.op.rt.hi
  have h2 := h.op.pl
  have h3 := h.gl
  have h4 := h.kl
  have e15 : Ev2 (fun k m => h_s15 k m s.1 s.2.1 s.2.2.1 s.2.2.2.1 s.2.2.2.2 s.1 s.2.1 s.2.2.1 s.2.2.2.1 s.2.2.2.2) true :=
    Ev2.step (fun k m => h_s15_s k m s.1 s.2.1 s.2.2.1 s.2.2.2.1 s.2.2.2.2 s.1 s.2.1 s.2.2.1 s.2.2.2.1 s.2.2.2.2) (Ev1.drop (s15_l s (by omega) s.2.1.length 0 (by omega)).diag)
  have e17 : Ev2 (fun k m => h_s17 k m s.1 s.2.1 s.2.2.1 s.2.2.2.1 s.2.2.2.2 s.1 s.2.1 s.2.2.1 s.2.2.2.1 s.2.2.2.2) true :=
    Ev2.step (fun k m => h_s17_s k m s.1 s.2.1 s.2.2.1 s.2.2.2.1 s.2.2.2.2 s.1 s.2.1 s.2.2.1 s.2.2.2.1 s.2.2.2.2) (Ev1.drop (s17_l s (by omega) s.2.2.1.length 0 (by omega)).diag)
  have f15 : Ev1 (fun k => CF k g_s15 n_s15 [inj KState s, inj KState s]) true :=
    Ev1.step (fun k => f_s15 k s s) (Ev1.bind (same_ev s.1 h1) (Ev1.neg rfl (Ev1.neg (by simp) (Ev1.neg (by simp) e15.diag))))
  have f16 : Ev1 (fun k => CF k g_law16_Same n_law16_Same [inj KState s, inj KState s]) true :=
    Ev1.step (fun k => f_law16_Same k s s) (Ev1.bind f15 (Ev1.pos rfl (Ev1.bind (ksame_ev s.2.2.2.1 (by omega)) (Ev1.now _))))
  exact Ev1.step (fun k => f_s17 k s s) (Ev1.bind f16 (Ev1.neg rfl (Ev1.neg (by simp) e17.diag)))
end Go.Eng.Top
namespace Go.Eng.Top
open Go.RowKit Go.Eng Go.Eng.LVar Go.Eng.LChart Go.Eng.LEnt
set_option maxRecDepth 100000
def undoA (a:List Acc)(r:TRequest):List Acc:=match (relF a r.2.2.1 r.2.2.2.2.1).2 with | some _=>a | none=>(relF a r.2.2.1 r.2.2.2.2.1).1
def setlA (a:List Acc)(r:TRequest):List Acc × Option Int:=match (moveF a r.2.2.1 r.2.2.2.1 r.2.2.2.2.1).2 with
 | some c=>(a,some c)
 | none=>match (spendF a r.2.2.2.2.1 (moveF a r.2.2.1 r.2.2.2.1 r.2.2.2.2.1).1).2 with
  | some c=>(a,some c)
  | none=>((spendF a r.2.2.2.2.1 (moveF a r.2.2.1 r.2.2.2.1 r.2.2.2.2.1).1).1,none)
theorem undo_a (s:TState)(r:TRequest):(undoF s r).1=(undoA s.1 r,s.2):=by
 unfold undoF withA undoA
 cases (relF s.1 r.2.2.1 r.2.2.2.2.1).2<;>rfl
theorem setl_a (s:TState)(r:TRequest):setlF s r=(((setlA s.1 r).1,s.2),(setlA s.1 r).2):=by
 unfold setlF setlA
 cases (moveF s.1 r.2.2.1 r.2.2.2.1 r.2.2.2.2.1).2 with
 | some c=>rfl
 | none =>
  dsimp only
  unfold withA
  cases (spendF s.1 r.2.2.2.2.1 (moveF s.1 r.2.2.1 r.2.2.2.1 r.2.2.2.2.1).1).2<;>rfl
abbrev ready (g:TSaga):Prop:=g.2.1=0/\g.1.2.2.2.2.2.1<=g.2.2.1
def finA (a:List Acc)(g:TSaga):List Acc × TReply :=
 if g.2.1=0 then (match (setlA a g.1).2 with
  | none=>((setlA a g.1).1,(0,0))
  | some c=>(undoA a g.1,(c,0)))
 else (undoA a g.1,(g.2.2.2.2,0))
def legsF:Nat->TSaga->List Bool->TSaga
 | 0,g,_=>g
 | m+1,g,l=>if g.2.1=0/\¬ (g.1.2.2.2.2.2.1<=g.2.2.1) then legsF m (legF g (l.headD true)) l.tail else g
def mu (g:TSaga):Int:=if g.2.1=0 then (g.1.2.2.2.2.2.1 - g.2.2.1) * 4 - g.2.2.2.1 else 0
structure SOk (g:TSaga):Prop where
 legs:0<=g.1.2.2.2.2.2.1/\g.1.2.2.2.2.2.1<=4
 leg:0<=g.2.2.1/\g.2.2.1<=g.1.2.2.2.2.2.1
 tries:0<=g.2.2.2.1/\g.2.2.2.1<=4
 ph:g.2.1=0\/g.2.1=1
 tr:g.2.1=0->g.2.2.2.1<=3
theorem sok_leg {g:TSaga} (h:SOk g)(hg:g.2.1=0/\¬ (g.1.2.2.2.2.2.1<=g.2.2.1))(ok:Bool):SOk (legF g ok)/\(legF g ok).1=g.1/\(mu (legF g ok) < mu g\/(legF g ok).2.1=1):=by
 obtain ⟨h1,h2,h3,h4,h5⟩:=h
 have h6:=h5 hg.1
 have w1:w64 (g.2.2.1+1)=g.2.2.1+1:=w64_id (by omega)
 have w2:w64 (g.2.2.2.1+1)=g.2.2.2.1+1:=w64_id (by omega)
 unfold legF
 rw [if_pos hg,w1,w2]
 cases ok with
 | true =>
  rw [if_pos rfl]
  refine ⟨⟨h1,by dsimp only;omega,by dsimp only;omega,.inl hg.1,fun _=>by dsimp only;omega⟩,rfl,.inl ?_⟩
  unfold mu
  dsimp only
  rw [if_pos hg.1,if_pos hg.1]
  omega
 | false =>
  rw [if_neg (by simp)]
  by_cases c:3 < g.2.2.2.1+1
  ·rw [if_pos c]
   exact ⟨⟨h1,h2,by dsimp only;omega,.inr rfl,fun e=>by simp at e⟩,rfl,.inr rfl⟩
  ·rw [if_neg c]
   refine ⟨⟨h1,h2,by dsimp only;omega,h4,fun _=>by dsimp only;omega⟩,rfl,.inl ?_⟩
   unfold mu
   dsimp only
   rw [if_pos hg.1,if_pos hg.1]
   omega
theorem mu_pos {g:TSaga} (h:SOk g)(hg:g.2.1=0/\¬ (g.1.2.2.2.2.2.1<=g.2.2.1)):0 < mu g:=by
 have:=h.tr hg.1
 unfold mu
 rw [if_pos hg.1]
 omega
def told (r:TRequest)(ks:List TKnown)(o:TReply):List TKnown:=ks++[(r,o,true)]
def bankF (legs:List Bool)(s:TState)(r:TRequest):Out :=
 if mayB r=false then (s,(1,0))
 else if (askF s.2.2.2.1 r).2=true then (s,(askF s.2.2.2.1 r).1)
 else if 256<=s.2.2.2.1.length then (s,(7,0))
 else if long r then (match (resF s r).2 with
   | some c=>((s.1,s.2.1,s.2.2.1,told r s.2.2.2.1 (c,0),s.2.2.2.2),(c,0))
   | none=>(((finA (resF s r).1.1 (legsF 20 (r,0,0,0,0) legs)).1,s.2.1,s.2.2.1,told r s.2.2.2.1 (finA (resF s r).1.1 (legsF 20 (r,0,0,0,0) legs)).2,s.2.2.2.2),(finA (resF s r).1.1 (legsF 20 (r,0,0,0,0) legs)).2))
 else (((opsF s r).1.1,(opsF s r).1.2.1,s.2.2.1,told r s.2.2.2.1 (opsF s r).2,s.2.2.2.2),(opsF s r).2)
def mid (a:List Acc)(s:TState)(g:TSaga):TState:=(a,s.2.1,[g],s.2.2.2.1++[(g.1,(0,0),false)],s.2.2.2.2)
def done_ (a:List Acc)(s:TState)(r:TRequest)(o:TReply):TState:=(a,s.2.1,[],told r s.2.2.2.1 o,s.2.2.2.2)
theorem post_rest (s:TState)(f t n:Int):(postO s f t n).1.2.2=s.2.2:=by unfold postO takeF;split<;>(try split)<;>rfl
theorem pay_rest (s:TState)(i:Int)(q:TPayment)(w:List Acc × Option Int):(payF s i q w).1.2.2=s.2.2:=by unfold payF;split<;>rfl
theorem ops_rest (s:TState)(r:TRequest):(opsF s r).1.2.2=s.2.2:=by
 unfold opsF
 split
 ·unfold openF;split<;>rfl
 split
 ·unfold depF;split<;>first | rfl | exact post_rest _ _ _ _
 split
 ·unfold trF;split<;>first | rfl | exact post_rest _ _ _ _
 split
 ·unfold authF
  split
  ·split
   ·rfl
   ·split
    ·rfl
    ·split<;>rfl
  ·rfl
 split
 ·unfold capF
  split
  ·rfl
  ·split
   ·rfl
   ·exact pay_rest _ _ _ _
 split
 ·unfold voidF
  split
  ·rfl
  ·exact pay_rest _ _ _ _
 split
 ·unfold refF
  split
  ·rfl
  ·split
   ·rfl
   ·exact pay_rest _ _ _ _
 split
 ·unfold chgF
  split
  ·rfl
  ·split
   ·rfl
   ·exact pay_rest _ _ _ _
 ·rfl
theorem sub_bank {s:TState} (h:Inv s)(h0:s.2.2.1=[])(r:TRequest)(legs:List Bool) :
  (subF s r).1=(bankF legs s r).1\/(mayB r=true/\fnd r.1 s.2.2.2.1=none/\¬ 256<=s.2.2.2.1.length/\long r/\(resF s r).2=none/\(subF s r).1=mid (resF s r).1.1 s (r,0,0,0,0) /\
   (bankF legs s r).1=done_ (finA (resF s r).1.1 (legsF 20 (r,0,0,0,0) legs)).1 s r (finA (resF s r).1.1 (legsF 20 (r,0,0,0,0) legs)).2):=by
 unfold subF bankF
 by_cases hm:mayB r=false
 ·rw [if_pos hm,if_pos hm];exact .inl rfl
 rw [if_neg hm,if_neg hm]
 by_cases hk:(askF s.2.2.2.1 r).2=true
 ·rw [if_pos hk,if_pos hk];exact .inl rfl
 rw [if_neg hk,if_neg hk]
 have hf:fnd r.1 s.2.2.2.1=none:=by
  rw [ask_fnd] at hk
  cases hf:fnd r.1 s.2.2.2.1 with
  | none=>rfl
  | some i=>rw [hf] at hk;simp at hk
 rw [if_neg (by rw [h0];simp),put_none hf]
 by_cases h256:256<=s.2.2.2.1.length
 ·rw [if_pos h256,if_pos h256];exact .inl rfl
 rw [if_neg h256,if_neg h256]
 dsimp only
 by_cases hlo:long r
 ·rw [if_pos hlo,if_pos hlo]
  obtain ⟨q1,q2⟩:=res_op h.op r
  cases hc:(resF s r).2 with
  | some c =>
   dsimp only
   rw [tell_last hf]
   exact .inl rfl
  | none =>
   refine .inr ⟨by simpa using hm,hf,h256,hlo,rfl,?_,?_⟩
   ·dsimp only
    have e0:(resF s r).1.2.1=s.2.1:=by
     unfold resF at hc ⊢
     split
     ·split
      ·rfl
      ·unfold withA;split<;>rfl
     ·rfl
    have e1:(resF s r).1.2.2.1=s.2.2.1:=by rw [q1.rest]
    have e2:(resF s r).1.2.2.2.2=s.2.2.2.2:=by rw [q1.rest]
    rw [e0,e1,e2,h0]
    rfl
   ·dsimp only
    unfold done_
    rw [h0]
 ·rw [if_neg hlo,if_neg hlo]
  have q1:(opsF s r).1.2.2.1=s.2.2.1:=by rw [ops_rest]
  have q2:(opsF s r).1.2.2.2.2=s.2.2.2.2:=by rw [ops_rest]
  rw [tell_last hf,q1,q2]
  exact .inl rfl
theorem fnd_mid {s:TState} {r:TRequest} (hf:fnd r.1 s.2.2.2.1=none)(o:TReply):(tellF (s.2.2.2.1++[(r,(0,0),false)]) r.1 o).1=told r s.2.2.2.1 o:=by
 rw [tell_last hf];rfl
theorem step_mid (a:List Acc)(s:TState)(g:TSaga)(ok:Bool):stepF (mid a s g) g.1.1 ok =
  (if g.2.1=1 then endF (undoF (mid a s g) g.1).1 0 (g.2.2.2.2,0)
  else if g.2.1=0/\g.1.2.2.2.2.2.1<=g.2.2.1 then
   (match (setlF (mid a s g) g.1).2 with
    | none=>endF (setlF (mid a s g) g.1).1 0 (0,0)
    | some c=>putG (mid a s g) 0 (turnF g c))
  else putG (mid a s g) 0 (legF g ok)):=by
 have hf:fndG g.1.1 (mid a s g).2.2.1=some 0:=by
  show fndI g.1.1 [g.1.1]=some 0
  simp [fndI]
 unfold stepF
 rw [hf]
 rfl
theorem end_mid (a b:List Acc)(s:TState)(g:TSaga)(hf:fnd g.1.1 s.2.2.2.1=none)(o:TReply):(endF (b,(mid a s g).2) 0 o).1=done_ b s g.1 o:=by
 unfold endF done_
 dsimp only [mid]
 show (b,s.2.1,[]++[],(tellF (s.2.2.2.1++[(g.1,(0,0),false)]) g.1.1 o).1,s.2.2.2.2)=_
 rw [fnd_mid hf]
 rfl
theorem step_back {a:List Acc} {s:TState} {g:TSaga} (ok:Bool)(hf:fnd g.1.1 s.2.2.2.1=none)(h:g.2.1=1):(stepF (mid a s g) g.1.1 ok).1=done_ (finA a g).1 s g.1 (finA a g).2:=by
 rw [step_mid,if_pos h,undo_a]
 unfold finA
 rw [if_neg (by omega)]
 exact end_mid a _ s g hf _
theorem step_ready {a:List Acc} {s:TState} {g:TSaga} (ok:Bool)(hf:fnd g.1.1 s.2.2.2.1=none)(h:ready g):(stepF (mid a s g) g.1.1 ok).1=done_ (finA a g).1 s g.1 (finA a g).2 \/
  ∃ c,(stepF (mid a s g) g.1.1 ok).1=mid a s (turnF g c)/\(turnF g c).2.1=1/\(turnF g c).1=g.1/\finA a (turnF g c)=finA a g:=by
 rw [step_mid,if_neg (by have:=h.1;omega),if_pos h,setl_a]
 show _\/_
 have ha:(mid a s g).1=a:=rfl
 rw [ha]
 unfold finA
 rw [if_pos h.1]
 cases hc:(setlA a g.1).2 with
 | none=>exact .inl (end_mid a _ s g hf _)
 | some c =>
  have ht:turnF g c=(g.1,1,g.2.2.1,g.2.2.2.1,c):=by unfold turnF;rw [if_pos h.1]
  refine .inr ⟨c,?_,by rw [ht],by rw [ht],?_⟩
  ·show (putG (mid a s g) 0 (turnF g c)).1=mid a s (turnF g c)
   rw [ht];rfl
  ·rw [ht];simp
theorem step_leg {a:List Acc} {s:TState} {g:TSaga} (ok:Bool)(h:g.2.1=0/\¬ (g.1.2.2.2.2.2.1<=g.2.2.1))(hk:(legF g ok).1=g.1):(stepF (mid a s g) g.1.1 ok).1=mid a s (legF g ok):=by
 rw [step_mid,if_neg (by have:=h.1;omega),if_neg (fun q=>h.2 q.2)]
 show (a,s.2.1,[legF g ok],s.2.2.2.1++[(g.1,(0,0),false)],s.2.2.2.2)=mid a s (legF g ok)
 unfold mid
 rw [hk]
theorem legsF_stop:∀ (m:Nat)(g:TSaga)(l:List Bool),¬ (g.2.1=0/\¬ (g.1.2.2.2.2.2.1<=g.2.2.1))->legsF m g l=g
 | 0,g,l,_=>rfl
 | m+1,g,l,h=>by unfold legsF;rw [if_neg h]
theorem bank_ask {s:TState} {r:TRequest} (legs:List Bool)(hm:mayB r=true):((askF (bankF legs s r).1.2.2.2.1 r).2=true/\(askF (bankF legs s r).1.2.2.2.1 r).1=(bankF legs s r).2)\/((askF (bankF legs s r).1.2.2.2.1 r).2=false/\(bankF legs s r).2.1=7):=by
 unfold bankF
 rw [if_neg (by rw [hm];simp)]
 by_cases hk:(askF s.2.2.2.1 r).2=true
 ·rw [if_pos hk];exact .inl ⟨hk,rfl⟩
 rw [if_neg hk]
 have hf:fnd r.1 s.2.2.2.1=none:=by
  rw [ask_fnd] at hk
  cases hf:fnd r.1 s.2.2.2.1 with
  | none=>rfl
  | some i=>rw [hf] at hk;simp at hk
 by_cases h256:256<=s.2.2.2.1.length
 ·rw [if_pos h256];exact .inr ⟨by simpa using hk,rfl⟩
 rw [if_neg h256]
 have ht:∀ o:TReply,(askF (told r s.2.2.2.1 o) r).2=true/\(askF (told r s.2.2.2.1 o) r).1=o:=by
  intro o
  have hl:fnd r.1 (told r s.2.2.2.1 o)=some s.2.2.2.1.length:=by unfold told;rw [fnd_app,hf];simp
  have hg:(told r s.2.2.2.1 o).getD s.2.2.2.1.length d0=(r,o,true):=getD_last _ _ _
  unfold askF
  rw [hl]
  dsimp only
  rw [hg]
  simp
 refine .inl ?_
 by_cases hlo:long r
 ·rw [if_pos hlo]
  split<;>exact ht _
 ·rw [if_neg hlo];exact ht _
theorem tick_sagas {s:TState} (h:Inv s):(tickF s).2.2.1=s.2.2.1:=by
 unfold tickF
 split
 ·rfl
 ·have h0:Op (s.1,s.2.1,s.2.2.1,s.2.2.2.1,w64 (s.2.2.2.2+1)) (s.1,s.2.1,s.2.2.1,s.2.2.2.1,w64 (s.2.2.2.2+1)):=⟨rfl,h.op.rt,h.op.pl,h.op.ps,Nat.le_refl _⟩
  rw [(voids_op (dueBy s.2.1 (w64 (s.2.2.2.2+1))) _ h0).rest]
theorem bank_sagas {s:TState} {r:TRequest} (legs:List Bool):(bankF legs s r).1.2.2.1=s.2.2.1:=by
 unfold bankF
 split
 ·rfl
 split
 ·rfl
 split
 ·rfl
 split
 ·split<;>rfl
 ·rfl
end Go.Eng.Top
