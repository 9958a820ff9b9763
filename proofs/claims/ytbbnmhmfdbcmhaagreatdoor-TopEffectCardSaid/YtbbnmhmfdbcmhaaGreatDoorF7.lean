/- Definitions and lemmas for the law TopEffect: what the program's functions come to. Conditions: as each lemma says. -/
import Derived.Test.YtbbnmhmfdbcmhaaGreatDoorF5
import Derived.Test.YtbbnmhmfdbcmhaaGreatDoorF3
set_option linter.all false
set_option linter.unusedVariables false
set_option linter.unusedSimpArgs false
set_option linter.deprecated false
namespace Go.Eng.Top
open Go.RowKit Go.Eng Go.Eng.LVar Go.Eng.LChart Go.Eng.LEnt
set_option maxRecDepth 100000
theorem FA (p:ag):Ev1 (λk=>CF k tc fg [inj ak p]) (zU p):=by
 refine Ev1.step (λk=>tn k p) ?_;unfold zU;by_cases h:p.2.2.2.2.2.2.2=0
 ·rw[NI h];exact Ev1.neg (by rw[NK h];rfl) (Ev1.now _)
 ·rw[ND h];exact Ev1.pos (by rw[NF h];rfl) (Ev1.now _)
theorem Ae (p:ag):Ev1 (λk=>CF k tf dA [inj ak p]) (Af p):=Ev1.step (λk=>tq k p) (Ev1.now _)
theorem KB (p:ag)(n:Int):Ev1 (λk=>CF k jf iT [inj ak p,inj I n]) (dW 4 p n):=by
 refine Ev1.step (λk=>oK k p n _ rfl) (Ev1.bind (FA p) ?_);unfold dW;rw[NI rfl];exact Ev1.iff (λh=>by rw[NI h,<- h];exact Ev1.now _) (λh=>by rw[ND h];exact Ev1.now _)
theorem Kx (p:ag)(n:Int):Ev1 (λk=>CF k pD j5 [inj ak p,inj I n]) (dW 6 p n):=
 Ev1.step (λk=>pF k p n) (Ev1.bind (Ae p) (Ev1.now _))
theorem Kz (p:ag)(n:Int):Ev1 (λk=>CF k pE j6 [inj ak p,inj I n]) (dW 7 p n):=
 Ev1.step (λk=>pG k p n) (Ev1.bind (Ae p) (Ev1.now _))
theorem HY (p:ag)(n:Int):Ev1 (λk=>CF k s9 lR [inj ak p,inj I n]) (dW 5 p n):=
 Ev1.step (λk=>tl k p n) (Ev1.now _)
theorem fK (e:Option Int):Ev1 (λk=>CF k x8 bL [inj .err e]) (e.getD 0,0):=
 Ev1.step (λk=>yA k e) (Ev1.bind (xn e) (Ev1.now _))
theorem BC (g:aZ):Ev1 (λk=>CF k xY ig [inj bn g]) (decide (g.2.1=0/\g.1.2.2.2.2.2.1<=g.2.2.1)):=by
 refine Ev1.step (λk=>yy k g) ?_;by_cases h:g.2.1=0
 ·exact Ev1.posD h (Ev1.const (congrArg some (Pq.2 ⟨λq=>⟨h,q⟩,λq=>q.2⟩)))
 ·exact Ev1.negD h (Ev1.const (congrArg some (NF (λq=>h q.1)).symm))
theorem Jb (g:aZ):Ev1 (λk=>CF k xX kx [inj bn g]) (g.1,g.2.1,w64 (g.2.2.1+1),0,g.2.2.2.2):=Ev1.step (λk=>yw k g) (Ev1.now _)
theorem E0 (g:aZ):Ev1 (λk=>CF k v8 jz [inj bn g]) (if 3<w64 (g.2.2.2.1+1)then(g.1,1,g.2.2.1,w64 (g.2.2.2.1+1),9)else(g.1,g.2.1,g.2.2.1,w64 (g.2.2.2.1+1),g.2.2.2.2)):=by
 refine Ev1.step (λk=>wq k g _ rfl) ?_;exact Ev1.iff (λh=>by rw[NI h];exact Ev1.now _) (λh=>by rw[ND h];exact Ev1.now _)
theorem Mb (g:aZ)(ok:Bool):Ev1 (λk=>CF k DF nZ [inj bn g,inj .bool ok]) (legF g ok):=by
 refine Ev1.step (λk=>DM k g ok) ?_;unfold legF;by_cases h:g.2.1=0
 ·refine Ev1.neg (by rw[NK h];rfl) (Ev1.bind (BC g) ?_);by_cases h2:g.1.2.2.2.2.2.1<=g.2.2.1
  ·rw[ND (λq=>q.2 h2)];exact Ev1.posD ⟨h,h2⟩ (Ev1.now _)
  ·rw[NI ⟨h,h2⟩];refine Ev1.negD (λq=>h2 q.2) ?_;cases ok with
   |true=>exact Ev1.bind (Jb g) (Ev1.now _)
   |false=>exact Ev1.bind (E0 g) (Ev1.now _)
 ·rw[ND (λq=>h q.1)];exact Ev1.pos (by rw[NF h];rfl) (Ev1.now _)
theorem J6 (g:aZ)(c:Int):Ev1 (λk=>CF k Ag l0 [inj bn g,inj I c]) (sS g c):=by
 refine Ev1.step (λk=>Aw k g c) ?_;unfold sS;exact Ev1.iff (λh=>by rw[NI h];exact Ev1.now _) (λh=>by rw[ND h];exact Ev1.now _)
theorem I9 (r:ae):Ev1 (λk=>CF k xZ ky [inj aq r]) (r,0,0,0,0):=Ev1.step (λk=>yz k r) (Ev1.now _)
theorem Fx (r:ae):Ev1 (λk=>CF k sZ ff [inj aq r]) (decide (long r)):=by
 refine Ev1.step (λk=>tk k r) ?_;by_cases h:0<r.2.2.2.2.2.1
 ·exact Ev1.posD h (Ev1.const (congrArg some (Pq.2 ⟨λq=>⟨h,q⟩,λq=>q.2⟩)))
 ·exact Ev1.negD h (Ev1.const (congrArg some (NF (λq=>h q.1)).symm))
theorem KS (r:ae):Ev1 (λk=>xP k k r.1 r.2.1 r.2.2.1 r.2.2.2.1 r.2.2.2.2.1 r.2.2.2.2.2.1 r.2.2.2.2.2.2)
  (if r.2.1=0 then decide (0<=r.2.2.1/\r.2.2.1<3)else if r.2.1=5 then true else if r.2.1=1\/r.2.1=2\/r.2.1=3\/r.2.1=4\/r.2.1=6\/r.2.1=7 then amtB r.2.2.2.2.1 else false):=by
 have ha:Ev1 (λk=>CF k tg aV [inj I r.2.2.2.2.1]) (amtB r.2.2.2.2.1):=Ev1.of_rfl 1 (λk=>lh k _);have h2:Ev2 (λk m=>xP k m r.1 r.2.1 r.2.2.1 r.2.2.2.1 r.2.2.2.2.1 r.2.2.2.2.2.1 r.2.2.2.2.2.2)
  (if r.2.1=0 then decide (0<=r.2.2.1/\r.2.2.1<3)else if r.2.1=5 then true else if r.2.1=1\/r.2.1=2\/r.2.1=3\/r.2.1=4\/r.2.1=6\/r.2.1=7 then amtB r.2.2.2.2.1 else false):=by
  refine Ev2.step (λk m=>Iq k m r.1 r.2.1 r.2.2.1 r.2.2.2.1 r.2.2.2.2.1 r.2.2.2.2.2.1 r.2.2.2.2.2.2) ?_;generalize amtB r.2.2.2.2.1=B at ha ⊢;refine Ev2.iff (λh=>?_) (λh0=>?_)
  ·rw[NI h];refine Ev2.iff (λq=>Ev2.const (congrArg some (Pq.2 ⟨λw=>⟨q,w⟩,λw=>w.2⟩))) (λq=>Ev2.const (congrArg some (NF (λw=>q w.1)).symm))
  rw[ND h0];refine Ev2.iff (λh=>by rw[NI h];exact Ev2.now _) (λh5=>?_);rw[ND h5];refine Ev2.iff (λh=>by rw[NI (by omega)];exact Ev2.posD h (Ev2.bind ha (Ev2.now _))) (λh1=>?_);refine Ev2.iff (λh=>by rw[NI (by omega)];exact Ev2.posD h (Ev2.bind ha (Ev2.now _))) (λh2=>?_);refine Ev2.iff (λh=>by rw[NI (by omega)];exact Ev2.posD h (Ev2.bind ha (Ev2.now _))) (λh3=>?_);refine Ev2.iff (λh=>by rw[NI (by omega)];exact Ev2.posD h (Ev2.bind ha (Ev2.now _))) (λh4=>?_);refine Ev2.iff (λh=>by rw[NI (by omega)];exact Ev2.posD h (Ev2.bind ha (Ev2.now _))) (λh6=>?_);refine Ev2.iff (λh=>by rw[NI (by omega)];exact Ev2.bind ha (Ev2.now _)) (λh7=>?_);rw[ND (by omega)];exact Ev2.now _
 exact h2.diag
theorem JA (r:ae):Ev1 (λk=>CF k g_rM n_rM [inj aq r]) (mayB r):=by
 refine Ev1.step (λk=>f_rM k r) ?_;have h1:=KS r;unfold mayB;generalize (if r.2.1=0 then decide (0<=r.2.2.1/\r.2.2.1<3)else if r.2.1=5 then true else if r.2.1=1\/r.2.1=2\/r.2.1=3\/r.2.1=4\/r.2.1=6\/r.2.1=7 then amtB r.2.2.2.2.1 else false)=B at h1 ⊢;have h2:Ev2 (λk m=>h_rM k m r.1 r.2.1 r.2.2.1 r.2.2.2.1 r.2.2.2.2.1 r.2.2.2.2.2.1 r.2.2.2.2.2.2) (if 0<r.2.2.2.2.2.1/\r.2.1≠2 then false else B):=by
  refine Ev2.step (λk m=>Mg k m r.1 r.2.1 r.2.2.1 r.2.2.2.1 r.2.2.2.2.1 r.2.2.2.2.2.1 r.2.2.2.2.2.2) ?_;refine Ev2.iff (λh=>?_) (λh=>by rw[ND (λq=>h q.1)];exact h1.drop);by_cases hq:r.2.1=2
  ·rw[ND (λq=>q.2 hq)];exact Ev2.neg (by rw[NK hq];rfl) h1.drop
  ·rw[NI ⟨h,hq⟩];exact Ev2.pos (by rw[NF hq];rfl) (Ev2.now _)
 refine Ev1.iff (λh=>by rw[NI (by omega)];exact Ev1.now _) (λq1=>?_);refine Ev1.iff (λh=>by rw[NI (by omega)];exact Ev1.now _) (λq2=>?_);refine Ev1.iff (λh=>by rw[NI (by omega)];exact Ev1.now _) (λq3=>?_);refine Ev1.iff (λh=>by rw[NI (by omega)];exact Ev1.now _) (λq4=>?_);refine Ev1.iff (λh=>by rw[NI (by omega)];exact Ev1.now _) (λq5=>?_);refine Ev1.iff (λh=>by rw[NI (by omega)];exact Ev1.now _) (λq6=>?_);rw[ND (by omega)];exact h2.diag
theorem Dz (l:List (Int×Int))(x:Int×Int):(vZ l x).length=l.length+1:=Go.Proofs.Due.hPush_len l x
theorem sx:∀(ps:List ag)(k:Nat)(l:List (Int×Int)),(eA k ps l).length<=l.length+ps.length
 |[],k,l=>by unfold eA;simp
 |p::r,k,l=>by
  unfold eA;refine Oa (sx r (k+1) _) ?_;cases decide (p.2.2.2.2.2.2.2=(0:Int))with
  |true=>rw[NH,Dz];simp only[NC];omega
  |false=>rw[NS];simp only[NC];omega
theorem uM (ps:List ag):(fG ps).length<=ps.length:=by
 unfold fG;rw[Go.Proofs.Due.hDrain_len];have:=sx ps 0 [];simpa using this
theorem GR (ps:List ag)(hl:ps.length<=1000000)(k:Nat):CF (k+1) rV mZ [inj (.slice ak) ps]=some (fG ps):=by
 have h:Nat.ble ps.length 1000000=true:=On hl;have e:X rV mZ [inj (.slice ak) ps]=(bif Nat.ble ps.length 1000000 then some (some (fG ps))else none):=by kernel_rfl
 rw[h,NH]at e;show D8 Go.Proofs.Tryz.prog A X (k+1) rV mZ [inj (.slice ak) ps]=_;unfold D8;rw[e]
theorem by_l (ps:List ag)(now:Int)(l:List Int)(hin:∀x∈l,0<=x/\x<(ps.length:Int))(hl:l.length<=1000):∀(d i:Nat)(out:List Int),i+d=l.length->out.length<=i ->
  Ev2 (λk m=>qb k m ps now l (l.length:Int) (i:Int) out) (out++(l.drop i).takeWhile λk=>!decide (now<(ps.getD (Int.toNat k) zP).2.2.2.2.2.2.1))
 |0,i,out,hi,ho=>by
  refine Ev2.step (λk m=>uJ k m ps now l (l.length:Int) (i:Int) out _ rfl) (Ev2.negD (by omega) (Ev2.const ?_));rw[Oi (by omega)];simp
 |d+1,i,out,hi,ho=>by
  have hlt:i<l.length:=by omega
  have he:l.getD (Int.toNat (i:Int)) 0=l[i]:=by rw[NQ];exact bc l i _ hlt
  have hx:=hin _ (N8 hlt);refine Ev2.step (λk m=>uJ k m ps now l (l.length:Int) (i:Int) out l[i] he.symm) (Ev2.posD (by omega) (Ev2.pos (aj (by omega) (by omega)) (Ev2.pos (aj hx.1 hx.2) ?_)));rw[Ob hlt,List.takeWhile_cons];refine Ev2.iff (λh=>?_) (λh=>?_)
  ·rw[NK h];exact Ev2.const (by simp)
  ·rw[NF h];refine Ev2.posD (by simp only[NC,NL];omega) ?_;rw[wnat (by omega)];have:=by_l ps now l hin hl d (i+1) (out++[l[i]]) (by omega) (by simp only[Ny,NC,NL];omega);simpa using this
theorem Np (ps:List ag)(now:Int)(hl:ps.length<=1000):Ev1 (λk=>CF k ID vG [inj (.slice ak) ps,inj I now]) (nA ps now):=by
 refine Ev1.step (λk=>IS k ps now) (Ev1.bind (Ev1.of_rfl 1 (λk=>GR ps (by omega) k)) ?_);have:=(by_l ps now (fG ps) (Go.Proofs.Due.dueAll_in ps) (Oa (uM ps) hl) (fG ps).length 0 [] (by omega) (by simp)).diag;simpa[nA]using this
theorem gG2 (l:List aZ)(i:Nat)(h:i<l.length):l.getD (Int.toNat (i:Int)) ((0,0,0,0,0,0,0),0,0,0,0)=l[i]:=gG l i h
theorem fg_l (key : Int) (l : List aZ) (hl : l.length ≤ 1000) : ∀ (d i : Nat), i + d = l.length → Ev2 (fun k m => fN k m key l (l.length : Int) (i : Int)) (match fndI key ((l.map fun g => g.1.1).drop i) with | none => -1 | some j => ((i + j : Nat) : Int))
  | 0, i, hi => by
    refine Ev2.step (fun k m => kL k m key l (l.length : Int) (i : Int)) (Ev2.negD (by omega) ?_)
    rw [Oi (by rw [OC]; omega)]
    exact Ev2.now _
  | d + 1, i, hi => by
    have hlt : i < l.length := by omega
    refine Ev2.step (fun k m => kL k m key l (l.length : Int) (i : Int)) (Ev2.posD (by omega) (Ev2.pos (aj (by omega) (by omega)) ?_))
    rw [gG2 l i hlt]
    have hd : (l.map fun g => g.1.1).drop i = (l[i]).1.1 :: (l.map fun g => g.1.1).drop (i + 1) := by
      rw [Ob (by rw [OC]; exact hlt), QN]
    rw [hd]
    unfold fndI
    refine Ev2.iff (fun h => ?_) (fun h => ?_)
    · simp only [h, O8]
      exact Ev2.const (by simp)
    · simp only [h, OE]
      rw [wnat (by omega)]
      have ih := fg_l key l hl d (i + 1) (by omega)
      cases hf : fndI key ((l.map fun g => g.1.1).drop (i + 1)) with
      | none => rw [hf] at ih; simpa using ih
      | some j =>
        rw [hf] at ih
        show Ev2 _ (((i + (j + 1) : Nat)) : Int)
        rw [show i + (j + 1) = i + 1 + j by omega]
        exact ih
theorem Nj (s : ab) (key : Int) (hl : s.2.2.1.length ≤ 1000) : Ev1 (fun k => CF k wi jE [inj aD s, inj I key]) (num (fndG key s.2.2.1)) := by
  refine Ev1.step (fun k => wz k s key) ?_
  have := (fg_l key s.2.2.1 hl s.2.2.1.length 0 (by omega)).diag
  rw [Pm] at this
  unfold fndG num
  cases hf : fndI key (s.2.2.1.map fun g => g.1.1) with
  | none => rw [hf] at this; exact this
  | some j => rw [hf] at this; simpa using this
end Go.Eng.Top
namespace Go.Eng.Top
open Go.RowKit Go.Eng Go.Eng.LVar Go.Eng.LChart Go.Eng.LEnt
set_option maxRecDepth 100000
abbrev sw (w:Out):ah×ab:=(w.2,w.1)
abbrev Dm (s:ab):AV:=.val false [.io aE s]
theorem nK (es:List En):(back es).length=es.length:=by unfold back;rw[Q6,OC]
theorem JO (es:List En)(hl:es.length*16<=140737488351232):∀(i:Nat)(out:List En),i<=es.length->out=back (es.drop i)->Ev2 (λk m=>iC k m es ((i:Int)-1) out) (back es)
 |0,out,h,ho=>by
  subst ho;exact Ev2.step (λk m=>lV k m es _ _ _ rfl _ rfl) (Ev2.negD (by omega) (Ev2.now _))
 |i+1,out,h,ho=>by
  have hlt:i<es.length:=by omega
  have e1:((i+1:Nat):Int)-1=(i:Int):=by omega
  have hol:out.length<=es.length:=by rw[ho,nK,OT];omega
  rw[e1];refine Ev2.step (λk m=>lV k m es (i:Int) out es[i] (getE es i hlt).symm _ rfl) (Ev2.posD (by omega) (Ev2.pos (aj (by omega) (by omega)) (Ev2.pos (aj (by omega) (by omega)) (Ev2.posD ?_ ?_))))
  ·have:out.length+1<=es.length:=by
    rw[ho,nK,OT];omega
   simp only[NC,NL];omega
  ·rw[aL (by omega)];refine JO es hl i _ (by omega) ?_;rw[ho,Ob hlt,Hd];rfl
theorem Hc (es:List En)(hl:es.length*16<=140737488351232):Ev1 (λk=>CF k yg im [inj KEs es]) (back es):=by
 refine Ev1.step (λk=>yI k es) ?_;rw[aL (by omega)];exact(JO es hl es.length [] (NG _) (by rw[List.drop_length];rfl)).diag
theorem lC (ac:List Acc)(f t n:Int):(bJ ac f t n).1.length<=4:=by
 rcases oq ac f t n with⟨c,h⟩|⟨v,r,h,hr⟩
 ·rw[h];simp
 ·rw[h];simp only[NC];omega
theorem KO {ac:List Acc}{f t n:Int}(h:(bJ ac f t n).2=none):1<=(bJ ac f t n).1.length:=by
 rcases oq ac f t n with⟨c,e⟩|⟨v,r,e,hr⟩
 ·rw[e]at h;cases h
 ·rw[e];simp
theorem u9 (s:ab)(w:List Acc×Option Int)(id:Int):Ev1 (λk=>CF k F4 iU [Dm s,inj KA w.1,inj .err w.2,inj I id]) (sw (va s w id)):=by
 refine Ev1.step (λk=>Gr k s w.1 w.2 id) ?_;unfold va;obtain⟨a,e⟩:=w;cases e with
 |some c=>exact Ev1.pos rfl (Ev1.bind (fK _) (Ev1.now _))
 |none=>exact Ev1.neg rfl (Ev1.now _)
theorem CQ {s:ab}(h:Op s s)(f t n:Int):Ev1 (λk=>CF k F5 mU [Dm s,inj I f,inj I t,inj I n]) (sw (vu s f t n)):=by
 refine Ev1.step (λk=>Gs k s f t n) (Ev1.bind (jI s.1 h.rt.curs f t n) ?_);have hl:=lC s.1 f t n;unfold vu;cases hm:(bJ s.1 f t n).2 with
 |some c=>exact Ev1.pos rfl (Ev1.bind (fK _) (Ev1.now _))
 |none=>exact Ev1.neg rfl (Ev1.bind (vq s.1 h.rt _ (by omega)) (Ev1.bind (u9 s (gm s.1 _) 0) (Ev1.now _)))
def cliB (s:ab)(ks:List Int):Bool:=ks.all λn=>decide (cli s n)
theorem MB (s : ab) (ks : List Int) (hl : ks.length ≤ 10) : ∀ (d i : Nat), i + d = ks.length → Ev2 (fun k m => iy k m ks (ks.length : Int) (i : Int) s.1 s.2.1 s.2.2.1 s.2.2.2.1 s.2.2.2.2) (cliB s (ks.drop i), s)
  | 0, i, hi => by
    refine Ev2.step (fun k m => lS k m ks (ks.length : Int) (i : Int) s.1 s.2.1 s.2.2.1 s.2.2.2.1 s.2.2.2.2) (Ev2.negD (by omega) ?_)
    rw [Oi (by omega)]
    exact Ev2.now _
  | d + 1, i, hi => by
    have hlt : i < ks.length := by omega
    have he : ks.getD (Int.toNat (i : Int)) 0 = ks[i] := by rw [NQ]; exact bc ks i _ hlt
    refine Ev2.step (fun k m => lS k m ks (ks.length : Int) (i : Int) s.1 s.2.1 s.2.2.1 s.2.2.2.1 s.2.2.2.2) (Ev2.posD (by omega) (Ev2.pos (aj (by omega) (by omega)) ?_))
    rw [he]
    refine Ev2.bind (BX s.1 ks[i]) ?_
    rw [Ob hlt]
    show Ev2 _ ((decide (cli s ks[i]) && cliB s (ks.drop (i + 1))), s)
    by_cases h : cli s ks[i]
    · rw [NK h, Q0]
      refine Ev2.neg rfl ?_
      rw [wnat (by omega)]
      exact MB s ks hl d (i + 1) (by omega)
    · rw [NF h, PH]
      exact Ev2.pos rfl (Ev2.now _)
theorem CT (s : ab) (ks : List Int) (hl : ks.length ≤ 10) : Ev1 (fun k => CF k yb dQ [Dm s, inj (.slice I) ks]) (cliB s ks, s) :=
  Ev1.step (fun k => yD k s ks) (MB s ks hl ks.length 0 (by omega)).diag
theorem cli1 (s:ab)(a:Int):cliB s [a]=decide (cli s a):=by unfold cliB;simp
theorem cli2 (s:ab)(a b:Int):cliB s [a,b]=decide (cli s a/\cli s b):=by unfold cliB;simp only[QZ,List.all_nil,O2,Bool.decide_and]
theorem KG {s:ab}(h:Op s s)(r:ae):Ev1 (λk=>CF k F6 xt [Dm s,inj aq r]) (sw (zJ s r)):=by
 have hh:=h.rt.hi;refine Ev1.step (λk=>Gt k s r _ rfl _ rfl) ?_;unfold zJ;refine Ev1.iff (λc=>by rw[NI c];exact Ev1.now _) (λc=>?_);rw[ND c];exact Ev1.bind (qh s.1 hh) (Ev1.posD (by simp only[NC,NL];omega) (Ev1.bind (u9 s (s.1++[(r.2.2.1,0,0)],none) _) (Ev1.now _)))
theorem Mu {s:ab}(h:Op s s)(r:ae):Ev1 (λk=>CF k ya pa [Dm s,inj aq r]) (sw (depF s r)):=by
 refine Ev1.step (λk=>yC k s r) (Ev1.bind (CT s [r.2.2.1] (by simp)) ?_);rw[cli1];unfold depF;by_cases c:cli s r.2.2.1
 ·rw[NK c,NI c];exact Ev1.neg rfl (Ev1.pos (aj (by omega) c.2) (Ev1.bind (ko 0 (acAt s.1 r.2.2.1).1) (Ev1.bind (CQ h _ _ _) (Ev1.now _))))
 ·rw[NF c,ND c];exact Ev1.pos rfl (Ev1.now _)
theorem M8 {s:ab}(h:Op s s)(r:ae):Ev1 (λk=>CF k wh mT [Dm s,inj aq r]) (sw (trF s r)):=by
 refine Ev1.step (λk=>wv k s r) (Ev1.bind (CT s [r.2.2.1,r.2.2.2.1] (by simp)) ?_);rw[cli2];unfold trF;by_cases c:cli s r.2.2.1/\cli s r.2.2.2.1
 ·rw[NK c,NI c];exact Ev1.neg rfl (Ev1.bind (CQ h _ _ _) (Ev1.now _))
 ·rw[NF c,ND c];exact Ev1.pos rfl (Ev1.now _)
theorem Lp {s:ab}(h:Op s s)(r:ae):Ev1 (λk=>CF k F9 xu [Dm s,inj aq r]) (sw (A4 s r)):=by
 refine Ev1.step (λk=>Gw k s r) (Ev1.bind (CT s [r.2.2.1,r.2.2.2.1] (by simp)) ?_);rw[cli2];unfold A4;by_cases c:cli s r.2.2.1/\cli s r.2.2.2.1
 ·rw[NK c,NI c];refine Ev1.neg rfl ?_;refine Ev1.iff (λq=>by rw[NI (.inl q)];exact Ev1.now _) (λq1=>?_);refine Ev1.iff (λq=>by rw[NI (.inr q)];exact Ev1.now _) (λq2=>?_);rw[ND (λq=>q.elim q1 q2)];refine Ev1.iff (λq=>by rw[NI q];exact Ev1.now _) (λq3=>?_);rw[ND q3];have h2:Ev2 (λk m=>rI k m s.1 s.2.1 s.2.2.1 s.2.2.2.1 s.2.2.2.2 r.1 r.2.1 r.2.2.1 r.2.2.2.1 r.2.2.2.2.1 r.2.2.2.2.2.1 r.2.2.2.2.2.2 0 0)
   (sw (match(fM s.1 r.2.2.1 r.2.2.2.2.1).2 with
    |some c=>(s,(c,0))
    |none=>(((fM s.1 r.2.2.1 r.2.2.2.2.1).1,s.2.1++[(r.2.2.1,r.2.2.2.1,r.2.2.2.2.1,0,0,0,r.2.2.2.2.2.2,0)],s.2.2),(0,(s.2.1.length:Int))))):=by
   refine Ev2.step (λk m=>Ac k m s.1 s.2.1 s.2.2.1 s.2.2.2.1 s.2.2.2.2 r.1 r.2.1 r.2.2.1 r.2.2.2.1 r.2.2.2.2.1 r.2.2.2.2.2.1 r.2.2.2.2.2.2 0 0 _ rfl) (Ev2.bind (FL s.1 h.rt _ _) (Ev2.bind (u9 s (fM s.1 _ _) _) ?_));unfold va;cases hh:(fM s.1 r.2.2.1 r.2.2.2.2.1).2 with
   |some c=>exact Ev2.neg rfl (Ev2.now _)
   |none=>
    have hp:=h.pl;exact Ev2.pos rfl (Ev2.posD (by show s.2.1.length*64<=211106232532992;omega) (Ev2.posD (by show(s.2.1.length+1)*64<=211106232532992;omega) (Ev2.now _)))
  exact h2.diag
 ·rw[NF c,ND c];exact Ev1.pos rfl (Ev1.now _)
def opFn (op:Int):Option Nat:=if op=4 then some 181 else if op=6 then some 182 else if op=7 then some 183 else some 184
theorem H2 {op:Int}(hop:op=4\/op=5\/op=6\/op=7)(p:ag)(n:Int):
  Ev1 (λk=>CF k x5 kz [inj I op]) (opFn op)/\Ev1 (λk=>CF k jf ((opFn op).getD 0) [inj ak p,inj I n]) (dW op p n)/\(opFn op).isSome=true:=by
 rcases hop with rfl|rfl|rfl|rfl
 ·exact⟨Ev1.step (λk=>iF k 4) (Ev1.const rfl),KB p n,rfl⟩
 ·exact⟨Ev1.step (λk=>iF k 5) (Ev1.const rfl),HY p n,rfl⟩
 ·exact⟨Ev1.step (λk=>iF k 6) (Ev1.const rfl),Kx p n,rfl⟩
 ·exact⟨Ev1.step (λk=>iF k 7) (Ev1.const rfl),Kz p n,rfl⟩
theorem LW {op:Int}(hop:op=4\/op=5\/op=6\/op=7)(p:ag)(n:Int):Ev1 (λk=>CF k g_pD n_pD [inj ak p,inj I op,inj I n]) (lP op p n):=by
 obtain⟨hb,hp,hs⟩:=H2 hop p n;refine Ev1.step (λk=>f_pD k p op n _ rfl _ rfl) (Ev1.bind hb (Ev1.neg (by rw[hs];rfl) ?_));have h2:Ev1 (λk=>h_pD k k n (opFn op) p.1 p.2.1 p.2.2.1 p.2.2.2.1 p.2.2.2.2.1 p.2.2.2.2.2.1 p.2.2.2.2.2.2.1 p.2.2.2.2.2.2.2 0 0 0 0 0 0 0 0) (if(dW op p n).2=true then((dW op p n).1,none)else(zP,some 6)):=by
  have h3:Ev2 (λk m=>h_pD k m n (opFn op) p.1 p.2.1 p.2.2.1 p.2.2.2.1 p.2.2.2.2.1 p.2.2.2.2.2.1 p.2.2.2.2.2.2.1 p.2.2.2.2.2.2.2 0 0 0 0 0 0 0 0) (if(dW op p n).2=true then((dW op p n).1,none)else(zP,some 6)):=by
   refine Ev2.step (λk m=>Mh k m n (opFn op) p.1 p.2.1 p.2.2.1 p.2.2.2.1 p.2.2.2.2.1 p.2.2.2.2.2.1 p.2.2.2.2.2.2.1 p.2.2.2.2.2.2.2 0 0 0 0 0 0 0 0) (Ev2.pos hs (Ev2.bind hp ?_));generalize dW op p n=w;obtain⟨q,b⟩:=w;cases b with
   |true=>exact Ev2.neg rfl (Ev2.now _)
   |false=>exact Ev2.pos rfl (Ev2.now _)
  exact h3.diag
 unfold lP;by_cases c5:op=5
 ·rw[ND (λq=>q.1 c5)];exact Ev1.neg (by rw[NK c5];rfl) h2
 ·refine Ev1.pos (by rw[NF c5];rfl) (Ev1.iff (λq=>by rw[NI ⟨c5,q⟩];exact Ev1.now _) (λq=>?_));rw[ND (λw=>q w.2)];exact h2
abbrev bo (s:ab)(w:ag×ag×Option Int):ag×ag×Option Int×ab:=(w.1,w.2.1,w.2.2,s)
theorem wO (s:ab){op:Int}(hop:op=4\/op=5\/op=6\/op=7)(r:ae)(hr:r.2.1=op):Ev1 (λk=>CF k F7 iV [Dm s,inj aq r]) (bo s (bM s op r)):=by
 refine Ev1.step (λk=>Gu k s r) ?_;unfold bM;refine Ev1.iff (λq=>by rw[NI (.inl q)];exact Ev1.now _) (λq1=>?_);refine Ev1.iff (λq=>by rw[NI (.inr q)];exact Ev1.now _) (λq2=>?_);rw[ND (λq=>q.elim q1 q2)];have h2:Ev2 (λk m=>rH k m s.1 s.2.1 s.2.2.1 s.2.2.2.1 s.2.2.2.2 r.1 r.2.1 r.2.2.1 r.2.2.2.1 r.2.2.2.2.1 r.2.2.2.2.2.1 r.2.2.2.2.2.2 0 0 0 0 0 0 0 0 0 0 0 0 0 0 0 0)
  (bo s (pAt s r.2.2.1,(lP op (pAt s r.2.2.1) r.2.2.2.2.1).1,(lP op (pAt s r.2.2.1) r.2.2.2.2.1).2)):=by
  refine Ev2.step (λk m=>Ab k m s.1 s.2.1 s.2.2.1 s.2.2.2.1 s.2.2.2.2 r.1 r.2.1 r.2.2.1 r.2.2.2.1 r.2.2.2.2.1 r.2.2.2.2.2.1 r.2.2.2.2.2.2 0 0 0 0 0 0 0 0 0 0 0 0 0 0 0 0 _ rfl) (Ev2.pos (aj (by omega) (by omega)) ?_);rw[hr];exact Ev2.bind (LW hop (pAt s r.2.2.1) _) (Ev2.now _)
 exact h2.diag
theorem BG {s:ab}(h:Op s s){i:Int}(hi:0<=i/\i<(s.2.1.length:Int))(q:ag)(w:List Acc×Option Int):Ev1 (λk=>CF k IB lA [Dm s,inj I i,inj ak q,inj KA w.1,inj .err w.2]) (sw (payF s i q w)):=by
 have hp:=h.pl;refine Ev1.step (λk=>IM k s i q w.1 w.2) (Ev1.bind (u9 s w 0) ?_);unfold payF va;obtain⟨a,e⟩:=w;cases e with
 |some c=>exact Ev1.neg rfl (Ev1.now _)
 |none=>exact Ev1.pos rfl (Ev1.posD (by dsimp only;omega) (Ev1.pos (aj hi.1 hi.2) (Ev1.now _)))
theorem wN {s:ab}{op:Int}{r:ae}(h:(bM s op r).2.2=none):0<=r.2.2.1/\r.2.2.1<(s.2.1.length:Int):=by
 unfold bM at h;split at h
 ·cases h
 ·omega
theorem MG {s:ab}(h:Op s s)(r:ae)(hr:r.2.1=4):Ev1 (λk=>CF k yc pb [Dm s,inj aq r]) (sw (capF s r)):=by
 refine Ev1.step (λk=>yE k s r) (Ev1.bind (wO s (.inl rfl) r hr) ?_);have hb:=wN (s:=s) (op:=4) (r:=r);unfold capF;generalize bM s 4 r=w at hb;obtain⟨p,q,e⟩:=w;cases e with
 |some c=>exact Ev1.pos rfl (Ev1.bind (fK _) (Ev1.now _))
 |none=>
  refine Ev1.neg rfl (Ev1.bind (jI s.1 h.rt.curs p.1 p.2.1 r.2.2.2.2.1) ?_);have hl:=lC s.1 p.1 p.2.1 r.2.2.2.2.1;dsimp only;generalize bJ s.1 p.1 p.2.1 r.2.2.2.2.1=m at hl;obtain⟨es,g⟩:=m;cases g with
  |some c=>exact Ev1.pos rfl (Ev1.bind (fK _) (Ev1.now _))
  |none=>exact Ev1.neg rfl (Ev1.bind (Bk s.1 h.rt _ _ (by dsimp only at hl ⊢;omega)) (Ev1.bind (BG h (hb rfl) q (eG s.1 _ _)) (Ev1.now _)))
theorem J0 {s:ab}(h:Op s s)(r:ae)(hr:r.2.1=5):Ev1 (λk=>CF k F2 xr [Dm s,inj aq r]) (sw (zf s r)):=by
 refine Ev1.step (λk=>Gq k s r) (Ev1.bind (wO s (.inr (.inl rfl)) r hr) ?_);have hb:=wN (s:=s) (op:=5) (r:=r);unfold zf;generalize bM s 5 r=w at hb;obtain⟨p,q,e⟩:=w;cases e with
 |some c=>exact Ev1.pos rfl (Ev1.bind (fK _) (Ev1.now _))
 |none=>exact Ev1.neg rfl (Ev1.bind (FA p) (Ev1.bind (EV s.1 h.rt _ _) (Ev1.bind (BG h (hb rfl) q (relF s.1 _ _)) (Ev1.now _))))
theorem CS {s:ab}(h:Op s s)(p:ag)(n:Int):Ev1 (λk=>CF k F8 mV [Dm s,inj ak p,inj I n]) ((oS s p n).1,(oS s p n).2,s):=by
 have hl:=lC s.1 p.1 p.2.1 n;exact Ev1.step (λk=>Gv k s p n) (Ev1.bind (jI s.1 h.rt.curs p.1 p.2.1 n) (Ev1.bind (Hc _ (by omega)) (Ev1.now _)))
theorem LO {s:ab}(h:Op s s)(r:ae)(hr:r.2.1=6):Ev1 (λk=>CF k Ai qP [Dm s,inj aq r]) (sw (refF s r)):=by
 refine Ev1.step (λk=>Ax k s r) (Ev1.bind (wO s (.inr (.inr (.inl rfl))) r hr) ?_);have hb:=wN (s:=s) (op:=6) (r:=r);unfold refF;generalize bM s 6 r=w at hb;obtain⟨p,q,e⟩:=w;cases e with
 |some c=>exact Ev1.pos rfl (Ev1.bind (fK _) (Ev1.now _))
 |none=>
  refine Ev1.neg rfl (Ev1.bind (CS h p _) ?_);have hl:=lC s.1 p.1 p.2.1 r.2.2.2.2.1;have hl2:(oS s p r.2.2.2.2.1).1.length<=4:=by show(back _).length<=4;rw[nK];exact hl
  dsimp only;generalize oS s p r.2.2.2.2.1=m at hl2;obtain⟨es,g⟩:=m;cases g with
  |some c=>exact Ev1.pos rfl (Ev1.bind (fK _) (Ev1.now _))
  |none=>exact Ev1.neg rfl (Ev1.bind (vq s.1 h.rt _ (by dsimp only at hl2 ⊢;omega)) (Ev1.bind (BG h (hb rfl) q (gm s.1 _)) (Ev1.now _)))
theorem MD {s:ab}(h:Op s s)(r:ae)(hr:r.2.1=7):Ev1 (λk=>CF k Aj qQ [Dm s,inj aq r]) (sw (chgF s r)):=by
 refine Ev1.step (λk=>Ay k s r) (Ev1.bind (wO s (.inr (.inr (.inr rfl))) r hr) ?_);have hb:=wN (s:=s) (op:=7) (r:=r);have hq:=(kZ h 7 r).2;unfold chgF;generalize bM s 7 r=w at hb hq;obtain⟨p,q,e⟩:=w;cases e with
 |some c=>exact Ev1.pos rfl (Ev1.bind (fK _) (Ev1.now _))
 |none=>
  refine Ev1.neg rfl (Ev1.bind (CS h p _) ?_);have hto:=(hq rfl).1.to_;have hl:=lC s.1 p.1 p.2.1 r.2.2.2.2.1;have hl2:(oS s p r.2.2.2.2.1).1.length<=4:=by show(back _).length<=4;rw[nK];exact hl
  have hl3:(oS s p r.2.2.2.2.1).2=none->1<=(oS s p r.2.2.2.2.1).1.length:=λhn=>by show 1<=(back _).length;rw[nK];exact KO hn
  dsimp only;dsimp only at hto;generalize oS s p r.2.2.2.2.1=m at hl2 hl3;obtain⟨es,g⟩:=m;cases g with
  |some c=>exact Ev1.pos rfl (Ev1.bind (fK _) (Ev1.now _))
  |none=>
   have hl4:=hl3 rfl;dsimp only at hl2 hl4;have hz:∀es2:List En,es2.length<=5->Ev1 (λk=>gL k k s.1 s.2.1 s.2.2.1 s.2.2.2.1 s.2.2.2.2 r.1 r.2.1 r.2.2.1 r.2.2.2.1 r.2.2.2.2.1 r.2.2.2.2.2.1 r.2.2.2.2.2.2 0 0 q.1 q.2.1 q.2.2.1 q.2.2.2.1 q.2.2.2.2.1 q.2.2.2.2.2.1 q.2.2.2.2.2.2.1 q.2.2.2.2.2.2.2 es2) (sw (payF s r.2.2.1 q (gm s.1 es2))):=by
    intro es2 h5;have h6:Ev2 (λk m=>gL k m s.1 s.2.1 s.2.2.1 s.2.2.2.1 s.2.2.2.2 r.1 r.2.1 r.2.2.1 r.2.2.2.1 r.2.2.2.2.1 r.2.2.2.2.2.1 r.2.2.2.2.2.2 0 0 q.1 q.2.1 q.2.2.1 q.2.2.2.1 q.2.2.2.2.1 q.2.2.2.2.2.1 q.2.2.2.2.2.2.1 q.2.2.2.2.2.2.2 es2) (sw (payF s r.2.2.1 q (gm s.1 es2))):=
     Ev2.step (λk m=>vW k m s.1 s.2.1 s.2.2.1 s.2.2.2.1 s.2.2.2.2 r.1 r.2.1 r.2.2.1 r.2.2.2.1 r.2.2.2.2.1 r.2.2.2.2.2.1 r.2.2.2.2.2.2 0 0 q.1 q.2.1 q.2.2.1 q.2.2.2.1 q.2.2.2.2.1 q.2.2.2.2.2.1 q.2.2.2.2.2.2.1 q.2.2.2.2.2.2.2 es2) (Ev2.bind (vq s.1 h.rt es2 (by omega)) (Ev2.bind (BG h (hb rfl) q (gm s.1 es2)) (Ev2.now _)))
    exact h6.diag
   refine Ev1.neg rfl (Ev1.pos (aj (by omega) hto.2) (Ev1.pos (aj (by omega) (by dsimp only;omega)) (Ev1.bind (Ev1.step (λk=>kW k (acAt s.1 p.2.1)) (Ev1.now _)) ?_)));unfold chgE;refine Ev1.iff (λc=>?_) (λc=>?_)
   ·rw[NI c];refine Ev1.pos (aj (by omega) (by dsimp only;omega)) (Ev1.pos (aj (by omega) (by dsimp only;omega)) (Ev1.bind (ko 2 (acAt s.1 p.2.1).1) (Ev1.posD (by simp only[NA,NC,NL];omega) ?_)));exact hz _ (by rw[Ny,NA];simp only[NC,NL];omega)
   ·rw[ND c];exact hz es (by omega)
theorem Jy {s:ab}(h:Op s s)(r:ae):Ev1 (λk=>CF k IA pV [inj aD s,inj aq r]) (opsF s r):=by
 refine Ev1.step (λk=>IL k s r) ?_;unfold opsF;have by_:∀(op:Int) (o:Option Nat),r.2.1=op->(Ev1 (λk=>CF k wb mR [inj I op]) o)->Ev1 (λk=>CF k wb mR [inj I r.2.1]) o:=λop o e q=>by rw[e];exact q
 by_cases h0:r.2.1=0
 ·rw[NI h0];exact Ev1.bind (by_ 0 (some 124) h0 (Ev1.step (λk=>fV k 0) (Ev1.const rfl))) (Ev1.neg rfl (Ev1.pos rfl (Ev1.bind (KG h r) (Ev1.now _))))
 rw[ND h0];by_cases h1:r.2.1=1
 ·rw[NI h1];exact Ev1.bind (by_ 1 (some 125) h1 (Ev1.step (λk=>fV k 1) (Ev1.const rfl))) (Ev1.neg rfl (Ev1.pos rfl (Ev1.bind (Mu h r) (Ev1.now _))))
 rw[ND h1];by_cases h2:r.2.1=2
 ·rw[NI h2];exact Ev1.bind (by_ 2 (some 126) h2 (Ev1.step (λk=>fV k 2) (Ev1.const rfl))) (Ev1.neg rfl (Ev1.pos rfl (Ev1.bind (M8 h r) (Ev1.now _))))
 rw[ND h2];by_cases h3:r.2.1=3
 ·rw[NI h3];exact Ev1.bind (by_ 3 (some 127) h3 (Ev1.step (λk=>fV k 3) (Ev1.const rfl))) (Ev1.neg rfl (Ev1.pos rfl (Ev1.bind (Lp h r) (Ev1.now _))))
 rw[ND h3];by_cases h4:r.2.1=4
 ·rw[NI h4];exact Ev1.bind (by_ 4 (some 128) h4 (Ev1.step (λk=>fV k 4) (Ev1.const rfl))) (Ev1.neg rfl (Ev1.pos rfl (Ev1.bind (MG h r h4) (Ev1.now _))))
 rw[ND h4];by_cases h5:r.2.1=5
 ·rw[NI h5];exact Ev1.bind (by_ 5 (some 129) h5 (Ev1.step (λk=>fV k 5) (Ev1.const rfl))) (Ev1.neg rfl (Ev1.pos rfl (Ev1.bind (J0 h r h5) (Ev1.now _))))
 rw[ND h5];by_cases h6:r.2.1=6
 ·rw[NI h6];exact Ev1.bind (by_ 6 (some 130) h6 (Ev1.step (λk=>fV k 6) (Ev1.const rfl))) (Ev1.neg rfl (Ev1.pos rfl (Ev1.bind (LO h r h6) (Ev1.now _))))
 rw[ND h6];by_cases h7:r.2.1=7
 ·rw[NI h7];exact Ev1.bind (by_ 7 (some 131) h7 (Ev1.step (λk=>fV k 7) (Ev1.const rfl))) (Ev1.neg rfl (Ev1.pos rfl (Ev1.bind (MD h r h7) (Ev1.now _))))
 rw[ND h7];have hn:Ev1 (λk=>CF k wb mR [inj I r.2.1]) none:=by
  refine Ev1.step (λk=>fV k r.2.1) ?_;refine Ev1.iff (λ_=>Ev1.now _) (λq1=>?_);exact Ev1.posD (by omega) (Ev1.now _)
 exact Ev1.bind hn (Ev1.pos rfl (Ev1.now _))
theorem LK {s:ab}(h:Op s s)(r:ae):Ev1 (λk=>CF k wg jA [inj aD s,inj aq r]) (resF s r):=by
 refine Ev1.step (λk=>wu k s r) (Ev1.bind (CT s [r.2.2.1,r.2.2.2.1] (by simp)) ?_);rw[cli2];unfold resF;by_cases c:cli s r.2.2.1/\cli s r.2.2.2.1
 ·rw[NK c,NI c];refine Ev1.neg rfl (Ev1.bind (jI s.1 h.rt.curs _ _ _) ?_);generalize bJ s.1 r.2.2.1 r.2.2.2.1 r.2.2.2.2.1=m;obtain⟨es,g⟩:=m;cases g with
  |some c=>exact Ev1.pos rfl (Ev1.now _)
  |none=>
   refine Ev1.neg rfl (Ev1.bind (FL s.1 h.rt _ _) ?_);unfold mB;dsimp only;generalize fM s.1 r.2.2.1 r.2.2.2.2.1=w;obtain⟨a,e⟩:=w;cases e with
   |some c=>exact Ev1.pos rfl (Ev1.now _)
   |none=>exact Ev1.neg rfl (Ev1.now _)
 ·rw[NF c,ND c];exact Ev1.pos rfl (Ev1.now _)
theorem Kf {s:ab}(h:Op s s)(r:ae):Ev1 (λk=>CF k x9 kA [inj aD s,inj aq r]) (nQ s r):=by
 refine Ev1.step (λk=>yB k s r) (Ev1.bind (jI s.1 h.rt.curs _ _ _) ?_);have hl:=lC s.1 r.2.2.1 r.2.2.2.1 r.2.2.2.2.1;unfold nQ;generalize bJ s.1 r.2.2.1 r.2.2.2.1 r.2.2.2.2.1=m at hl;obtain⟨es,g⟩:=m;cases g with
 |some c=>exact Ev1.pos rfl (Ev1.now _)
 |none=>
  refine Ev1.neg rfl (Ev1.bind (Bk s.1 h.rt _ _ (by dsimp only at hl ⊢;omega)) ?_);unfold mB;dsimp only;generalize eG s.1 r.2.2.2.2.1 es=w;obtain⟨a,e⟩:=w;cases e with
  |some c=>exact Ev1.pos rfl (Ev1.now _)
  |none=>exact Ev1.neg rfl (Ev1.now _)
theorem J3 {s:ab}(h:Op s s)(r:ae):Ev1 (λk=>CF k DG oa [inj aD s,inj aq r]) (C8 s r):=by
 refine Ev1.step (λk=>DN k s r) (Ev1.bind (EV s.1 h.rt _ _) ?_);unfold C8 mB;generalize relF s.1 r.2.2.1 r.2.2.2.2.1=w;obtain⟨a,e⟩:=w;cases e with
 |some c=>exact Ev1.pos rfl (Ev1.now _)
 |none=>exact Ev1.neg rfl (Ev1.now _)
theorem Jk (l : List Int) (hl : l.length ≤ 1000) : ∀ (d i : Nat) (s : ab), Op s s → i + d = l.length → Ev2 (fun k m => lH k m l (l.length : Int) (i : Int) s.1 s.2.1 s.2.2.1 s.2.2.2.1 s.2.2.2.2 0) (sR (l.drop i) s)
  | 0, i, s, h, hi => by
    refine Ev2.step (fun k m => ph k m l (l.length : Int) (i : Int) s.1 s.2.1 s.2.2.1 s.2.2.2.1 s.2.2.2.2 0 _ rfl) (Ev2.negD (by omega) ?_)
    rw [Oi (by omega)]
    exact Ev2.now _
  | d + 1, i, s, h, hi => by
    have hlt : i < l.length := by omega
    have he : l.getD (Int.toNat (i : Int)) 0 = l[i] := by rw [NQ]; exact bc l i _ hlt
    refine Ev2.step (fun k m => ph k m l (l.length : Int) (i : Int) s.1 s.2.1 s.2.2.1 s.2.2.2.1 s.2.2.2.2 0 _ rfl) (Ev2.posD (by omega) (Ev2.pos (aj (by omega) (by omega)) ?_))
    rw [he, Ob hlt]
    refine Ev2.bind (Jy h (0, 5, l[i], 0, 0, 0, 0)) ?_
    rw [wnat (by omega)]
    have ho := (tX h (0, 5, l[i], 0, 0, 0, 0) (fun e => by simp at e) (fun e => by simp at e)).1
    exact Jk l hl d (i + 1) (opsF s (0, 5, l[i], 0, 0, 0, 0)).1 ho.self (by omega)
theorem J7 {s : ab} (h : Op s s) : Ev1 (fun k => CF k DH od [inj aD s]) (sT s) := by
  have hp := h.pl
  refine Ev1.step (fun k => DO k s _ rfl) ?_
  unfold sT
  refine Ev1.iff (fun c => by rw [NI c]; exact Ev1.now _) (fun c => ?_)
  rw [ND c]
  refine Ev1.bind (Np s.2.1 _ (by omega)) ?_
  have hlen : (nA s.2.1 (w64 (s.2.2.2.2 + 1))).length ≤ 1000 := by
    unfold nA
    refine Oa (List.takeWhile_sublist _).length_le (Oa (uM _) (by omega))
  have := (Jk (nA s.2.1 (w64 (s.2.2.2.2 + 1))) hlen (nA s.2.1 (w64 (s.2.2.2.2 + 1))).length 0 (s.1, s.2.1, s.2.2.1, s.2.2.2.1, w64 (s.2.2.2.2 + 1)) ⟨rfl, h.rt, h.pl, h.ps, NG _⟩ (by omega)).diag
  exact this
end Go.Eng.Top
namespace Go.Eng.Top
open Go.RowKit Go.Eng Go.Eng.LVar Go.Eng.LChart Go.Eng.LEnt
set_option maxRecDepth 100000
theorem LC {s:ab}(h:Inv s)(e:au):Ev1 (λk=>CF k Aq l7 [Dm s,inj aH e]) (sw (subF s e.2.1)):=by
 have hkl:=h.kl;have hgl:=h.gl;refine Ev1.step (λk=>AL k s e _ rfl _ rfl) (Ev1.bind (JA e.2.1) ?_);unfold subF;cases hm:mayB e.2.1 with
 |false=>rw[NI rfl];exact Ev1.pos rfl (Ev1.now _)
 |true=>
  rw[ND (by simp)];refine Ev1.neg rfl (Ev1.bind (MN s.2.2.2.1 e.2.1 (by omega)) ?_);cases ha:(askF s.2.2.2.1 e.2.1).2 with
  |true=>rw[NI rfl];exact Ev1.pos rfl (Ev1.now _)
  |false=>
   rw[ND (by simp)];refine Ev1.neg rfl (Ev1.bind (Fx e.2.1) ?_);have hput:=LQ s.2.2.2.1 e.2.1 (by omega);have hpl:(putF s.2.2.2.1 e.2.1).1.length<=256:=by
    unfold putF;split
    ·exact PY _
    ·split
     ·exact PY _
     ·simp only[Ny,NC,NL];omega
   have hz:Ev1 (λk=>gN k k s.1 s.2.1 s.2.2.1 s.2.2.2.1 s.2.2.2.2 0 0 e.2.1.1 e.2.1.2.1 e.2.1.2.2.1 e.2.1.2.2.2.1 e.2.1.2.2.2.2.1 e.2.1.2.2.2.2.2.1 e.2.1.2.2.2.2.2.2)
    (sw (match(putF s.2.2.2.1 e.2.1).2 with
  |some c=>(s,(c,0))
  |none=>
   if long e.2.1 then(match(resF s e.2.1).2 with
    |some c=>((s.1,s.2.1,s.2.2.1,(qm (putF s.2.2.2.1 e.2.1).1 e.2.1.1 (c,0)).1,s.2.2.2.2),(c,0))
    |none=>(((resF s e.2.1).1.1,(resF s e.2.1).1.2.1,(resF s e.2.1).1.2.2.1++[(e.2.1,0,0,0,0)],(putF s.2.2.2.1 e.2.1).1,(resF s e.2.1).1.2.2.2.2),(10,0)))
   else(((opsF s e.2.1).1.1,(opsF s e.2.1).1.2.1,(opsF s e.2.1).1.2.2.1,(qm (putF s.2.2.2.1 e.2.1).1 e.2.1.1 (opsF s e.2.1).2).1,(opsF s e.2.1).1.2.2.2.2),(opsF s e.2.1).2))):=by
    refine Ev2.diag (f:=λk m=>gN k m s.1 s.2.1 s.2.2.1 s.2.2.2.1 s.2.2.2.2 0 0 e.2.1.1 e.2.1.2.1 e.2.1.2.2.1 e.2.1.2.2.2.1 e.2.1.2.2.2.2.1 e.2.1.2.2.2.2.2.1 e.2.1.2.2.2.2.2.2) ?_;refine Ev2.step (λk m=>vY k m s.1 s.2.1 s.2.2.1 s.2.2.2.1 s.2.2.2.2 0 0 e.2.1.1 e.2.1.2.1 e.2.1.2.2.1 e.2.1.2.2.2.1 e.2.1.2.2.2.2.1 e.2.1.2.2.2.2.2.1 e.2.1.2.2.2.2.2.2 _ rfl _ rfl) (Ev2.bind hput ?_);generalize putF s.2.2.2.1 e.2.1=P at hpl;obtain⟨ks,g⟩:=P;dsimp only at hpl;cases g with
    |some c=>exact Ev2.pos rfl (Ev2.bind (xn _) (Ev2.now _))
    |none=>
     refine Ev2.neg rfl (Ev2.bind (Fx e.2.1) ?_);dsimp only;by_cases hlo:long e.2.1
     ·rw[NK hlo,NI hlo];refine Ev2.neg rfl (Ev2.bind (LK h.op e.2.1) ?_);have hrest:(resF s e.2.1).1.2.2.1=s.2.2.1:=by rw[(Bv h.op e.2.1).1.rest]
      generalize resF s e.2.1=R at hrest;obtain⟨t,g2⟩:=R;dsimp only at hrest;cases g2 with
      |some c=>exact Ev2.pos rfl (Ev2.bind (xn _) (Ev2.bind (zk ks _ _ (by omega)) (Ev2.now _)))
      |none=>exact Ev2.neg rfl (Ev2.posD (by dsimp only;rw[hrest];omega) (Ev2.bind (I9 e.2.1) (Ev2.posD (by dsimp only;rw[hrest];simp only[NC,NL];omega) (Ev2.now _))))
     ·rw[NF hlo,ND hlo];exact Ev2.pos rfl (Ev2.bind (Jy h.op e.2.1) (Ev2.bind (zk ks _ _ (by omega)) (Ev2.now _)))
   by_cases hlo:long e.2.1
   ·rw[NK hlo];refine Ev1.pos rfl ?_;refine Ev1.iff (λc=>by rw[NI ⟨hlo,c⟩];exact Ev1.now _) (λc=>?_);rw[ND (λq=>c q.2)];exact hz
   ·rw[NF hlo,ND (λq=>hlo q.1)];exact Ev1.neg rfl hz
theorem Mr (s:ab)(hg:s.2.2.1.length<=16)(hk:s.2.2.2.1.length<=256)(i:Nat)(hi:i<s.2.2.1.length)(o:ah):Ev1 (λk=>CF k CH mY [Dm s,inj I (i:Int),inj aK o]) (sw (endF s i o)):=by
 have ht:=zk s.2.2.2.1 (s.2.2.1.getD i zG).1.1 o (by omega);have e1:Int.toNat (w64 ((i:Int)+1))=i+1:=by rw[wnat (by omega),NQ]
 have e2:w64 ((i:Int)+1)=((i+1:Nat):Int):=wnat (by omega);have hl1:(s.2.2.1.take i).length<=16:=by rw[OA];omega
 have hl2:(s.2.2.1.drop (i+1)).length<=16:=by rw[OT];omega
 refine Ev1.step (λk=>IQ k s (i:Int) o _ rfl _ rfl _ rfl _ rfl) ?_;rw[e1,e2,NQ];refine Ev1.pos (aj (by omega) (by omega)) (Ev1.pos (by rw[NK (show(0:Int)<=(i:Int) by omega),NK (show(i:Int)<=(s.2.2.1.length:Int) by omega)];rfl) (Ev1.posD (by omega) (Ev1.pos (by rw[NK (show(0:Int)<=((i+1:Nat):Int) by omega),NK (show((i+1:Nat):Int)<=(s.2.2.1.length:Int) by omega)];rfl) (Ev1.posD (by omega) (Ev1.bind ht (Ev1.now _))))))
theorem Iw {s:ab}(h:Inv s)(e:au):Ev1 (λk=>CF k Gd qU [Dm s,inj aH e]) (sw (qo s e.2.2.1 e.2.2.2)):=by
 have hgl:=h.gl;have hkl:=h.kl;refine Ev1.step (λk=>GC k s e) (Ev1.bind (Nj s e.2.2.1 (by omega)) ?_);unfold qo;cases hf:fndG e.2.2.1 s.2.2.1 with
 |none=>exact Ev1.posD (by show(-1:Int)<0;omega) (Ev1.now _)
 |some i=>
  have hi:=oH hf;have hget:s.2.2.1.getD (Int.toNat (num (some i))) zG=s.2.2.1.getD i zG:=by show s.2.2.1.getD (Int.toNat (i:Int)) zG=_;rw[NQ]
  refine Ev1.negD (by show ¬ ((i:Int)<0);omega) (Ev1.pos (aj (by show(0:Int)<=(i:Int);omega) (by show(i:Int)<_;omega)) ?_);dsimp only;unfold zG at hget ⊢;rw[hget];generalize s.2.2.1.getD i ((0,0,0,0,0,0,0),0,0,0,0)=g;have hset:∀g2:aZ,Ev1 (λk=>kM k k (num (some i)) s.1 s.2.1 s.2.2.1 s.2.2.2.1 s.2.2.2.2 0 0 g2.1.1 g2.1.2.1 g2.1.2.2.1 g2.1.2.2.2.1 g2.1.2.2.2.2.1 g2.1.2.2.2.2.2.1 g2.1.2.2.2.2.2.2 g2.2.1 g2.2.2.1 g2.2.2.2.1 g2.2.2.2.2) (sw (putG s i g2)):=by
   intro g2;have h2:Ev2 (λk m=>kM k m (num (some i)) s.1 s.2.1 s.2.2.1 s.2.2.2.1 s.2.2.2.2 0 0 g2.1.1 g2.1.2.1 g2.1.2.2.1 g2.1.2.2.2.1 g2.1.2.2.2.2.1 g2.1.2.2.2.2.2.1 g2.1.2.2.2.2.2.2 g2.2.1 g2.2.2.1 g2.2.2.2.1 g2.2.2.2.2) (sw (putG s i g2)):=by
    refine Ev2.step (λk m=>Ad k m (num (some i)) s.1 s.2.1 s.2.2.1 s.2.2.2.1 s.2.2.2.2 0 0 g2.1.1 g2.1.2.1 g2.1.2.2.1 g2.1.2.2.2.1 g2.1.2.2.2.2.1 g2.1.2.2.2.2.2.1 g2.1.2.2.2.2.2.2 g2.2.1 g2.2.2.1 g2.2.2.2.1 g2.2.2.2.2) (Ev2.posD (by omega) (Ev2.pos (aj (by show(0:Int)<=(i:Int);omega) (by show(i:Int)<_;omega)) (Ev2.const ?_)));have:Int.toNat (num (some i))=i:=by show Int.toNat (i:Int)=i;rw[NQ]
    rw[this];rfl
   exact h2.diag
  have hend:∀(t:ab) (ht:Op s t) (o:ah),Ev1 (λk=>CF k CH mY [Dm t,inj I (num (some i)),inj aK o]) (sw (endF t i o)):=by
   intro t ht o;have e1:t.2.2.1=s.2.2.1:=by rw[ht.rest]
   have e2:t.2.2.2.1=s.2.2.2.1:=by rw[ht.rest]
   exact Mr t (by rw[e1];omega) (by rw[e2];omega) i (by rw[e1];exact hi) o
  refine Ev1.iff (λc=>?_) (λc=>?_)
  ·rw[NI c];exact Ev1.bind (J3 h.op g.1) (Ev1.bind (hend _ (u4 h.op g.1).1 _) (Ev1.now _))
  ·rw[ND c];refine Ev1.bind (BC g) (Ev1.iff (λc2=>?_) (λc2=>?_))
   ·rw[NI c2];refine Ev1.bind (Kf h.op g.1) ?_;have hs:=qp h.op g.1;generalize nQ s g.1=w at hs;obtain⟨t,e2⟩:=w;cases e2 with
    |none=>exact Ev1.pos rfl (Ev1.bind (hend t hs.1 _) (Ev1.now _))
    |some c3=>exact Ev1.neg rfl (Ev1.bind (xn _) (Ev1.bind (J6 g _) (hset _)))
   ·rw[ND c2];exact Ev1.bind (Mb g e.2.2.2) (hset _)
theorem GW {s:ab}(h:Inv s)(e:au):Ev1 (λk=>CF k Ap eT [inj aD s,inj aH e]) (doF s e):=by
 refine Ev1.step (λk=>AK k s e) ?_;unfold doF;refine Ev1.iff (λc=>by rw[NI c];exact Ev1.bind (LC h e) (Ev1.now _)) (λc=>?_);rw[ND c];refine Ev1.iff (λc=>by rw[NI c];exact Ev1.bind (Iw h e) (Ev1.now _)) (λc=>?_);rw[ND c];refine Ev1.iff (λc=>by rw[NI c];exact Ev1.bind (Ev1.step (λk=>GB k s e) (Ev1.bind (J7 h.op) (Ev1.now _))) (Ev1.now _)) (λc=>?_);rw[ND c];exact Ev1.now _
theorem Eh (l : List aZ) (hl : l.length ≤ 16) : ∀ (d i : Nat) (out : List Int), i + d = l.length → out.length = i → Ev2 (fun k m => fh k m l (l.length : Int) (i : Int) out) (out ++ (l.drop i).map fun g => g.1.1)
  | 0, i, out, hi, ho => by
    refine Ev2.step (fun k m => j7 k m l (l.length : Int) (i : Int) out _ rfl) (Ev2.negD (by omega) (Ev2.const ?_))
    rw [Oi (by omega)]; simp
  | d + 1, i, out, hi, ho => by
    have hlt : i < l.length := by omega
    refine Ev2.step (fun k m => j7 k m l (l.length : Int) (i : Int) out [(l[i]).1.1] (by rw [gG2 l i hlt])) (Ev2.posD (by omega) (Ev2.pos (aj (by omega) (by omega)) (Ev2.posD (by show (out.length + 1) * 8 ≤ 211106232532992; omega) ?_)))
    rw [wnat (by omega), Ob hlt, NV]
    have := Eh l hl d (i + 1) (out ++ [(l[i]).1.1]) (by omega) (by rw [Ny, ho]; rfl)
    rw [N7] at this
    exact this
def jZ (s:ab):List Int:=s.2.2.1.map λg=>g.1.1
theorem Hr {s : ab} (hl : s.2.2.1.length ≤ 16) : Ev1 (fun k => CF k th iK [inj aD s]) (jZ s) :=
  Ev1.step (fun k => tv k s) (by simpa [jZ] using (Eh s.2.2.1 hl s.2.2.1.length 0 [] (by omega) rfl).diag)
end Go.Eng.Top
namespace Go.Eng.Top
open Go.RowKit Go.Eng Go.Eng.LVar Go.Eng.LCrc Go.Eng.LFrm
set_option maxRecDepth 100000
theorem ox:∀(M:MF)(n:Int)(x:Option Nat),aO none (aR M n x) n=x
 |[],n,x=>by simp[aR,aO]
 |e::r,n,x=>by
  unfold aR;by_cases h:e.1=n
  ·rw[NK h,NH];simp[aO]
  ·rw[NF h,NS];unfold aO;rw[NF h,NS];exact ox r n x
def Mof (t:Nat):Option Nat->Option Nat->MF
 |none,none=>[]
 |some g,none=>[(0,some g)]
 |none,some h=>[(((2+t:Nat):Int),some h)]
 |some g,some h=>[(0,some g),(((2+t:Nat):Int),some h)]
theorem qY (t:Nat)(b r:Option Nat):allS (Mof t b r)=true:=by cases b<;>cases r<;>rfl
theorem ne0 (t:Nat):¬ ((0:Int)=((2+t:Nat):Int)):=by omega
theorem ne1 (t:Nat):¬ (((2+t:Nat):Int)=(1:Int)):=by omega
theorem ne2 (t:Nat):¬ (((2+t:Nat):Int)=(0:Int)):=by omega
theorem vM (t:Nat)(b r:Option Nat):aO none (Mof t b r) ((2+t:Nat):Int)=r:=by
 cases b<;>cases r<;>simp only[Mof,aO,NF (ne0 t),NS,NK,NH,OZ]
theorem KR (t:Nat)(b r:Option Nat):aO none (Mof t b r) 1=none:=by
 cases b<;>cases r<;>simp only[Mof,aO,NF (ne1 t),NS,NF (show ¬ ((0:Int)=1) by omega)]
theorem KQ (t:Nat)(b:Option Nat)(x:Nat):aR (Mof t b none) ((2+t:Nat):Int) (some x)=Mof t b (some x):=by
 cases b<;>simp only[Mof,aR,NF (ne0 t),NS]
theorem vL (t:Nat)(b r:Option Nat)(x:Nat):aR (cx (aR (Mof t b r) 1 (some x)) 1) 0 (some x)=(match r with|some h=>(match b with|some _=>[(0,some x),(((2+t:Nat):Int),some h)]|none=>[(((2+t:Nat):Int),some h),(0,some x)])|none=>[(0,some x)]):=by
 cases b<;>cases r<;>simp only[Mof,aR,cx,NF (ne1 t),NF (ne2 t),NF (ne0 t),NS,NF (show ¬ ((0:Int)=1) by omega),OZ,NH]
structure DC where
 F:List MF
 R:List Int
 L:List Int
 S:List Bool
 jd:List (Option Nat)
 jt:List Int
 jb:List (List Int)
 jr:List (List (List Int))
 jk:List Bool
 B:List (List Int)
 sf:List Int
structure Lens (c c':DC):Prop where
 F:c'.F.length=c.F.length
 R:c'.R.length=c.R.length
 L:c'.L.length=c.L.length
 S:c'.S.length=c.S.length
 jd:c'.jd.length=c.jd.length
 jt:c'.jt.length=c.jt.length
 jb:c'.jb.length=c.jb.length
 jr:c'.jr.length=c.jr.length
 jk:c'.jk.length=c.jk.length
theorem Lens.refl (c:DC):Lens c c:=⟨rfl,rfl,rfl,rfl,rfl,rfl,rfl,rfl,rfl⟩
theorem Lens.trans {a b c:DC}(h:Lens a b)(k:Lens b c):Lens a c:=⟨k.F.trans h.F,k.R.trans h.R,k.L.trans h.L,k.S.trans h.S,k.jd.trans h.jd,k.jt.trans h.jt,k.jb.trans h.jb,k.jr.trans h.jr,k.jk.trans h.jk⟩
theorem r9 {j:Nat}{jk:List Bool}:Ev1 (λk=>CF k nu ee [inj (.ref 99) (some j),inj .err none,Cs jk]) (none,jk):=
 Ev1.step (λk=>sm k (some j) none jk) (Ev1.pos rfl (Ev1.negD (by simp) (Ev1.now _)))
section
variable {F:List MF} {R L:List Int} {S:List Bool} {d j:Nat} {B:List (List Int)} {sf:List Int} {jd:List (Option Nat)} {jk:List Bool} {M:MF} {name:Int} {b:List Int}
end
theorem jm {j:Nat}{jk:List Bool}(h:jk.getD j false=false):Ev1 (λk=>CF k Am l6 [inj (.ref 99) (some j),Cs jk]) (false,jk):=by
 refine Ev1.step (λk=>AH k (some j) jk) (Ev1.pos rfl (Ev1.const ?_));show some (jk.getD j false,jk)=_;rw[h]
end Go.Eng.Top
namespace Go.Eng.Top
open Go.RowKit Go.Eng Go.Eng.LVar Go.Eng.LCrc Go.Eng.LFrm
set_option maxRecDepth 100000
theorem jv {α:Type}(l:List α)(x y:α){i:Nat}(h:i=l.length):(l++[x]).set i y=l++[y]:=by
 subst h;rw[PB _ _ (NG _)];simp
theorem aP {α:Type}(l:List α)(x z:α){i:Nat}(h:i=l.length):(l++[x]).getD i z=x:=by
 subst h;exact bk l x z
theorem L8:Ev1 (λk=>CF k F1 xq []) s0:=Ev1.of_rfl 40 (λk=>by kernel_rfl)
theorem Kh:Ev1 (λk=>CF k pn ij [inj BB []]) ([],0):=Ev1.of_rfl 10 (λk=>by kernel_rfl)
theorem Ht {j:Nat}{jt:List Int}{t:Int}(h:jt.getD j 0=t):Ev1 (λk=>CF k Ga qR [inj (.ref 99) (some j),Cp jt]) (t,jt):=by
 refine Ev1.step (λk=>Gy k (some j) jt) (Ev1.pos rfl (Ev1.const ?_));show some (jt.getD j 0,jt)=_;rw[h]
theorem Ew {s:ab}(h:Inv s):(encs (stL s)).length<=100000:=by
 have h0:=h.op.rt.hi;have h1:=h.op.pl;have h2:=h.gl;have h3:=h.kl;have hl:=aG (nP h.st);have e0:=cJ acL 3 (λ_=>rfl) s.1;have e1:=cJ payL 8 (λ_=>rfl) s.2.1;have e2:=cJ sagL 11 (λ_=>rfl) s.2.2.1;have e3:=cJ knL 10 (λ_=>rfl) s.2.2.2.1;have:(stL s).length<=5000:=by
  simp only[stL,t1,t2,t3,NC,Ny];omega
 omega
theorem eev {x:Nat}{es:List ab}{s:ab}(h:es.getD x ([],[],[],[],0)=s):Ev1 (λk=>CF k gh b5 [inj (.ref 30) (some x),Cn es]) (s,es):=by
 refine Ev1.step (λk=>DR k (some x) es) (Ev1.pos rfl (Ev1.const ?_));show some (es.getD x ([],[],[],[],0),es)=_;rw[h]
theorem Bm {α:Type}(l:List α)(i:Nat)(z:α)(h:i<l.length){x:α}(hx:l.getD i z=x):l.set i x=l:=by
 rw[bc l i z h]at hx;rw[<- hx,PA]
end Go.Eng.Top
namespace Go.Eng.Top
open Go.RowKit Go.Eng Go.Eng.LVar
set_option maxRecDepth 100000
abbrev zS:dN:=((0,0,0,0,0,0,0),0,0)
abbrev zT:ab:=([],[],[],[],0)
abbrev zR:ae:=(0,0,0,0,0,0,0)
abbrev St2:Type:=ab×List dN
def askS (p:St2)(r:ae):St2:=((doF p.1 (0,r,0,false)).1,p.2++[(r,(doF p.1 (0,r,0,false)).2)])
def actF (p:St2)(a:au):St2:=
 if a.1=0 then askS p a.2.1
 else if a.1=1 then(if 0<(p.2.length:Int)then askS p (p.2.getD (Int.toNat (Int.tmod a.2.2.1 (p.2.length:Int))) zS).1 else p)
 else if a.1=2 then(if 0<((jZ p.1).length:Int)then((doF p.1 (1,zR,(jZ p.1).getD (Int.toNat (Int.tmod a.2.2.1 ((jZ p.1).length:Int))) 0,a.2.2.2)).1,p.2)else p)
 else if a.1=3 then((doF p.1 (2,zR,0,false)).1,p.2)
 else p
structure WC where
 wd:List (Option Nat)
 we:List (Option Nat)
 ws:List (List dN)
 wn:List (List au)
 wc:List Int
 wr:List (Option Int)
 ww:List ab
 wo:List (List au)
 ej:List (Option Nat)
 es:List ab
 c:DC
structure Fr (W W':WC)(w x:Nat):Prop where
 wd:W'.wd=W.wd
 we:W'.we=W.we
 wc:W'.wc=W.wc
 wr:W'.wr=W.wr
 ej:W'.ej=W.ej
 ws:∀i,i≠w->W'.ws.getD i []=W.ws.getD i []
 es:∀i,i≠x->W'.es.getD i zT=W.es.getD i zT
 lws:W'.ws.length=W.ws.length
 lwn:W'.wn.length=W.wn.length
 lww:W'.ww.length=W.ww.length
 lwo:W'.wo.length=W.wo.length
 les:W'.es.length=W.es.length
 c:Lens W.c W'.c
noncomputable abbrev I7 (k w:Nat)(e:au)(W:WC):=CF k FZ kp [inj (.ref 26) (some w),inj aH e,Cb W.we,Cd W.wn,Cg W.ww,Ch W.wo,Ci W.c.F,Cj W.c.R,Ck W.c.L,Cl W.c.S,Cm W.ej,Cn W.es,Co W.c.jd,Cp W.c.jt,Cq W.c.jb,Cr W.c.jr,Cs W.c.jk,Ct W.c.B,Cu W.c.sf]
abbrev outD (o:ah)(W:WC):R6:=(o,W.we,W.wn,W.ww,W.wo,W.c.F,W.c.R,W.c.L,W.c.S,W.ej,W.es,W.c.jd,W.c.jt,W.c.jb,W.c.jr,W.c.jk,W.c.B,W.c.sf)
noncomputable abbrev Lk (k w:Nat)(r:ae)(W:WC):=CF k Ix pT [inj (.ref 26) (some w),inj aq r,Cb W.we,Cc W.ws,Cd W.wn,Cg W.ww,Ch W.wo,Ci W.c.F,Cj W.c.R,Ck W.c.L,Cl W.c.S,Cm W.ej,Cn W.es,Co W.c.jd,Cp W.c.jt,Cq W.c.jb,Cr W.c.jr,Cs W.c.jk,Ct W.c.B,Cu W.c.sf]
abbrev outK (W:WC):R5:=(W.we,W.ws,W.wn,W.ww,W.wo,W.c.F,W.c.R,W.c.L,W.c.S,W.ej,W.es,W.c.jd,W.c.jt,W.c.jb,W.c.jr,W.c.jk,W.c.B,W.c.sf)
noncomputable abbrev Ll (k w:Nat)(a:au)(keep:Int)(W:WC):=CF k Iy vF [inj (.ref 26) (some w),inj aH a,inj I keep,Ca W.wd,Cb W.we,Cc W.ws,Cd W.wn,Ce W.wc,Cf W.wr,Cg W.ww,Ch W.wo,Ci W.c.F,Cj W.c.R,Ck W.c.L,Cl W.c.S,Cm W.ej,Cn W.es,Co W.c.jd,Cp W.c.jt,Cq W.c.jb,Cr W.c.jr,Cs W.c.jk,Ct W.c.B,Cu W.c.sf]
abbrev outW (W:WC):R3:=(W.wd,W.we,W.ws,W.wn,W.wc,W.wr,W.ww,W.wo,W.c.F,W.c.R,W.c.L,W.c.S,W.ej,W.es,W.c.jd,W.c.jt,W.c.jb,W.c.jr,W.c.jk,W.c.B,W.c.sf)
theorem Er {a:Int}(ha:0<=a){n:Nat}(hn:0<(n:Int)):0<=Int.tmod a (n:Int)/\Int.tmod a (n:Int)<(n:Int):=by
 rw[PE ha];exact⟨Int.emod_nonneg _ (by omega),Int.emod_lt_of_pos _ hn⟩
theorem CG {α:Type}(l:List α)(z:α){i:Int}(h:0<=i/\i<(l.length:Int)):l.getD (Int.toNat i) z∈l:=by
 obtain⟨n,rfl⟩:=Oj h.1;rw[NQ,bc l n z (by omega)];exact N8 _
end Go.Eng.Top
namespace Go.Eng.Top
open Go.RowKit Go.Eng Go.Eng.LVar
set_option maxRecDepth 100000
set_option maxHeartbeats 1000000
def oneR (n a1 a2 a3 a4 a5:Int):ae:=
 (n,a1%8,(if a1%8=0 then a2%3 else if 4<=a1%8 then a2%4 else 9+a2%6),9+a3%6,1+a4*7,(if a1%8=2 then a5%4 else 0),(if a1%8=3 then 1+a5%8 else 0))
def oneF (a0 a1 a2 a3 a4 a5 n:Int):au:=
 if a0%12=0 then(1,zR,a1,false)
 else if a0%12<4 then(2,zR,a1,decide (0<a2%4))
 else if a0%12=4 then(3,zR,0,false)
 else if a0%12=5 then(if 0<a1%4 then(4,zR,0,false)else(5,zR,a2%4,false))
 else(0,oneR n a1 a2 a3 a4 a5,0,false)
theorem tm {x d:Int}(h:0<=x):Int.tmod x d=x%d:=PE h
theorem L0 (a0 a1 a2 a3 a4 a5 n:Int)(h0:0<=a0/\a0<=255)(h1:0<=a1/\a1<=255)(h2:0<=a2/\a2<=255)(h3:0<=a3/\a3<=255)(h4:0<=a4/\a4<=255)(h5:0<=a5/\a5<=255):
  Ev1 (λk=>CF k xW kv [inj BB [a0,a1,a2,a3,a4,a5],inj (.int .i64) n]) (oneF a0 a1 a2 a3 a4 a5 n):=by
 refine Ev1.step (λk=>yu k [a0,a1,a2,a3,a4,a5] n a5 rfl a2 rfl a1 rfl (a0%12) (tm h0.1).symm (a1%4) (tm h1.1).symm (a2%4) (tm h2.1).symm (a1%8) ?_ (9+a3%6) ?_ (9+a2%6) ?_ (1+a4*7) ?_ _ rfl _ rfl _ rfl _ rfl _ rfl _ rfl _ rfl) (Ev1.const ?_)
 ·rw[tm h1.1,aL (by omega)]
 ·show _=w64 (9+w64 (Int.tmod a3 6));rw[tm h3.1,aL (x:=a3%6) (by omega),aL (by omega)]
 ·show _=w64 (9+w64 (Int.tmod a2 6));rw[tm h2.1,aL (x:=a2%6) (by omega),aL (by omega)]
 ·show _=w64 (1+w64 (w64 a4*7));rw[aL (x:=a4) (by omega),aL (x:=a4*7) (by omega),aL (by omega)]
 rw[tm h2.1,tm h5.1,tm h5.1,aL (x:=a1) (by omega),aL (x:=a2%4) (by omega),aL (x:=a2%3) (by omega),aL (x:=a5%4) (by omega),aL (x:=a5%8) (by omega),aL (x:=1+a5%8) (by omega)];have q0:inb 0 [a0,a1,a2,a3,a4,a5].length=true:=rfl;have q1:inb 1 [a0,a1,a2,a3,a4,a5].length=true:=rfl;have q2:inb 2 [a0,a1,a2,a3,a4,a5].length=true:=rfl;have q3:inb 3 [a0,a1,a2,a3,a4,a5].length=true:=rfl;have q4:inb 4 [a0,a1,a2,a3,a4,a5].length=true:=rfl;have q5:inb 5 [a0,a1,a2,a3,a4,a5].length=true:=rfl;simp only[q0,q1,q2,q3,q4,q5,NH];clear q0 q1 q2 q3 q4 q5;have hb:0<=a0%12/\a0%12<12:=by omega
 have hc:0<=a1%8/\a1%8<8:=by omega
 have hd:0<=a1%4:=by omega
 unfold oneF oneR zR;generalize a0%12=m at hb ⊢;generalize a1%8=o at hc ⊢;generalize a1%4=u at hd ⊢;rcases(by omega:m=0\/m=1\/m=2\/m=3\/m=4\/m=5\/6<=m)with rfl|rfl|rfl|rfl|rfl|rfl|h
 ·rfl
 ·rfl
 ·rfl
 ·rfl
 ·rfl
 ·by_cases hu:0<u
  ·simp[hu]
  ·simp[hu]
 ·rw[ND (by omega),ND (by omega),ND (by omega),ND (by omega)];simp only[NF (show ¬ m=0 by omega),NF (show ¬ m=1 by omega),NF (show ¬ m=2 by omega),NF (show ¬ m=3 by omega),NF (show ¬ m=4 by omega),NF (show ¬ m=5 by omega),NS];rcases(by omega:o=0\/o=1\/o=2\/o=3\/o=4\/o=5\/o=6\/o=7)with rfl|rfl|rfl|rfl|rfl|rfl|rfl|rfl<;>rfl
def Hh (b:List Int)(i:Nat)(n:Int):au:=oneF (b.getD (6*i) 0) (b.getD (6*i+1) 0) (b.getD (6*i+2) 0) (b.getD (6*i+3) 0) (b.getD (6*i+4) 0) (b.getD (6*i+5) 0) n
def acts (b:List Int):List au:=(List.range (b.length/6)).map λi=>Hh b i (i:Int)
theorem Jd (b:List Int):(acts b).length=b.length/6:=by simp[acts]
theorem FY (b:List Int)(m j:Nat):(b.drop m).getD j 0=b.getD (m+j) 0:=by
 rw[NP,NP,OQ]
theorem six6 (b:List Int)(h:6<=b.length):b.take 6=[b.getD 0 0,b.getD 1 0,b.getD 2 0,b.getD 3 0,b.getD 4 0,b.getD 5 0]:=by
 rcases b with _|⟨a0,_|⟨a1,_|⟨a2,_|⟨a3,_|⟨a4,_|⟨a5,r⟩⟩⟩⟩⟩⟩<;>first|rfl|(simp at h)
theorem byt_get {b:List Int}(h:Byt b)(i:Nat):0<=b.getD i 0/\b.getD i 0<=255:=by
 rw[NP];cases hq:b[i]? with
 |none=>simp
 |some y=>exact h y (NX hq)
theorem MU (b:List Int)(hb:Byt b)(hl:b.length<=4000000):∀(d i:Nat),i+d=b.length/6->Ev2 (λk m=>h_sA k m (b.drop (6*i)) ((List.range i).map λj=>Hh b j (j:Int))) (acts b):=by
 intro d
 induction d with
 |zero=>
  intro i hi;refine Ev2.step (λk m=>JE k m (b.drop (6*i)) _ _ rfl) (Ev2.negD (by rw[OT];omega) ?_);rw[show i=b.length/6 by omega];exact Ev2.now _
 |succ d ih=>
  intro i hi;have hle:6*i+6<=b.length:=by omega
  have hd:(6:Int)<=((b.drop (6*i)).length:Int):=by rw[OT];omega
  refine Ev2.step (λk m=>JE k m (b.drop (6*i)) _ _ rfl) (Ev2.posD hd (Ev2.posD hd ?_));rw[six6 (b.drop (6*i)) (by omega)];simp only[FY,Pz,OC,List.length_range];refine Ev2.bind (L0 _ _ _ _ _ _ (i:Int) (byt_get hb _) (byt_get hb _) (byt_get hb _) (byt_get hb _) (byt_get hb _) (byt_get hb _)) (Ev2.posD (by simp only[NC,NL];omega) (Ev2.posD hd ?_));have e1:(b.drop (6*i)).drop 6=b.drop (6*(i+1)):=by rw[Qu,Nat.mul_succ]
  have e2:(List.range i).map (λj=>Hh b j (j:Int))++[Hh b i (i:Int)]=(List.range (i+1)).map λj=>Hh b j (j:Int):=by
   rw[List.range_succ,Po];rfl
  rw[e1];have:=ih (i+1) (by omega);rw[<- e2]at this;exact this
theorem Ls (b:List Int)(hb:Byt b)(hl:b.length<=4000000):Ev1 (λk=>CF k g_sA n_sA [inj BB b]) (acts b):=
 Ev1.step (λk=>f_sA k b) (Ev2.diag (f:=λk m=>h_sA k m b []) (MU b hb hl (b.length/6) 0 (by omega)))
theorem H9 {n a1 a2 a3 a4 a5:Int}(hn:0<=n/\n<=1000000)(h1:0<=a1/\a1<=255)(h2:0<=a2/\a2<=255)(h3:0<=a3/\a3<=255)(h4:0<=a4/\a4<=255)(h5:0<=a5/\a5<=255):I64 (rqL (oneR n a1 a2 a3 a4 a5)):=by
 simp only[oneR,rqL,I64,NO,Oc,ON,OF,Pg];refine⟨by omega,by omega,?_,by omega,by omega,?_,?_⟩
 ·split
  ·omega
  ·split<;>omega
 ·split<;>omega
 ·split<;>omega
def HM:List Int:=[6,0,0,0,0,0,6,0,1,0,0,0,6,0,2,0,0,0,6,0,3,0,0,0,6,0,4,0,0,0,6,0,5,0,0,0,6,1,0,0,250,0,6,1,1,0,250,0,6,1,2,0,250,0,6,1,3,0,250,0,6,1,4,0,250,0,6,1,5,0,250,0]
theorem Kn:Ev1 (λk=>CF k yd pc []) HM:=Ev1.of_rfl 30 (λk=>by kernel_rfl)
def allL (b:List Int):List Int:=HM++b.take 3000
theorem C1 (b:List Int)(hl:b.length<=211106232532000):Ev1 (λk=>CF k Ak jB [inj BB b]) (allL b):=by
 have he:∀m:Int,m=minI (b.length:Int) 3000->Int.toNat m=min b.length 3000/\0<=m/\m<=(b.length:Int):=by
  intro m hm;subst hm;unfold minI;by_cases h:(3000:Int)<(b.length:Int)
  ·rw[NK h,NH];omega
  ·rw[NF h,NS];omega
 obtain⟨e1,e2,e3⟩:=he _ rfl;have et:b.take (Int.toNat (minI (b.length:Int) 3000))=b.take 3000:=by
  rw[e1];by_cases h:b.length<=3000
  ·rw[O0 (by omega),O0 h]
  ·rw[show min b.length 3000=3000 by omega]
 refine Ev1.step (λk=>AB k b _ rfl _ rfl _ rfl) (Ev1.bind Kn (Ev1.pos (by rw[NK e2,NK e3];rfl) ?_));rw[et];have:(b.take 3000).length<=3000:=by rw[OA];omega
 exact Ev1.posD (by show(72+(b.take 3000).length)*1<=211106232532992;omega) (Ev1.now _)
theorem C0 {b:List Int}(hb:Byt b):Byt (allL b):=by
 intro x hx;rcases NU.1 hx with hx|hx
 ·simp only[HM,NO,Oc,ON]at hx;omega
 ·exact hb x (Pa hx)
theorem CZ (b:List Int):(allL b).length<=3072:=by
 unfold allL;rw[Ny,OA];have:HM.length=72:=rfl;omega
end Go.Eng.Top
namespace Go.Eng.Top
open Go.RowKit Go.Eng Go.Eng.LVar
set_option maxRecDepth 100000
structure Al (W:WC):Prop where
 we:W.we.length=W.wd.length
 ws:W.ws.length=W.wd.length
 wn:W.wn.length=W.wd.length
 wr:W.wr.length=W.wd.length
 ww:W.ww.length=W.wd.length
 wo:W.wo.length=W.wd.length
 es:W.es.length=W.ej.length
 jt:W.c.jt.length=W.c.jd.length
 jb:W.c.jb.length=W.c.jd.length
 jr:W.c.jr.length=W.c.jd.length
 jk:W.c.jk.length=W.c.jd.length
 R:W.c.R.length=W.c.F.length
 L:W.c.L.length=W.c.F.length
 S:W.c.S.length=W.c.F.length
abbrev outO (w:Nat)(W:WC):R1:=(some w,W.wd,W.we,W.ws,W.wn,W.wc,W.wr,W.ww,W.wo,W.c.F,W.c.R,W.c.L,W.c.S,W.ej,W.es,W.c.jd,W.c.jt,W.c.jb,W.c.jr,W.c.jk,W.c.B,W.c.sf)
end Go.Eng.Top
namespace Go.Eng.Top
open Go.RowKit Go.Eng Go.Eng.LVar
set_option maxRecDepth 100000
noncomputable abbrev Ni (k m:Nat)(b:List Int)(w:Nat)(ac:List au)(i:Int)(W:WC):Option R1:=h_wR k m b (some w) ac (ac.length:Int) i W.wd W.we W.ws W.wn W.wc W.wr W.ww W.wo W.c.F W.c.R W.c.L W.c.S W.ej W.es W.c.jd W.c.jt W.c.jb W.c.jr W.c.jk W.c.B W.c.sf
def exL:List Int:=[6,2,0,3,10,2,1,0,1,0,0,0,1,0,1,0,0,0,1,0,1,0,0,0]
abbrev outT (b:Bool)(W:WC):R2:=(b,W.wd,W.we,W.ws,W.wn,W.wc,W.wr,W.ww,W.wo,W.c.F,W.c.R,W.c.L,W.c.S,W.ej,W.es,W.c.jd,W.c.jt,W.c.jb,W.c.jr,W.c.jk,W.c.B,W.c.sf)
noncomputable abbrev G7 (k:Nat)(W:WC):=CF k g_tw n_tw [Ca W.wd,Cb W.we,Cc W.ws,Cd W.wn,Ce W.wc,Cf W.wr,Cg W.ww,Ch W.wo,Ci W.c.F,Cj W.c.R,Ck W.c.L,Cl W.c.S,Cm W.ej,Cn W.es,Co W.c.jd,Cp W.c.jt,Cq W.c.jb,Cr W.c.jr,Cs W.c.jk,Ct W.c.B,Cu W.c.sf]
def exS:St2:=(acts (allL exL)).foldl actF (s0,[])
theorem JJ:Byt (allL exL):=C0 (by intro x hx;simp only[exL,NO,Oc,ON]at hx;omega)
theorem Mo:exS.2.length=13/\exS.1.1.length=15/\(exS.1.1.getD 9 (0,0,0)).2.1=1680/\(exS.1.1.getD 12 (0,0,0)).2.1=1822/\exS.1.2.2.1.length=0:=by decide +kernel
end Go.Eng.Top
namespace Go.Eng.Top
open Go.RowKit Go.Eng Go.Eng.LVar Go.Eng.LCrc Go.Eng.LFrm
set_option maxRecDepth 100000
theorem Jj (b r:List Int)(hl:b.length<=4611686018427387904):∀(d w i u:Nat),w<d->b.drop i=enc w++r->i<=9->u<2^(7*i)->(i=0\/0<w)->u+w*2^(7*i)<18446744073709551616 ->
  Ev2 (λk m=>rG k m b (u:Int) (i:Int)) (zi (u+w*2^(7*i)),r,true)
 |0,w,i,u,h,_,_,_,_,_=>by omega
 |d+1,w,i,u,h,hd,h9,hu,h0,ht=>by
  have hil:i<b.length:=by
   rcases Oy i b.length with q|q
   ·exact q
   ·rw[Oi q]at hd;have:=congrArg List.length hd;have h1:=Py.2 (yP w);simp only[NL,Ny]at this;omega
  have hp:0<2^(7*i):=Nat.two_pow_pos _;have ew:w64 ((7:Int)*(i:Int))=((7*i:Nat):Int):=by rw[aL (by omega)];omega
  rw[Ob hil]at hd
  -- the byte and what is behind it
  have one:∀(c:Nat) (R:Int×List Int×Bool),b[i]=(c:Int)->(i=9->c<=1)->Ev2 (λk m=>iZ k m k b (u:Int) (i:Int) (c:Int)) R->Ev2 (λk m=>rG k m b (u:Int) (i:Int)) R:=by
   intro c R hc h1 hR;refine Ev2.step (λk m=>FP k m b (u:Int) (i:Int)) (Ev2.posD (by omega) (Ev2.posD (by omega) ?_));refine Ev3.diag (f:=λk m m2=>rF k m m2 b (u:Int) (i:Int)) (Ev3.step (λk m m2=>Aa k m m2 b (u:Int) (i:Int) (c:Int) (by rw[v7 b i _ hil,hc])) (Ev3.pos (aj (by omega) (by omega)) ?_));by_cases q:i=9
   ·exact Ev3.posD (by omega) (Ev3.negD (by have:=h1 q;omega) hR.drop)
   ·exact Ev3.negD (by omega) hR.drop
  by_cases hb:128<=w
  ·rw[oM hb,N4]at hd;obtain⟨hc,hd2⟩:=List.cons.inj hd;have h8:i<=8:=by
    rcases Oy i 9 with q|q
    ·omega
    ·obtain rfl:i=9:=by omega
     have:=pow9;have:128*2^(7*9)<=w*2^(7*9):=Of _ hb;omega
   have hle:=LU i h8;have hcp:=Fo (show w%128<128 by omega) hp;refine one (w%128+128) _ hc (λq=>by omega) ?_;have e2:b7 .u64 .or (u:Int) (wu64 ((wu64 (b7 .u8 .and ((w%128+128:Nat):Int) (127:Int)))*((2:Int)^(min (Int.toNat ((7*i:Nat):Int)) 64))))=((u+w%128*2^(7*i):Nat):Int):=by
    rw[and8 _ (by omega),show(w%128+128)%128=w%128 by omega,show wu64 ((w%128:Nat):Int)=((w%128:Nat):Int) from uX (by omega) (by omega),NQ,P0 (by omega)];have:((w%128:Nat):Int)*2^(7*i)=((w%128*2^(7*i):Nat):Int):=by push_cast;rfl
    rw[this,uX (by omega) (by omega)];exact or64 u (w%128) (7*i) hu (by omega)
   have hrec:=Jj b r hl d (w/128) (i+1) (u+w%128*2^(7*i)) (by omega) hd2 (by omega) (by rw[mJ];omega) (.inr (by omega)) (by
    rw[mJ];have:w=w%128+w/128*128:=by omega
    have e:w/128*(128*2^(7*i))+w%128*2^(7*i)=w*2^(7*i):=by
     rw[<- QC,<- Og];congr 1;omega
    omega)
   have e3:u+w%128*2^(7*i)+w/128*2^(7*(i+1))=u+w*2^(7*i):=by
    rw[mJ];have e:w/128*(128*2^(7*i))+w%128*2^(7*i)=w*2^(7*i):=by
     rw[<- QC,<- Og];congr 1;omega
    omega
   rw[e3]at hrec;refine Ev3.diag (f:=λk m m2=>iZ k m m2 b (u:Int) (i:Int) ((w%128+128:Nat):Int)) (Ev3.step (λk m m2=>rE k m m2 b (u:Int) (i:Int) ((w%128+128:Nat):Int) ((7*i:Nat):Int) ew.symm _ e2.symm) (Ev3.posD (by omega) (Ev3.posD (by omega) ?_)));rw[wnat (by omega)];exact hrec.drop
  ·rw[gU (by omega),List.singleton_append]at hd;obtain⟨hc,hd2⟩:=List.cons.inj hd;refine one w _ hc (λq=>by
    subst q;have:=pow9;rcases Oy w 2 with q|q
    ·omega
    ·have:2*2^(7*9)<=w*2^(7*9):=Of _ q;omega) ?_
   have hwp:w*2^(7*i)<18446744073709551616:=by omega
   have e2:b7 .u64 .or (u:Int) (wu64 ((wu64 (b7 .u8 .and (w:Int) (127:Int)))*((2:Int)^(min (Int.toNat ((7*i:Nat):Int)) 64))))=((u+w*2^(7*i):Nat):Int):=by
    rw[and8 _ (by omega),show w%128=w by omega,show wu64 (w:Int)=(w:Int) from uX (by omega) (by omega),NQ,P0 (by omega)];have:((w:Nat):Int)*2^(7*i)=((w*2^(7*i):Nat):Int):=by push_cast;rfl
    rw[this,uX (by omega) (by omega)];exact or64 u w (7*i) hu ht
   generalize u+w*2^(7*i)=U at ht e2 ⊢;have fin:Ev2 (λk m=>kH k m k b (U:Int) (i:Int)) (zi U,r,true):=by
    have hh:w64 (Int.fdiv (U:Int) 2)=((U/2:Nat):Int):=by
     rw[Pp _ (by omega),aL (by omega)];omega
    refine Ev3.diag (f:=λk m m2=>kH k m m2 b (U:Int) (i:Int)) (Ev3.step (λk m m2=>zZ k m m2 b (U:Int) (i:Int) (b.length:Int) rfl ((i+1:Nat):Int) (wnat (by omega)).symm r (by rw[NQ];exact hd2.symm) _ hh.symm) ?_);rw[Lq _ ht];by_cases hodd:U%2=1
    ·refine Ev3.posD (by omega) (Ev3.pos (and2 (by omega) (by omega)) (Ev3.const ?_));rw[L7 _ (by omega)];simp only[zi,hodd,O8]
    ·refine Ev3.negD (by omega) (Ev3.pos (and2 (by omega) (by omega)) (Ev3.const ?_));simp only[zi];rw[ND hodd]
   refine Ev3.diag (f:=λk m m2=>iZ k m m2 b (u:Int) (i:Int) (w:Int)) (Ev3.step (λk m m2=>rE k m m2 b (u:Int) (i:Int) (w:Int) ((7*i:Nat):Int) ew.symm _ e2.symm) (Ev3.posD (by omega) (Ev3.negD (by omega) ?_)));by_cases hi:0<i
   ·exact Ev3.posD (by omega) (Ev3.negD (by omega) fin.drop)
   ·exact Ev3.negD (by omega) fin.drop
theorem zg {n:Int}(hn:-9223372036854775808<=n/\n<=9223372036854775807)(r:List Int)(hl:r.length<=4611686018427387000):Ev1 (λk=>CF k F0 nY [inj BB (enc (zig n)++r)]) (n,r,true):=by
 have hz:=tH hn;have h10:=nz hz;have h:=Jj (enc (zig n)++r) r (by rw[Ny];omega) (zig n+1) (zig n) 0 0 (by omega) rfl (by omega) (by simp) (.inl rfl) (by simpa using hz);simp only[Nat.mul_zero,Nat.pow_zero,Rk,Ox,qk]at h;exact Ev1.step (λk=>K9 k _) h.diag
theorem br {n:Int}(hn:-9223372036854775808<=n/\n<=9223372036854775807)(r:List Int)(hl:r.length<=4611686018427387000){a b:Int}(h1:a<=n)(h2:n<=b):Ev1 (λk=>CF k kT aa [.val false [.io ao (encs [n]++r,false)],inj (.int .i64) a,inj (.int .i64) b]) (n,r,false):=by
 rw[qf];exact Ev1.step (λk=>kV k (enc (zig n)++r,false) a b _ rfl) (Ev1.bind (zg hn r hl) (Ev1.neg rfl (Ev1.neg rfl (Ev1.negD (by omega) (Ev1.negD (by omega) (Ev1.now _))))))
theorem Ej (n : Nat) (hn : n ≤ 1000) (r : List Int) (hr : r.length ≤ 1000000) : ∀ (ns out : List Int), I64 ns → out.length + ns.length = n → Ev2 (fun k m => qa k m (encs ns ++ r) (n : Int) out) (out ++ ns, r, true)
  | [], out, _, h => by
    refine Ev2.step (fun k m => uG k m (encs [] ++ r) (n : Int) out) (Ev2.negD (by simp only [NL] at h; omega) (Ev2.const ?_))
    rw [Oq]; rfl
  | x :: ns, out, hI, h => by
    obtain ⟨hx, hI2⟩ := aY.1 hI
    simp only [NC] at h
    have hl := aG hI2
    have e : encs (x :: ns) ++ r = enc (zig x) ++ (encs ns ++ r) := by simp [encs]
    rw [e]
    refine Ev2.step (fun k m => uG k m _ (n : Int) out) (Ev2.posD (by omega) (Ev2.bind (zg hx (encs ns ++ r) (by rw [Ny]; omega)) (Ev2.neg rfl (Ev2.posD (by simp only [NC, NL]; omega) ?_))))
    have := Ej n hn r hr ns (out ++ [x]) hI2 (by simp; omega)
    rw [N7] at this
    exact this
theorem Be (ns r:List Int)(hI:I64 ns)(hn:ns.length<=1000)(hr:r.length<=1000000){n:Int}(e:n=ns.length):Ev1 (λk=>CF k Iz pU [inj BB (encs ns++r),inj (.int .i64) n]) (ns,r,true):=by
 subst e;exact Ev1.step (λk=>IK k _ _) (Ej ns.length hn r hr ns [] hI (by simp)).diag
theorem Ks (x:ae)(r:List Int)(hI:I64 (rqL x))(hm:mayB x=true)(hr:r.length<=1000000):Ev1 (λk=>CF k sY iJ [inj BB (encs (rqL x)++r)]) (x,r,true):=by
 have hb:=JA x;rw[hm]at hb;exact Ev1.step (λk=>tj k _) (Ev1.bind (Be (rqL x) r hI (by simp[rqL]) hr (by simp[rqL])) (Ev1.neg rfl (Ev1.pos rfl (Ev1.pos rfl (Ev1.pos rfl (Ev1.pos rfl (Ev1.pos rfl (Ev1.pos rfl (Ev1.pos rfl (Ev1.bind hb (Ev1.neg rfl (Ev1.now _))))))))))))
theorem HU (o:ah)(r:List Int)(ho:okO o)(hr:r.length<=1000000):Ev1 (λk=>CF k ml dE [inj BB (encs [o.1,o.2]++r)]) (o,r,true):=by
 have h1:=ho.1;have h2:=ho.2.1;have h3:Ev2 (λk m=>dI k m [o.1,o.2] r (0:Int) (0:Int)) (o,r,true):=Ev2.step (λk m=>kJ k m _ _ _ _) (Ev2.pos rfl (Ev2.pos rfl (Ev2.now _)));exact Ev1.step (λk=>mm k _) (Ev1.bind (Be [o.1,o.2] r (aY.2 ⟨by omega,aY.2 ⟨by omega,by simp[I64]⟩⟩) (by simp) hr (by simp)) (Ev1.neg rfl (Ev1.pos rfl (Ev1.negD (by show ¬ o.1<0;omega) (Ev1.pos rfl (Ev1.negD (by show ¬ 13<o.1;omega) h3.diag))))))
theorem zw (x:ae)(r:List Int)(hI:I64 (rqL x))(hm:mayB x=true)(hr:r.length<=1000000):Ev1 (λk=>CF k kc aC [.val false [.io ao (encs (rqL x)++r,false)]]) (x,r,false):=
 Ev1.step (λk=>ke k (encs (rqL x)++r,false) _ rfl) (Ev1.bind (Ks x r hI hm hr) (Ev1.neg rfl (Ev1.neg rfl (Ev1.now _))))
theorem Km (o:ah)(r:List Int)(ho:okO o)(hr:r.length<=1000000):Ev1 (λk=>CF k lN aN [.val false [.io ao (encs [o.1,o.2]++r,false)]]) (o,r,false):=
 Ev1.step (λk=>lO k (encs [o.1,o.2]++r,false) _ rfl) (Ev1.bind (HU o r ho hr) (Ev1.neg rfl (Ev1.neg rfl (Ev1.now _))))
def evR (e:au):Prop:=(e.1=0/\mayB e.2.1=true/\I64 (rqL e.2.1)/\e.2.2=(0,false))\/(e.1=1/\e.2.1=(0,0,0,0,0,0,0)/\0<=e.2.2.1/\e.2.2.1<=4611686018427387904)\/(e=(2,(0,0,0,0,0,0,0),0,false))
theorem HV (e:au)(h:evR e):Ev1 (λk=>CF k oG eV [inj BB (encs (evL e))]) (e,true):=by
 obtain⟨w,r,key,ok⟩:=e;have fin:∀(a b c d e f g h i:Int) (o:Bool),Ev2 (λk m=>cy k m (0:Int) (0:Int) (0:Int) (0:Int) (0:Int) (0:Int) (0:Int) (0:Int) (0:Int) false [] false a b c d e f g h i o) ((a,(b,c,d,e,f,g,h),i,o),true):=λa b c d e f g h i o=>
  Ev2.step (λk m=>mj k m _ _ _ _ _ _ _ _ _ _ _ _ _ _ _ _ _ _ _ _ _ _) (Ev2.neg rfl (Ev2.negD (by simp) (Ev2.now _)))
 rcases h with⟨h1,h2,h3,h4⟩|⟨h1,h2,h3,h4⟩|h1
 ·have h1:w=0:=h1;have h4:(key,ok)=(0,false):=h4;cases h4;subst h1;have e1:encs (evL (0,r,0,false))=encs [0]++(encs (rqL r)++[]):=by
   rw[Oq,<- aJ];rfl
  rw[e1];have hl:=aG h3;exact Ev1.step (λk=>fc k _) (Ev1.bind (br (by omega) _ (by rw[Ny];simp only[rqL,NC,NL]at hl ⊢;omega) (by omega) (by omega)) (Ev1.posD rfl (Ev1.bind (zw r [] h3 h2 (by simp)) (fin _ _ _ _ _ _ _ _ _ _).diag)))
 ·have h1:w=1:=h1;have h2:r=(0,0,0,0,0,0,0):=h2;have h3:0<=key:=h3;have h4:key<=4611686018427387904:=h4;subst h1 h2;have e1:encs (evL (1,(0,0,0,0,0,0,0),key,ok))=encs [1]++(encs [key]++(encs [if ok=true then 1 else 0]++[])):=by
   rw[Oq,<- aJ,<- aJ];rfl
  rw[e1];have hk:I64 [key]:=aY.2 ⟨by omega,by simp[I64]⟩;have ho:I64 [if ok=true then(1:Int)else 0]:=by cases ok<;>simp[I64]
  have l1:=aG hk;have l2:=aG ho;simp only[NC,NL]at l1 l2;have hd:decide ((if ok=true then(1:Int)else 0)=1)=ok:=by cases ok<;>rfl
  have hfin:=fin 1 0 0 0 0 0 0 0 key ok;refine Ev1.step (λk=>fc k _) (Ev1.bind (br (by omega) _ (by simp only[Ny,NL];omega) (by omega) (by omega)) (Ev1.negD (show ¬ (1:Int)=0 by decide) (Ev1.posD rfl (Ev1.bind (br (by omega) _ (by simp only[Ny,NL];omega) (by omega) h4) (Ev1.bind (br (by cases ok<;>simp) [] (by simp) (by cases ok<;>simp) (by cases ok<;>simp)) ?_)))));rw[hd];exact hfin.diag
 ·cases h1;have e1:encs (evL (2,(0,0,0,0,0,0,0),0,false))=encs [2]++[]:=by rw[Oq];rfl
  rw[e1];exact Ev1.step (λk=>fc k _) (Ev1.bind (br (by omega) [] (by simp) (by omega) (by omega)) (Ev1.negD (show ¬ (2:Int)=0 by decide) (Ev1.negD (show ¬ (2:Int)=1 by decide) (fin _ _ _ _ _ _ _ _ _ _).diag)))
theorem KC (p:ag)(h:payR p):Ev1 (λk=>CF k ⟨[(false,.bool)],[]⟩ dY [inj ak p]) true:=by
 unfold payR at h;have hg:Af p=p.2.2.2.1-p.2.2.2.2.1-p.2.2.2.2.2.1:=by
  unfold Af;rw[aL (x:=p.2.2.2.1-p.2.2.2.2.1) (by omega),aL (by omega)]
 refine Ev1.step (λk=>sj k p _ rfl _ rfl) (Ev1.posD (by omega) (Ev1.posD (by omega) (Ev1.posD (by omega) (Ev1.posD (by omega) (Ev1.posD (by omega) (Ev1.posD (by omega) (Ev1.posD (by omega) (Ev1.posD (by omega) (Ev1.bind (Ae p) (Ev1.posD (by rw[hg];omega) (Ev1.posD (by omega) (Ev1.posD (by omega) ?_))))))))))));by_cases h0:p.2.2.2.2.2.2.2=0
 ·exact Ev1.posD h0 (Ev1.now _)
 ·refine Ev1.negD h0 (Ev1.const ?_);rw[NK (show p.2.2.2.2.2.2.2=1 by omega)]
theorem Kj (g:aZ)(h:sagR g)(hl:0<=g.1.2.2.2.2.2.1/\g.1.2.2.2.2.2.1<=4):Ev1 (λk=>CF k ⟨[(false,.bool)],[]⟩ dP [inj bn g]) true:=by
 unfold sagR at h;refine Ev1.step (λk=>yx k g _ rfl) (Ev1.negD (by omega) (Ev1.negD (by omega) (Ev1.negD (by omega) (Ev1.negD (by omega) (Ev1.negD (by omega) (Ev1.negD (by omega) ?_))))));have h2:Ev2 (λk m=>kI k m g.1.1 g.1.2.1 g.1.2.2.1 g.1.2.2.2.1 g.1.2.2.2.2.1 g.1.2.2.2.2.2.1 g.1.2.2.2.2.2.2 g.2.1 g.2.2.1 g.2.2.2.1 g.2.2.2.2) true:=by
  refine Ev2.step (λk m=>sX k m _ _ _ _ _ _ _ _ _ _ _) ?_;by_cases h0:g.2.1=0
  ·refine Ev2.posD h0 (Ev2.posD (by omega) (Ev2.posD (by omega) ?_));by_cases ht:g.2.2.2.1=0
   ·exact Ev2.posD ht (Ev2.now _)
   ·refine Ev2.negD ht (Ev2.const ?_);rw[NK (show g.2.2.1<g.1.2.2.2.2.2.1 by omega)]
  ·refine Ev2.negD h0 (Ev2.posD (by omega) (Ev2.const ?_));rw[NF (show ¬ g.2.2.2.2=0 by omega)];rfl
 exact h2.diag
end Go.Eng.Top
namespace Go.Eng.Top
open Go.RowKit Go.Eng Go.Eng.LVar Go.Eng.LChart Go.Eng.LEnt
set_option maxRecDepth 100000
theorem MX (ac : List bu) (h : ∀ (k : Nat) (h : k < ac.length), LChart.OkAt k ac[k]) (hl : ac.length ≤ 64) : ∀ (d i : Nat), i + d = ac.length → Ev2 (fun k m => bV k m ac (ac.length : Int) (i : Int)) true
  | 0, i, e => Ev2.step (fun k m => je k m ac (ac.length : Int) (i : Int) _ rfl) (Ev2.negD (by omega) (Ev2.now _))
  | d + 1, i, e => by
    obtain ⟨h1, h2, h3, h4, h5, h6⟩ := h i (by omega)
    refine Ev2.step (fun k m => je k m ac (ac.length : Int) (i : Int) ac[i] (gA ac i (by omega)).symm) (Ev2.posD (by omega) (Ev2.pos (aj (by omega) (by omega)) ?_))
    refine Ev2.negD (p := ac[i].1 < 0) (by omega) (Ev2.negD (p := 3 ≤ ac[i].1) (by omega) (Ev2.negD (p := 1125899906842624 < ac[i].2.1) (by omega) (Ev2.negD (p := ac[i].2.1 < -1125899906842624) (by omega) ?_)))
    refine Ev3.diag (f := fun k m m2 => gO k m m2 (i : Int) ac (ac.length : Int) (i : Int) ac[i].1 ac[i].2.1 ac[i].2.2) (Ev3.step (fun k m m2 => oC k m m2 (i : Int) ac (ac.length : Int) (i : Int) ac[i].1 ac[i].2.1 ac[i].2.2 ((i + 1 : Nat) : Int) (wnat (by omega)).symm) ?_)
    have ih := MX ac h hl d (i + 1) (by omega)
    by_cases h9 : i < 9
    · obtain ⟨q1, q2⟩ := h5 h9
      have e3 : w64 (Int.tdiv (i : Int) 3) = ((i / 3 : Nat) : Int) := by
        rw [PX (by omega), aL (by omega)]; omega
      refine Ev3.posD (by omega) (Ev3.neg ?_ (Ev3.neg ?_ (Ev3.negD (by omega) ih.drop)))
      · rw [e3, NK q2]; rfl
      · rw [NK q1]; rfl
    · obtain ⟨q1, q2⟩ := h6 (by omega)
      exact Ev3.negD (by omega) (Ev3.posD (by omega) (Ev3.negD (by omega) (Ev3.negD (by omega) ih.drop)))
theorem MY (ac:List bu)(h:Rt ac):Ev1 (λk=>CF k ⟨[(false,.bool)],[]⟩ bI [inj (.slice af) ac]) true:=by
 have lo:=h.lo;have hi:=h.hi;have h1:Ev2 (λk m=>jO k m ac) true:=Ev2.step (λk m=>rP k m ac) (Ev1.drop (MX ac h.ok hi ac.length 0 (by omega)).diag);exact Ev1.step (λk=>wC k ac _ rfl) (Ev1.negD (by omega) (Ev1.negD (by omega) h1.diag))
theorem nlen {α:Type}(l:List α)(x:α)(h:l.length<100000):w64 ((l.length:Int)+1)=((l++[x]).length:Int):=by
 rw[aL (by omega),Ny];simp
theorem bq (x:Int)(l:List Int):encs (x::l)=encs [x]++encs l:=by rw[<- aJ];rfl
noncomputable def HK (ps:List ag)(gs:List aZ)(ks:List aI)(n i:Int)(r:List Int)(now:Int)(ac:List bu)(k m:Nat):Option (ab×Bool):=match ps,gs,ks with
 |[],[],[]=>du k m n i 0 r false now ac
 |[],[],x::x2=>cq k m n i 0 r false now ac (x::x2)
 |[],g::g2,[]=>dp k m n i 0 r false now ac (g::g2)
 |[],g::g2,x::x2=>ck k m n i 0 r false now ac (g::g2) (x::x2)
 |p::p2,[],[]=>dq k m n i 0 r false now ac (p::p2)
 |p::p2,[],x::x2=>cn k m n i 0 r false now ac (p::p2) (x::x2)
 |p::p2,g::g2,[]=>dn k m n i 0 r false now ac (p::p2) (g::g2)
 |p::p2,g::g2,x::x2=>cj k m n i 0 r false now ac (p::p2) (g::g2) (x::x2)
noncomputable def HG (ps:List ag)(gs:List aZ)(n i:Int)(r:List Int)(now:Int)(ac:List bu)(k m:Nat):Option (ab×Bool):=match ps,gs with
 |[],[]=>dJ k m n i 0 r false now ac
 |[],g::g2=>bB k m n i 0 r false now ac (g::g2)
 |p::p2,[]=>dv k m n i 0 r false now ac (p::p2)
 |p::p2,g::g2=>bA k m n i 0 r false now ac (p::p2) (g::g2)
noncomputable def HP (ps:List ag)(n i:Int)(r:List Int)(now:Int)(ac:List bu)(k m:Nat):Option (ab×Bool):=match ps with
 |[]=>dK k m n i 0 r false now ac
 |p::p2=>bG k m n i 0 r false now ac (p::p2)
theorem hk_l {ac:List bu}(hac:Rt ac)(now:Int)(n:Nat)(hn:n<=256):∀(l ks:List aI)(ps:List ag)(gs:List aZ),(∀x∈l,I64 (knL x)/\mayB x.1=true/\okO x.2.1)->ks.length+l.length=n ->
  Ev2 (HK ps gs ks (n:Int) (ks.length:Int) (encs (l.flatMap knL)) now ac) ((ac,ps,gs,ks++l,now),true)
 |[],ks,ps,gs,_,h=>by
  have hr:=MY ac hac;simp only[NL]at h;rw[Oq]
  match ps,gs,ks,h with
  |[],[],[],h=>exact Ev2.step (λk m=>eP k m _ _ 0 [] false now ac) (Ev2.negD (by omega) (Ev2.neg rfl (Ev2.negD (by simp) (Ev2.bind hr (Ev2.neg rfl (Ev2.now _))))))
  |[],[],x::x2,h=>exact Ev2.step (λk m=>eL k m _ _ 0 [] false now ac (x::x2)) (Ev2.negD (by omega) (Ev2.neg rfl (Ev2.negD (by simp) (Ev2.bind hr (Ev2.neg rfl (Ev2.now _))))))
  |[],g::g2,[],h=>exact Ev2.step (λk m=>eM k m _ _ 0 [] false now ac (g::g2)) (Ev2.negD (by omega) (Ev2.neg rfl (Ev2.negD (by simp) (Ev2.bind hr (Ev2.neg rfl (Ev2.now _))))))
  |[],g::g2,x::x2,h=>exact Ev2.step (λk m=>eI k m _ _ 0 [] false now ac (g::g2) (x::x2)) (Ev2.negD (by omega) (Ev2.neg rfl (Ev2.negD (by simp) (Ev2.bind hr (Ev2.neg rfl (Ev2.now _))))))
  |p::p2,[],[],h=>exact Ev2.step (λk m=>eN k m _ _ 0 [] false now ac (p::p2)) (Ev2.negD (by omega) (Ev2.neg rfl (Ev2.negD (by simp) (Ev2.bind hr (Ev2.neg rfl (Ev2.now _))))))
  |p::p2,[],x::x2,h=>exact Ev2.step (λk m=>eJ k m _ _ 0 [] false now ac (p::p2) (x::x2)) (Ev2.negD (by omega) (Ev2.neg rfl (Ev2.negD (by simp) (Ev2.bind hr (Ev2.neg rfl (Ev2.now _))))))
  |p::p2,g::g2,[],h=>exact Ev2.step (λk m=>eK k m _ _ 0 [] false now ac (p::p2) (g::g2)) (Ev2.negD (by omega) (Ev2.neg rfl (Ev2.negD (by simp) (Ev2.bind hr (Ev2.neg rfl (Ev2.now _))))))
  |p::p2,g::g2,x::x2,h=>exact Ev2.step (λk m=>eH k m _ _ 0 [] false now ac (p::p2) (g::g2) (x::x2)) (Ev2.negD (by omega) (Ev2.neg rfl (Ev2.negD (by simp) (Ev2.bind hr (Ev2.neg rfl (Ev2.now _))))))
 |y::l,ks,ps,gs,hx,h=>by
  obtain⟨q1,q2,q3⟩:=hx y (Om ..);have ih:=λks' e=>hk_l hac now n hn l ks' ps gs (λz hz=>hx z (NW _ hz)) e
  simp only[NC]at h;have hI:I64 (l.flatMap knL):=fp λz hz=>(hx z (NW _ hz)).1
  have hlen:=aG hI;have hlen2:=cJ knL 10 (λ_=>rfl) l;unfold knL at q1;obtain⟨a1,a2⟩:=cN.1 q1;obtain⟨a3,a4⟩:=cN.1 a2;have l2:=aG a3;have l3:=aG a4;simp only[NC,NL]at l2 l3;have eb:encs ((y::l).flatMap knL)=encs (rqL y.1)++(encs [y.2.1.1,y.2.1.2]++(encs [if y.2.2=true then 1 else 0]++encs (l.flatMap knL))):=by
   rw[OP,aJ];unfold knL;rw[aJ,aJ,N7,N7]
  rw[eb];have e1:=zw y.1 (encs [y.2.1.1,y.2.1.2]++(encs [if y.2.2=true then 1 else 0]++encs (l.flatMap knL))) a1 q2 (by simp only[Ny];omega);have e2:=Km y.2.1 (encs [if y.2.2=true then 1 else 0]++encs (l.flatMap knL)) q3 (by simp only[Ny];omega);have e3:=br (n:=if y.2.2=true then 1 else 0) (by cases y.2.2<;>simp) (encs (l.flatMap knL)) (by omega) (a:=0) (b:=1) (by cases y.2.2<;>simp) (by cases y.2.2<;>simp);have hd:decide ((if y.2.2=true then(1:Int)else 0)=1)=y.2.2:=by cases y.2.2<;>rfl
  have hy:(y.1,y.2.1,decide ((if y.2.2=true then(1:Int)else 0)=1))=y:=by rw[hd]
  have nl:=nlen ks y (by omega);have ih2:=ih (ks++[y]) (by simp;omega);rw[N7]at ih2;generalize (if y.2.2=true then(1:Int)else 0)=fl at e1 e2 e3 hy ⊢
  match ps,gs,ks,h,nl,ih2 with
  |[],[],[],h,nl,ih2=>exact Ev2.step (λk m=>eP k m _ _ 0 _ false now ac) (Ev2.posD (by omega) (Ev2.bind e1 (Ev2.bind e2 (Ev2.bind e3 (Ev2.posD (by simp only[NC,NL];omega) (by rw[hy,nl];exact ih2))))))
  |[],[],x::x2,h,nl,ih2=>exact Ev2.step (λk m=>eL k m _ _ 0 _ false now ac (x::x2)) (Ev2.posD (by omega) (Ev2.bind e1 (Ev2.bind e2 (Ev2.bind e3 (Ev2.posD (by simp only[NC]at h;simp only[NC,NL];omega) (by rw[hy,nl];exact ih2))))))
  |[],g::g2,[],h,nl,ih2=>exact Ev2.step (λk m=>eM k m _ _ 0 _ false now ac (g::g2)) (Ev2.posD (by omega) (Ev2.bind e1 (Ev2.bind e2 (Ev2.bind e3 (Ev2.posD (by simp only[NC,NL];omega) (by rw[hy,nl];exact ih2))))))
  |[],g::g2,x::x2,h,nl,ih2=>exact Ev2.step (λk m=>eI k m _ _ 0 _ false now ac (g::g2) (x::x2)) (Ev2.posD (by omega) (Ev2.bind e1 (Ev2.bind e2 (Ev2.bind e3 (Ev2.posD (by simp only[NC]at h;simp only[NC,NL];omega) (by rw[hy,nl];exact ih2))))))
  |p::p2,[],[],h,nl,ih2=>exact Ev2.step (λk m=>eN k m _ _ 0 _ false now ac (p::p2)) (Ev2.posD (by omega) (Ev2.bind e1 (Ev2.bind e2 (Ev2.bind e3 (Ev2.posD (by simp only[NC,NL];omega) (by rw[hy,nl];exact ih2))))))
  |p::p2,[],x::x2,h,nl,ih2=>exact Ev2.step (λk m=>eJ k m _ _ 0 _ false now ac (p::p2) (x::x2)) (Ev2.posD (by omega) (Ev2.bind e1 (Ev2.bind e2 (Ev2.bind e3 (Ev2.posD (by simp only[NC]at h;simp only[NC,NL];omega) (by rw[hy,nl];exact ih2))))))
  |p::p2,g::g2,[],h,nl,ih2=>exact Ev2.step (λk m=>eK k m _ _ 0 _ false now ac (p::p2) (g::g2)) (Ev2.posD (by omega) (Ev2.bind e1 (Ev2.bind e2 (Ev2.bind e3 (Ev2.posD (by simp only[NC,NL];omega) (by rw[hy,nl];exact ih2))))))
  |p::p2,g::g2,x::x2,h,nl,ih2=>exact Ev2.step (λk m=>eH k m _ _ 0 _ false now ac (p::p2) (g::g2) (x::x2)) (Ev2.posD (by omega) (Ev2.bind e1 (Ev2.bind e2 (Ev2.bind e3 (Ev2.posD (by simp only[NC]at h;simp only[NC,NL];omega) (by rw[hy,nl];exact ih2))))))
theorem hg_l {ac:List bu}(hac:Rt ac)(now:Int)(n:Nat)(hn:n<=16)(ks:List aI)(hks:∀x∈ks,I64 (knL x)/\mayB x.1=true/\okO x.2.1)(hkl:ks.length<=256):∀(l gs:List aZ)(ps:List ag),(∀x∈l,I64 (sagL x)/\mayB x.1=true/\sagR x)->gs.length+l.length=n ->
  Ev2 (HG ps gs (n:Int) (gs.length:Int) (encs (l.flatMap sagL)++encs (t3 ks)) now ac) ((ac,ps,gs++l,ks,now),true)
 |[],gs,ps,_,h=>by
  simp only[NL]at h;rw[Oq];have hI:I64 (ks.flatMap knL):=fp λz hz=>(hks z hz).1
  have hlen:=aG hI;have hlen2:=cJ knL 10 (λ_=>rfl) ks;have e1:=br (n:=(ks.length:Int)) (by omega) (encs (ks.flatMap knL)) (by omega) (a:=0) (b:=256) (by omega) (by omega);have hk:=hk_l hac now ks.length hkl ks [] ps gs hks (by simp);have eb:encs (([]:List aZ).flatMap sagL)++encs (t3 ks)=encs [(ks.length:Int)]++encs (ks.flatMap knL):=by unfold t3;rw[bq (ks.length:Int) (ks.flatMap knL)];rfl
  rw[eb]
  match ps,gs,h,hk with
  |[],[],h,hk=>exact Ev2.step (λk m=>fu k m _ _ 0 _ false now ac _ rfl) (Ev2.negD (by omega) (Ev2.bind e1 (Ev1.drop hk.diag)))
  |[],g::g2,h,hk=>exact Ev2.step (λk m=>eQ k m _ _ 0 _ false now ac (g::g2) _ rfl) (Ev2.negD (by omega) (Ev2.bind e1 (Ev1.drop hk.diag)))
  |p::p2,[],h,hk=>exact Ev2.step (λk m=>eR k m _ _ 0 _ false now ac (p::p2) _ rfl) (Ev2.negD (by omega) (Ev2.bind e1 (Ev1.drop hk.diag)))
  |p::p2,g::g2,h,hk=>exact Ev2.step (λk m=>eO k m _ _ 0 _ false now ac (p::p2) (g::g2) _ rfl) (Ev2.negD (by omega) (Ev2.bind e1 (Ev1.drop hk.diag)))
 |y::l,gs,ps,hx,h=>by
  obtain⟨q1,q2,q3⟩:=hx y (Om ..);have ih:=λgs' e=>hg_l hac now n hn ks hks hkl l gs' ps (λz hz=>hx z (NW _ hz)) e
  simp only[NC]at h;have hI:I64 (l.flatMap sagL):=fp λz hz=>(hx z (NW _ hz)).1
  have hlen:=aG hI;have hlen2:=cJ sagL 11 (λ_=>rfl) l;have hIk:I64 (t3 ks):=aY.2 ⟨by omega,fp λz hz=>(hks z hz).1⟩;have hlk:=aG hIk;have hlk2:=cJ knL 10 (λ_=>rfl) ks;have hlk3:(t3 ks).length=1+10*ks.length:=by unfold t3;rw[NC,hlk2];omega
  unfold sagL at q1;obtain⟨a1,a2⟩:=cN.1 q1;have lg:=BP q2;have e9:=Kj y q3 lg;unfold sagR at q3;have eb:encs ((y::l).flatMap sagL)++encs (t3 ks)=encs (rqL y.1)++(encs [y.2.1]++(encs [y.2.2.1]++(encs [y.2.2.2.1]++(encs [y.2.2.2.2]++(encs (l.flatMap sagL)++encs (t3 ks)))))):=by
   rw[OP,aJ];unfold sagL;rw[aJ,bq,bq y.2.2.1,bq y.2.2.2.1];simp only[N7]
  rw[eb];have b1:∀x:Int,-9223372036854775808<=x/\x<=9223372036854775807->(encs [x]).length<=10:=λx hx=>by
   have:=aG (ns:=[x]) (aY.2 ⟨hx,by simp[I64]⟩);simpa using this
  have c1:=b1 y.2.1 (by omega);have c2:=b1 y.2.2.1 (by omega);have c3:=b1 y.2.2.2.1 (by omega);have c4:=b1 y.2.2.2.2 (by omega);have e1:=zw y.1 (encs [y.2.1]++(encs [y.2.2.1]++(encs [y.2.2.2.1]++(encs [y.2.2.2.2]++(encs (l.flatMap sagL)++encs (t3 ks)))))) a1 q2 (by simp only[Ny];omega);have e2:=br (n:=y.2.1) (by omega) (encs [y.2.2.1]++(encs [y.2.2.2.1]++(encs [y.2.2.2.2]++(encs (l.flatMap sagL)++encs (t3 ks))))) (by simp only[Ny];omega) (a:=0) (b:=2) (by omega) (by omega);have e3:=br (n:=y.2.2.1) (by omega) (encs [y.2.2.2.1]++(encs [y.2.2.2.2]++(encs (l.flatMap sagL)++encs (t3 ks)))) (by simp only[Ny];omega) (a:=0) (b:=4) (by omega) (by omega);have e4:=br (n:=y.2.2.2.1) (by omega) (encs [y.2.2.2.2]++(encs (l.flatMap sagL)++encs (t3 ks))) (by simp only[Ny];omega) (a:=0) (b:=1152921504606846976) (by omega) (by omega);have e5:=br (n:=y.2.2.2.2) (by omega) (encs (l.flatMap sagL)++encs (t3 ks)) (by simp only[Ny];omega) (a:=0) (b:=13) (by omega) (by omega);have nl:=nlen gs y (by omega);have ih2:=ih (gs++[y]) (by simp;omega);rw[N7]at ih2
  match ps,gs,h,nl,ih2 with
  |[],[],h,nl,ih2=>exact Ev2.step (λk m=>fu k m _ _ 0 _ false now ac _ rfl) (Ev2.posD (by omega) (Ev2.bind e1 (Ev2.bind e2 (Ev2.bind e3 (Ev2.bind e4 (Ev2.bind e5 (Ev2.neg rfl (Ev2.bind e9 (Ev2.posD (by simp only[NC,NL];omega) (by rw[nl];exact ih2))))))))))
  |[],g::g2,h,nl,ih2=>exact Ev2.step (λk m=>eQ k m _ _ 0 _ false now ac (g::g2) _ rfl) (Ev2.posD (by omega) (Ev2.bind e1 (Ev2.bind e2 (Ev2.bind e3 (Ev2.bind e4 (Ev2.bind e5 (Ev2.neg rfl (Ev2.bind e9 (Ev2.posD (by simp only[NC]at h;simp only[NC,NL];omega) (by rw[nl];exact ih2))))))))))
  |p::p2,[],h,nl,ih2=>exact Ev2.step (λk m=>eR k m _ _ 0 _ false now ac (p::p2) _ rfl) (Ev2.posD (by omega) (Ev2.bind e1 (Ev2.bind e2 (Ev2.bind e3 (Ev2.bind e4 (Ev2.bind e5 (Ev2.neg rfl (Ev2.bind e9 (Ev2.posD (by simp only[NC,NL];omega) (by rw[nl];exact ih2))))))))))
  |p::p2,g::g2,h,nl,ih2=>exact Ev2.step (λk m=>eO k m _ _ 0 _ false now ac (p::p2) (g::g2) _ rfl) (Ev2.posD (by omega) (Ev2.bind e1 (Ev2.bind e2 (Ev2.bind e3 (Ev2.bind e4 (Ev2.bind e5 (Ev2.neg rfl (Ev2.bind e9 (Ev2.posD (by simp only[NC]at h;simp only[NC,NL];omega) (by rw[nl];exact ih2))))))))))
theorem hp_l {ac:List bu}(hac:Rt ac)(now:Int)(n:Nat)(hn:n<=64)(gs:List aZ)(hgs:∀x∈gs,I64 (sagL x)/\mayB x.1=true/\sagR x)(hgl:gs.length<=16)(ks:List aI)(hks:∀x∈ks,I64 (knL x)/\mayB x.1=true/\okO x.2.1)(hkl:ks.length<=256):∀(l ps:List ag),(∀x∈l,sQ ac.length x)->ps.length+l.length=n ->
  Ev2 (HP ps (n:Int) (ps.length:Int) (encs (l.flatMap payL)++encs (t2 gs ks)) now ac) ((ac,ps++l,gs,ks,now),true)
 |[],ps,_,h=>by
  simp only[NL]at h;rw[Oq];have hI:I64 (gs.flatMap sagL):=fp λz hz=>(hgs z hz).1
  have hlen:=aG hI;have hlen2:=cJ sagL 11 (λ_=>rfl) gs;have hIk:I64 (t3 ks):=aY.2 ⟨by omega,fp λz hz=>(hks z hz).1⟩;have hlk:=aG hIk;have hlk2:=cJ knL 10 (λ_=>rfl) ks;have hlk3:(t3 ks).length=1+10*ks.length:=by unfold t3;rw[NC,hlk2];omega
  have e1:=br (n:=(gs.length:Int)) (by omega) (encs (gs.flatMap sagL)++encs (t3 ks)) (by simp only[Ny];omega) (a:=0) (b:=16) (by omega) (by omega);have hk:=hg_l hac now gs.length hgl ks hks hkl gs [] ps hgs (by simp);have eb:encs (([]:List ag).flatMap payL)++encs (t2 gs ks)=encs [(gs.length:Int)]++(encs (gs.flatMap sagL)++encs (t3 ks)):=by unfold t2;rw[bq (gs.length:Int),aJ];rfl
  rw[eb]
  match ps,h,hk with
  |[],h,hk=>exact Ev2.step (λk m=>fx k m _ _ 0 _ false now ac _ rfl) (Ev2.negD (by omega) (Ev2.bind e1 (Ev1.drop hk.diag)))
  |p::p2,h,hk=>exact Ev2.step (λk m=>fw k m _ _ 0 _ false now ac (p::p2) _ rfl) (Ev2.negD (by omega) (Ev2.bind e1 (Ev1.drop hk.diag)))
 |y::l,ps,hx,h=>by
  have q:=hx y (Om ..);have q1:=q.from_;have q2:=q.to_;have q3:=q.right;have hal:=hac.hi;have e9:=KC y q3;unfold payR at q3;have ih:=λps' e=>hp_l hac now n hn gs hgs hgl ks hks hkl l ps' (λz hz=>hx z (NW _ hz)) e
  simp only[NC]at h;have hI:I64 (l.flatMap payL):=fp λz hz=>(hx z (NW _ hz)).i64
  have hlen:=aG hI;have hlen2:=cJ payL 8 (λ_=>rfl) l;have hIk:I64 (t2 gs ks):=aY.2 ⟨by omega,cN.2 ⟨fp λz hz=>(hgs z hz).1,aY.2 ⟨by omega,fp λz hz=>(hks z hz).1⟩⟩⟩;have hlk:=aG hIk;have hlk1:=cJ sagL 11 (λ_=>rfl) gs;have hlk2:=cJ knL 10 (λ_=>rfl) ks;have hlk3:(t2 gs ks).length=2+11*gs.length+10*ks.length:=by unfold t2 t3;rw[NC,Ny,NC,hlk1,hlk2];omega
  have eb:encs ((y::l).flatMap payL)++encs (t2 gs ks)=encs [y.1]++(encs [y.2.1]++(encs [y.2.2.1]++(encs [y.2.2.2.1]++(encs [y.2.2.2.2.1]++(encs [y.2.2.2.2.2.1]++(encs [y.2.2.2.2.2.2.1]++(encs [y.2.2.2.2.2.2.2]++(encs (l.flatMap payL)++encs (t2 gs ks))))))))):=by
   rw[OP,aJ];unfold payL;rw[bq,bq y.2.1,bq y.2.2.1,bq y.2.2.2.1,bq y.2.2.2.2.1,bq y.2.2.2.2.2.1,bq y.2.2.2.2.2.2.1];simp only[N7]
  rw[eb];have b1:∀x:Int,-9223372036854775808<=x/\x<=9223372036854775807->(encs [x]).length<=10:=λx hx=>by
   have:=aG (ns:=[x]) (aY.2 ⟨hx,by simp[I64]⟩);simpa using this
  have c0:=b1 y.1 (by omega);have c1:=b1 y.2.1 (by omega);have c2:=b1 y.2.2.1 (by omega);have c3:=b1 y.2.2.2.1 (by omega);have c4:=b1 y.2.2.2.2.1 (by omega);have c5:=b1 y.2.2.2.2.2.1 (by omega);have c6:=b1 y.2.2.2.2.2.2.1 (by omega);have c7:=b1 y.2.2.2.2.2.2.2 (by omega);have d0:=br (n:=y.1) (by omega) (encs [y.2.1]++(encs [y.2.2.1]++(encs [y.2.2.2.1]++(encs [y.2.2.2.2.1]++(encs [y.2.2.2.2.2.1]++(encs [y.2.2.2.2.2.2.1]++(encs [y.2.2.2.2.2.2.2]++(encs (l.flatMap payL)++encs (t2 gs ks))))))))) (by simp only[Ny];omega) (a:=0) (b:=64) (by omega) (by omega);have d1:=br (n:=y.2.1) (by omega) (encs [y.2.2.1]++(encs [y.2.2.2.1]++(encs [y.2.2.2.2.1]++(encs [y.2.2.2.2.2.1]++(encs [y.2.2.2.2.2.2.1]++(encs [y.2.2.2.2.2.2.2]++(encs (l.flatMap payL)++encs (t2 gs ks)))))))) (by simp only[Ny];omega) (a:=0) (b:=64) (by omega) (by omega);have d2:=br (n:=y.2.2.1) (by omega) (encs [y.2.2.2.1]++(encs [y.2.2.2.2.1]++(encs [y.2.2.2.2.2.1]++(encs [y.2.2.2.2.2.2.1]++(encs [y.2.2.2.2.2.2.2]++(encs (l.flatMap payL)++encs (t2 gs ks))))))) (by simp only[Ny];omega) (a:=(-1152921504606846976)) (b:=1152921504606846976) (by omega) (by omega);have d3:=br (n:=y.2.2.2.1) (by omega) (encs [y.2.2.2.2.1]++(encs [y.2.2.2.2.2.1]++(encs [y.2.2.2.2.2.2.1]++(encs [y.2.2.2.2.2.2.2]++(encs (l.flatMap payL)++encs (t2 gs ks)))))) (by simp only[Ny];omega) (a:=(-1152921504606846976)) (b:=1152921504606846976) (by omega) (by omega);have d4:=br (n:=y.2.2.2.2.1) (by omega) (encs [y.2.2.2.2.2.1]++(encs [y.2.2.2.2.2.2.1]++(encs [y.2.2.2.2.2.2.2]++(encs (l.flatMap payL)++encs (t2 gs ks))))) (by simp only[Ny];omega) (a:=(-1152921504606846976)) (b:=1152921504606846976) (by omega) (by omega);have d5:=br (n:=y.2.2.2.2.2.1) (by omega) (encs [y.2.2.2.2.2.2.1]++(encs [y.2.2.2.2.2.2.2]++(encs (l.flatMap payL)++encs (t2 gs ks)))) (by simp only[Ny];omega) (a:=(-1152921504606846976)) (b:=1152921504606846976) (by omega) (by omega);have d6:=br (n:=y.2.2.2.2.2.2.1) (by omega) (encs [y.2.2.2.2.2.2.2]++(encs (l.flatMap payL)++encs (t2 gs ks))) (by simp only[Ny];omega) (a:=(-1152921504606846976)) (b:=1152921504606846976) (by omega) (by omega);have d7:=br (n:=y.2.2.2.2.2.2.2) (by omega) (encs (l.flatMap payL)++encs (t2 gs ks)) (by simp only[Ny];omega) (a:=0) (b:=1) (by omega) (by omega);have nl:=nlen ps y (by omega);have ih2:=ih (ps++[y]) (by simp;omega);rw[N7]at ih2
  match ps,h,nl,ih2 with
  |[],h,nl,ih2=>exact Ev2.step (λk m=>fx k m _ _ 0 _ false now ac _ rfl) (Ev2.posD (by omega) (Ev2.bind d0 (Ev2.bind d1 (Ev2.bind d2 (Ev2.bind d3 (Ev2.bind d4 (Ev2.bind d5 (Ev2.bind d6 (Ev2.bind d7 (Ev2.neg rfl (Ev2.bind e9 (Ev2.posD (by simp only[NC,NL];omega) (by rw[nl];exact ih2)))))))))))))
  |p::p2,h,nl,ih2=>exact Ev2.step (λk m=>fw k m _ _ 0 _ false now ac (p::p2) _ rfl) (Ev2.posD (by omega) (Ev2.bind d0 (Ev2.bind d1 (Ev2.bind d2 (Ev2.bind d3 (Ev2.bind d4 (Ev2.bind d5 (Ev2.bind d6 (Ev2.bind d7 (Ev2.neg rfl (Ev2.bind e9 (Ev2.posD (by simp only[NC]at h;simp only[NC,NL];omega) (by rw[nl];exact ih2)))))))))))))
theorem ha_l {all:List bu}(hac:Rt all)(now:Int)(ps:List ag)(hps:∀x∈ps,sQ all.length x)(hpl:ps.length<=64)(gs:List aZ)(hgs:∀x∈gs,I64 (sagL x)/\mayB x.1=true/\sagR x)(hgl:gs.length<=16)(ks:List aI)(hks:∀x∈ks,I64 (knL x)/\mayB x.1=true/\okO x.2.1)(hkl:ks.length<=256):∀(l:List bu)(a:bu)(az:List bu),(a::az)++l=all ->
  Ev2 (λk m=>cE k m (all.length:Int) ((a::az).length:Int) 0 (encs (l.flatMap acL)++encs (t1 ps gs ks)) false now (a::az)) ((all,ps,gs,ks,now),true)
 |l,a,az,h=>by
  have hal:=hac.hi;have hIk:I64 (t2 gs ks):=aY.2 ⟨by omega,cN.2 ⟨fp λz hz=>(hgs z hz).1,aY.2 ⟨by omega,fp λz hz=>(hks z hz).1⟩⟩⟩;have hlk:=aG hIk;have hlk1:=cJ sagL 11 (λ_=>rfl) gs;have hlk2:=cJ knL 10 (λ_=>rfl) ks;have hlk3:(t2 gs ks).length=2+11*gs.length+10*ks.length:=by unfold t2 t3;rw[NC,Ny,NC,hlk1,hlk2];omega
  have hI:I64 (ps.flatMap payL):=fp λz hz=>(hps z hz).i64
  have hlp:=aG hI;have hlp2:=cJ payL 8 (λ_=>rfl) ps;have hlx:(encs (t1 ps gs ks)).length<=60000:=by
   unfold t1;rw[bq,aJ];have:=aG (ns:=[(ps.length:Int)]) (aY.2 ⟨by omega,by simp[I64]⟩);simp only[Ny,NC,NL]at this ⊢;omega
  cases l with
  |nil=>
   rw[Oq]at h;have e1:=br (n:=(ps.length:Int)) (by omega) (encs (ps.flatMap payL)++encs (t2 gs ks)) (by simp only[Ny];omega) (a:=0) (b:=64) (by omega) (by omega);have hk:=hp_l hac now ps.length hpl gs hgs hgl ks hks hkl ps [] hps (by simp);rw[<- h]at hk ⊢;have eb:encs (([]:List bu).flatMap acL)++encs (t1 ps gs ks)=encs [(ps.length:Int)]++(encs (ps.flatMap payL)++encs (t2 gs ks)):=by unfold t1;rw[bq (ps.length:Int),aJ];rfl
   rw[eb];exact Ev2.step (λk m=>fy k m _ _ 0 _ false now (a::az)) (Ev2.negD (by omega) (Ev2.bind e1 (Ev1.drop hk.diag)))
  |cons y l=>
   have hlt:az.length+1<all.length:=by rw[<- h];simp
   have hy:all[az.length+1]=y:=by subst h;simp
   obtain⟨r1,r2,r3,r4,r5,r6⟩:=hac.ok (az.length+1) hlt;rw[hy]at r1 r2 r3 r4 r5 r6;have rh:0<=y.2.2/\y.2.2<=1125899906842624:=by
    by_cases h9:az.length+1<9
    ·have:=r5 h9;omega
    ·have:=r6 (by omega);omega
   have hIl:I64 (l.flatMap acL):=fp λz hz=>Js hac z (by rw[<- h];simp[hz])
   have hll:=aG hIl;have hll2:=cJ acL 3 (λ_=>rfl) l;have hl64:l.length<=64:=by rw[<- h]at hal;simp only[Ny,NC]at hal;omega
   have b1:∀x:Int,-9223372036854775808<=x/\x<=9223372036854775807->(encs [x]).length<=10:=λx hx=>by
    have:=aG (ns:=[x]) (aY.2 ⟨hx,by simp[I64]⟩);simpa using this
   have c1:=b1 y.2.1 (by omega);have c2:=b1 y.2.2 (by omega);have eb:encs ((y::l).flatMap acL)++encs (t1 ps gs ks)=encs [y.1]++(encs [y.2.1]++(encs [y.2.2]++(encs (l.flatMap acL)++encs (t1 ps gs ks)))):=by
    rw[OP,aJ];unfold acL;rw[bq,bq y.2.1];simp only[N7]
   rw[eb];have e1:=br (n:=y.1) (by omega) (encs [y.2.1]++(encs [y.2.2]++(encs (l.flatMap acL)++encs (t1 ps gs ks)))) (by simp only[Ny];omega) (a:=0) (b:=2) (by omega) (by omega);have e2:=br (n:=y.2.1) (by omega) (encs [y.2.2]++(encs (l.flatMap acL)++encs (t1 ps gs ks))) (by simp only[Ny];omega) (a:=-1125899906842624) (b:=1125899906842624) (by omega) (by omega);have e3:=br (n:=y.2.2) (by omega) (encs (l.flatMap acL)++encs (t1 ps gs ks)) (by simp only[Ny];omega) (a:=0) (b:=1125899906842624) (by omega) (by omega);have ih:=ha_l hac now ps hps hpl gs hgs hgl ks hks hkl l a (az++[y]) (by rw[<- h];simp);have nl:=nlen (a::az) y (by simp only[NC];omega);refine Ev2.step (λk m=>fy k m _ _ 0 _ false now (a::az)) (Ev2.posD (by simp only[NC];omega) (Ev2.bind e1 (Ev2.bind e2 (Ev2.bind e3 (Ev2.posD (by simp only[NC,NL];omega) ?_)))));rw[nl];exact ih
 termination_by l=>l.length
theorem HT {s:ab}(h:Inv s):Ev1 (λk=>CF k oF eU [inj BB (encs (stL s))]) (s,true):=by
 have hac:=h.op.rt;have lo:=hac.lo;have hi:=hac.hi;have hn:=h.now;have hst:=h.st;have hpl:=h.op.pl;have hgs:∀x∈s.2.2.1,I64 (sagL x)/\mayB x.1=true/\sagR x:=λx hx=>⟨h.gs x hx,h.gr x hx⟩
 have hks:∀x∈s.2.2.2.1,I64 (knL x)/\mayB x.1=true/\okO x.2.1:=λx hx=>⟨h.ks x hx,h.kr x hx⟩
 obtain⟨ac,ps,gs,ks,now⟩:=s;have hlen:=aG (nP hst)
 match ac,hac,lo,hi,hpl,hgs,hks,h,hst,hlen with
 |[],_,lo,_,_,_,_,_,_,_=>simp at lo
 |y::l,hac,lo,hi,hpl,hgs,hks,h,hst,hlen=>
  have hk:=ha_l hac now ps h.op.ps hpl gs hgs h.gl ks hks h.kl l y [] rfl;obtain⟨r1,r2,r3,r4,r5,r6⟩:=hac.ok 0 (by simp);have r5:=r5 (by omega);simp only[List.getElem_cons_zero]at r1 r2 r3 r4 r5;have eb:encs (stL (y::l,ps,gs,ks,now))=encs [now]++(encs [((y::l).length:Int)]++(encs [y.1]++(encs [y.2.1]++(encs [y.2.2]++(encs (l.flatMap acL)++encs (t1 ps gs ks)))))):=by
   unfold stL;dsimp only;rw[bq,bq ((y::l).length:Int),aJ,OP,aJ];unfold acL;rw[bq y.1,bq y.2.1];simp only[N7]
  have hsl:(stL (y::l,ps,gs,ks,now)).length<=5000:=by
   have e0:=cJ acL 3 (λ_=>rfl) (y::l);have e1:=cJ payL 8 (λ_=>rfl) ps;have e2:=cJ sagL 11 (λ_=>rfl) gs;have e3:=cJ knL 10 (λ_=>rfl) ks;have h3:=h.gl;have h4:=h.kl;dsimp only at h3 h4 hpl hi;simp only[stL,t1,t2,t3,NC,Ny];simp only[NC]at e0 hi;omega
  rw[eb]at hlen ⊢;simp only[Ny]at hlen;have e1:=br (n:=now) (by dsimp only at hn;omega) (encs [((y::l).length:Int)]++(encs [y.1]++(encs [y.2.1]++(encs [y.2.2]++(encs (l.flatMap acL)++encs (t1 ps gs ks)))))) (by simp only[Ny];omega) (a:=0) (b:=1073741824) hn.1 hn.2;have e2:=br (n:=((y::l).length:Int)) (by dsimp only at hi;omega) (encs [y.1]++(encs [y.2.1]++(encs [y.2.2]++(encs (l.flatMap acL)++encs (t1 ps gs ks))))) (by simp only[Ny];omega) (a:=0) (b:=64) (by omega) (by dsimp only at hi;omega);have e3:=br (n:=y.1) (by omega) (encs [y.2.1]++(encs [y.2.2]++(encs (l.flatMap acL)++encs (t1 ps gs ks)))) (by simp only[Ny];omega) (a:=0) (b:=2) (by omega) (by omega);have e4:=br (n:=y.2.1) (by omega) (encs [y.2.2]++(encs (l.flatMap acL)++encs (t1 ps gs ks))) (by simp only[Ny];omega) (a:=-1125899906842624) (b:=1125899906842624) (by omega) (by omega);have e5:=br (n:=y.2.2) (by omega) (encs (l.flatMap acL)++encs (t1 ps gs ks)) (by simp only[Ny];omega) (a:=0) (b:=1125899906842624) (by omega) (by omega);have h2:Ev2 (λk m=>fb k m ((y::l).length:Int) 0 0 (encs [y.1]++(encs [y.2.1]++(encs [y.2.2]++(encs (l.flatMap acL)++encs (t1 ps gs ks))))) false now) ((y::l,ps,gs,ks,now),true):=
   Ev2.step (λk m=>mh k m _ _ 0 _ false now) (Ev2.posD (by simp only[NC];omega) (Ev2.bind e3 (Ev2.bind e4 (Ev2.bind e5 (Ev2.posD (by simp) hk)))))
  exact Ev1.step (λk=>oL k _) (Ev1.bind e1 (Ev1.bind e2 h2.diag))
end Go.Eng.Top
namespace Go.Eng.Top
open Go.RowKit Go.Eng Go.Eng.LVar Go.Eng.LCrc Go.Eng.LFrm
set_option maxRecDepth 100000
theorem Fb (b:List Int)(hb:Byt b)(hl:b.length<=211106232532992):Ev1 (λk=>CF k Ao jD [inj BB b]) (ans1 (rec1 b)):=by
 have h0:=byt_get hb 0;have h1:=byt_get hb 1;have h2:=byt_get hb 2;have h3:=byt_get hb 3;have h4:=byt_get hb 4;have h5:=byt_get hb 5;have hn:b7 .i64 .or (w64 (w64 (b.getD 0 0)*256)) (w64 (b.getD 1 0))=lenOf b:=by
  unfold lenOf;obtain⟨x,hx⟩:=Oj h0.1;obtain⟨y,hy⟩:=Oj h1.1;rw[hx]at h0;rw[hy]at h1;rw[hx,hy];rw[aL (x:=(x:Int)) (by omega),aL (x:=(y:Int)) (by omega),aL (by omega)];have:=LY x y (by omega) (by omega);rw[show((x*256:Nat):Int)=(x:Int)*256 by omega]at this;rw[this];omega
 have hs:b7 .u32 .or (b7 .u32 .or (b7 .u32 .or (w32 (w32 (b.getD 2 0)*16777216)) (w32 (w32 (b.getD 3 0)*65536))) (w32 (w32 (b.getD 4 0)*256))) (w32 (b.getD 5 0))=smOf b:=by
  unfold smOf;obtain⟨x,hx⟩:=Oj h2.1;obtain⟨y,hy⟩:=Oj h3.1;obtain⟨z,hz⟩:=Oj h4.1;obtain⟨u,hu⟩:=Oj h5.1;rw[hx]at h2;rw[hy]at h3;rw[hz]at h4;rw[hu]at h5;rw[hx,hy,hz,hu];rw[Mm x y z u (by omega) (by omega) (by omega) (by omega)];omega
 have hl0:0<=lenOf b/\lenOf b<=65535:=by unfold lenOf;omega
 have e6:w64 (6+lenOf b)=6+lenOf b:=aL (by omega);refine Ev1.step (λk=>AJ k b _ rfl (lenOf b) hn.symm) ?_;rw[e6];unfold rec1;by_cases c1:b.length<6
 ·rw[NI (.inl c1)];exact Ev1.posD (by omega) (Ev1.now _)
 ·refine Ev1.negD (by omega) (Ev1.pos (aj (by omega) (by omega)) (Ev1.pos (aj (by omega) (by omega)) ?_));by_cases c2:16384<lenOf b
  ·rw[NI (.inr (.inl c2))];exact Ev1.posD c2 (Ev1.now _)
  ·refine Ev1.negD c2 ?_;by_cases c3:(b.length:Int)<6+lenOf b
   ·rw[NI (.inr (.inr c3))];exact Ev1.posD c3 (Ev1.now _)
   ·rw[ND (by omega)];have e:(6+lenOf b).toNat-6=(lenOf b).toNat:=by omega
    have hlx:((b.drop 6).take (lenOf b).toNat).length=(lenOf b).toNat:=by rw[OA,OT];omega
    refine Ev1.negD c3 (Ev2.diag (f:=λk m=>mg k m b (lenOf b)) (Ev2.step (λk m=>vX k m b (lenOf b) _ e6.symm ((b.drop 6).take (lenOf b).toNat) (by rw[e])) ?_));refine Ev2.pos (aj (by omega) (by omega)) (Ev2.pos (aj (by omega) (by omega)) (Ev2.pos (aj (by omega) (by omega)) (Ev2.pos (aj (by omega) (by omega)) (Ev2.pos (and2 (by omega) (by omega)) (Ev2.bind (Jn _ (by omega)) ?_)))));rw[hs];by_cases c4:pC ((b.drop 6).take (lenOf b).toNat)=smOf b
    ·rw[NI c4];refine Ev2.neg (by rw[NK c4];rfl) (Ev2.posD (by omega) (Ev2.const ?_));simp only[ans1,hlx];congr 3;omega
    ·rw[ND c4];exact Ev2.pos (by rw[NF c4];rfl) (Ev2.now _)
def frs (rs:List (List Int)):List Int:=rs.flatMap fr
theorem qc (rs:List (List Int))(x:List Int):frs (rs++[x])=frs rs++fr x:=by simp[frs]
theorem CK (x:List Int)(rs:List (List Int)):frs (x::rs)=fr x++frs rs:=by simp[frs]
theorem K5 {rs:List (List Int)}(h:∀r∈rs,Byt r):Byt (frs rs):=by
 induction rs with
 |nil=>intro x hx;cases hx
 |cons r rs ih=>
  rw[CK];exact Byt.append (CL (h r (Om ..))) (ih λq hq=>h q (NW _ hq))
def torn (t:List Int):Prop:=Byt t/\rec1 t=none
theorem pP:torn []:=⟨λx hx=>(by cases hx),rfl⟩
theorem Hv {x:List Int}(hx:Byt x)(hl:x.length<=16384)(q:Nat)(hq:q<6+x.length):torn ((fr x).take q):=⟨λy hy=>CL hx y (Pa hy),IZ x hl q hq⟩
theorem Jq (t:List Int)(ht:torn t):∀(rs done:List (List Int)),(∀r∈rs,Byt r/\r.length<=16384)->(∀r∈done,Byt r)->(frs (done++rs)++t).length<=1000000->done.length+rs.length<=1000000 ->
  Ev2 (λk m=>iA k m (frs (done++rs)++t) ((frs done).length:Int) done) (done++rs,((frs (done++rs)).length:Int))
 |[],done,_,hd,hl,hn=>by
  rw[Oq]at hl ⊢;have h1:=Fb t ht.1 (by rw[Ny]at hl;omega);rw[ht.2]at h1;have e:(frs done++t).drop (Int.toNat ((frs done).length:Int))=t:=by rw[NQ,List.drop_left]
  refine Ev2.step (λk m=>lU k m _ _ _) (Ev2.pos (and2 (by omega) (by rw[Ny];omega)) ?_);rw[e];exact Ev2.bind h1 (Ev2.pos rfl (Ev2.now _))
 |r::rs,done,hr,hd,hl,hn=>by
  obtain⟨q1,q2⟩:=hr r (Om ..);have hb:Byt (fr r++(frs rs++t)):=Byt.append (CL q1) (Byt.append (K5 λx hx=>(hr x (NW _ hx)).1) ht.1);have e0:frs (done++r::rs)++t=frs done++(fr r++(frs rs++t)):=by simp[frs]
  have h1:=Fb (fr r++(frs rs++t)) hb (by rw[e0,Ny]at hl;omega);rw[BK r _ q2]at h1;have ih:=Jq t ht rs (done++[r]) (λx hx=>hr x (NW _ hx)) (λx hx=>by
   rcases NU.1 hx with hx|hx
   ·exact hd x hx
   ·rw[N5.1 hx];exact q1) (by simpa using hl) (by simp only[Ny,NC,NL]at hn ⊢;omega)
  rw[show done++[r]++rs=done++r::rs by simp,qc,Ny,jh]at ih;have e:(frs done++(fr r++(frs rs++t))).drop (Int.toNat ((frs done).length:Int))=fr r++(frs rs++t):=by rw[NQ,List.drop_left]
  have hl2:(frs done).length+(6+r.length)<=1000000:=by
   rw[e0]at hl;simp only[Ny,jh]at hl;omega
  refine Ev2.step (λk m=>lU k m _ _ _) (Ev2.pos (and2 (by omega) (by rw[e0,Ny];omega)) ?_);rw[show(frs (done++r::rs)++t).drop (Int.toNat ((frs done).length:Int))=fr r++(frs rs++t) by rw[e0];exact e];refine Ev2.bind h1 (Ev2.neg rfl (Ev2.posD (by simp only[NC,NL]at hn ⊢;omega) ?_));simp only[ans1];rw[aL (by omega),show((frs done).length:Int)+(6+(r.length:Int))=(((frs done).length+(6+r.length):Nat):Int) by omega];exact ih
theorem HH (rs:List (List Int))(t:List Int)(ht:torn t)(hr:∀r∈rs,Byt r/\r.length<=16384)(hl:(frs rs++t).length<=1000000)(hn:rs.length<=1000000):Ev1 (λk=>CF k pn ij [inj BB (frs rs++t)]) (rs,((frs rs).length:Int)):=by
 have h:=Jq t ht rs [] hr (λr h=>by cases h) hl (by simpa using hn);exact Ev1.step (λk=>yG k _) h.diag
end Go.Eng.Top
namespace Go.Eng.Top
open Go.RowKit Go.Eng
set_option maxRecDepth 100000
structure OkL (L:List Int)(d:Nat):Prop where
 h:d<L.length
 lo:-1<=L.getD d 0
 hi:L.getD d 0<=1000000
structure Dg (F:List MF)(R L:List Int)(S:List Bool)(d rho:Nat):Prop where
 hd:d<F.length
 hR:R.getD d 0=(rho:Int)
 rho:rho<=262144
 L:OkL L d
 hS:d<S.length
 live:S.getD d false=false
def Nx (L L':List Int)(d:Nat):Prop:=L'.length=L.length/\(L.getD d 0=-1->L'.getD d 0=-1)
section
variable {F:List MF} {R L:List Int} {S:List Bool} {d rho:Nat} {B:List (List Int)} {sf:List Int}
theorem qi (h:Dg F R L S d rho):(∃L',OkL L' d/\Nx L L' d/\Ev1 (λk=>CF k oE dR [inj (.ref 29) (some d),Ck L,Cl S]) (true,L',S)) \/
  (L.getD d 0 ≠ -1/\Ev1 (λk=>CF k oE dR [inj (.ref 29) (some d),Ck L,Cl S]) (false,L,S.set d true)):=by
 have hl:=h.L;by_cases h0:L.getD d 0=0
 ·refine .inr ?_;have h2:Ev2 (λk m=>fa k m (some d) L (S.set d true)) (false,L,S.set d true):=by
   refine Ev2.step (λk m=>iD k m (some d) L (S.set d true) _ rfl) (Ev2.pos rfl (Ev2.negD ?_ (Ev2.pos rfl (Ev2.const ?_))))
   ·show ¬ (0<L.getD d 0);omega
   ·show some (!((S.set d true).getD d false),L,S.set d true)=_;rw[ai _ _ _ _ h.hS];rfl
  exact⟨by omega,Ev1.step (λk=>lI k (some d) L S) (Ev1.pos rfl (Ev1.posD h0 (Ev1.pos rfl h2.diag)))⟩
 ·by_cases h1:0<L.getD d 0
  ·refine .inl ⟨L.set d (L.getD d 0-1),⟨by rw[NA];exact hl.h,by rw[ai _ _ _ _ hl.h];omega,by rw[ai _ _ _ _ hl.h];have:=hl.hi;omega⟩,⟨NA,λh=>by omega⟩,?_⟩;have h2:Ev2 (λk m=>fa k m (some d) L S) (true,L.set d (L.getD d 0-1),S):=by
    refine Ev2.step (λk m=>iD k m (some d) L S _ rfl) (Ev2.pos rfl (Ev2.posD h1 (Ev2.pos rfl (Ev2.pos rfl (Ev2.pos rfl (Ev2.const ?_))))));show some (!(S.getD d false),L.set d (w64 (L.getD d 0-1)),S)=_;rw[h.live,aL (by have:=hl.hi;omega)];rfl
   exact Ev1.step (λk=>lI k (some d) L S) (Ev1.pos rfl (Ev1.negD h0 h2.diag))
  ·refine .inl ⟨L,hl,⟨rfl,λh=>h⟩,?_⟩;have h2:Ev2 (λk m=>fa k m (some d) L S) (true,L,S):=by
    refine Ev2.step (λk m=>iD k m (some d) L S _ rfl) (Ev2.pos rfl (Ev2.negD h1 (Ev2.pos rfl (Ev2.const ?_))));show some (!(S.getD d false),L,S)=_;rw[h.live];rfl
   exact Ev1.step (λk=>lI k (some d) L S) (Ev1.pos rfl (Ev1.negD h0 h2.diag))
section
variable {M:MF} {name:Int} {b:List Int}
theorem A8 (h:Dg F R L S d rho)(hM:F.getD d []=M)(ha:allS M=true)(hs:sumL B M<=1000000)(hb:b.length<=1000000)(hf:rho<sumL B M+b.length):
  Ev1 (λk=>CF k gR dH [inj (.ref 29) (some d),inj (.int .i64) name,inj BB b,Ci F,Cj R,Ck L,Cl S,Ct B,Cu sf]) (some 8,F,R,L,S,B,sf):=by
 refine Ev1.step (λk=>gS k (some d) name b F R L S B sf) (Ev1.pos rfl (Ev1.neg h.live (Ev1.bind (qj M hM ha (by omega)) (Ev1.pos rfl (Ev1.posD ?_ (Ev1.now _))))));show R.getD d 0<w64 ((sumL B M:Int)+(b.length:Int));rw[h.hR,bP (by omega) (by omega)];omega
theorem A6 (h:Dg F R L S d rho)(hM:F.getD d []=M)(ha:allS M=true)(hs:sumL B M+b.length<=rho){g:Nat}(hg:aO none M name=some g)(hl:(B.getD g []).length<=1000000):
  (∃L',OkL L' d/\Nx L L' d/\Ev1 (λk=>CF k gR dH [inj (.ref 29) (some d),inj (.int .i64) name,inj BB b,Ci F,Cj R,Ck L,Cl S,Ct B,Cu sf]) (none,F,R,L',S,B.set g (B.getD g []++b),sf)) \/
  (L.getD d 0 ≠ -1/\Ev1 (λk=>CF k gR dH [inj (.ref 29) (some d),inj (.int .i64) name,inj BB b,Ci F,Cj R,Ck L,Cl S,Ct B,Cu sf]) (some 12,F,R,L,S.set d true,B.set g (B.getD g []++b),sf)):=by
 have hrho:=h.rho;have hroom:¬ (R.getD d 0<w64 ((sumL B M:Int)+(b.length:Int))):=by rw[h.hR,bP (by omega) (by omega)];omega
 rcases qi h with⟨L',hL,hll,hw⟩|⟨hne,hw⟩
 ·refine .inl ⟨L',hL,hll,Ev1.step (λk=>gS k (some d) name b F R L S B sf) (Ev1.pos rfl (Ev1.neg h.live (Ev1.bind (qj M hM ha (by omega)) (Ev1.pos rfl (Ev1.negD hroom (Ev1.bind hw (Ev1.pos rfl ?_)))))))⟩;simp only[NN];rw[hM,hg];have h2:Ev2 (λk m=>fS k m (some d) b true (some g) F R L' S B sf) (none,F,R,L',S,B.set g (B.getD g []++b),sf):=
   Ev2.step (λk m=>kP k m (some d) b true (some g) F R L' S B sf _ rfl _ rfl) (Ev2.pos rfl (Ev2.posD (by simp only[NN];omega) (Ev2.pos rfl (Ev2.pos (by simp) (Ev2.neg rfl (Ev2.now _))))))
  exact Ev1.neg rfl h2.diag
 ·refine .inr ⟨hne,Ev1.step (λk=>gS k (some d) name b F R L S B sf) (Ev1.pos rfl (Ev1.neg h.live (Ev1.bind (qj M hM ha (by omega)) (Ev1.pos rfl (Ev1.negD hroom (Ev1.bind hw (Ev1.pos rfl ?_)))))))⟩;simp only[NN];rw[hM,hg];have h2:Ev2 (λk m=>fS k m (some d) b false (some g) F R L (S.set d true) B sf) (some 12,F,R,L,S.set d true,B.set g (B.getD g []++b),sf):=
   Ev2.step (λk m=>kP k m (some d) b false (some g) F R L (S.set d true) B sf _ rfl _ rfl) (Ev2.pos rfl (Ev2.posD (by simp only[NN];omega) (Ev2.pos rfl (Ev2.pos (by simp) (Ev2.pos rfl (Ev2.now _))))))
  exact Ev1.neg rfl h2.diag
theorem A7 (h:Dg F R L S d rho)(hM:F.getD d []=M)(ha:allS M=true)(hs:sumL B M+b.length<=rho)(hg:aO none M name=none):
  (∃L',OkL L' d/\Nx L L' d/\Ev1 (λk=>CF k gR dH [inj (.ref 29) (some d),inj (.int .i64) name,inj BB b,Ci F,Cj R,Ck L,Cl S,Ct B,Cu sf]) (none,F.set d (aR M name (some B.length)),R,L',S,B++[b],sf++[0])) \/
  (L.getD d 0 ≠ -1/\Ev1 (λk=>CF k gR dH [inj (.ref 29) (some d),inj (.int .i64) name,inj BB b,Ci F,Cj R,Ck L,Cl S,Ct B,Cu sf]) (some 12,F.set d (aR M name (some B.length)),R,L,S.set d true,B++[b],sf++[0])):=by
 have hrho:=h.rho;have hroom:¬ (R.getD d 0<w64 ((sumL B M:Int)+(b.length:Int))):=by rw[h.hR,bP (by omega) (by omega)];omega
 rcases qi h with⟨L',hL,hll,hw⟩|⟨hne,hw⟩
 ·refine .inl ⟨L',hL,hll,Ev1.step (λk=>gS k (some d) name b F R L S B sf) (Ev1.pos rfl (Ev1.neg h.live (Ev1.bind (qj M hM ha (by omega)) (Ev1.pos rfl (Ev1.negD hroom (Ev1.bind hw (Ev1.pos rfl ?_)))))))⟩;simp only[NN];rw[hM,hg];have h2:Ev2 (λk m=>jN k m (some d) b true B.length (F.set d (aR M name (some B.length))) R L' S (B++[[]]) (sf++[0])) (none,F.set d (aR M name (some B.length)),R,L',S,B++[b],sf++[0]):=by
   refine Ev2.step (λk m=>np k m (some d) b true B.length _ R L' S (B++[[]]) _ _ rfl _ rfl) ?_;rw[bk,PB _ _ (NG _),QL];exact Ev2.posD (by simp;omega) (Ev2.pos (by simp) (Ev2.neg rfl (Ev2.now _)))
  exact Ev1.pos rfl (Ev1.pos rfl h2.diag)
 ·refine .inr ⟨hne,Ev1.step (λk=>gS k (some d) name b F R L S B sf) (Ev1.pos rfl (Ev1.neg h.live (Ev1.bind (qj M hM ha (by omega)) (Ev1.pos rfl (Ev1.negD hroom (Ev1.bind hw (Ev1.pos rfl ?_)))))))⟩;simp only[NN];rw[hM,hg];have h2:Ev2 (λk m=>jN k m (some d) b false B.length (F.set d (aR M name (some B.length))) R L (S.set d true) (B++[[]]) (sf++[0])) (some 12,F.set d (aR M name (some B.length)),R,L,S.set d true,B++[b],sf++[0]):=by
   refine Ev2.step (λk m=>np k m (some d) b false B.length _ R L (S.set d true) (B++[[]]) _ _ rfl _ rfl) ?_;rw[bk,PB _ _ (NG _),QL];exact Ev2.posD (by simp;omega) (Ev2.pos (by simp) (Ev2.pos rfl (Ev2.now _)))
  exact Ev1.pos rfl (Ev1.pos rfl h2.diag)
end
theorem Jl (h:Dg F R L S d rho){M:MF}(hM:F.getD d []=M){name:Int}{g:Nat}(hg:aO none M name=some g):
  (∃L',OkL L' d/\Nx L L' d/\Ev1 (λk=>CF k yj m4 [inj (.ref 29) (some d),inj (.int .i64) name,Ci F,Ck L,Cl S,Ct B,Cu sf]) (none,F,L',S,B,sf.set g ((B.getD g []).length:Int))) \/
  (L.getD d 0 ≠ -1/\Ev1 (λk=>CF k yj m4 [inj (.ref 29) (some d),inj (.int .i64) name,Ci F,Ck L,Cl S,Ct B,Cu sf]) (some 12,F,L,S.set d true,B,sf)):=by
 rcases qi h with⟨L',hL,hll,hw⟩|⟨hne,hw⟩
 ·refine .inl ⟨L',hL,hll,Ev1.step (λk=>yJ k (some d) name F L S B sf _ rfl) (Ev1.pos rfl (Ev1.pos rfl (Ev1.neg h.live ?_)))⟩;simp only[NN];rw[hM,hg];exact Ev1.neg rfl (Ev1.bind hw (Ev1.neg rfl (Ev1.pos rfl (Ev1.pos rfl (Ev1.now _)))))
 ·refine .inr ⟨hne,Ev1.step (λk=>yJ k (some d) name F L S B sf _ rfl) (Ev1.pos rfl (Ev1.pos rfl (Ev1.neg h.live ?_)))⟩;simp only[NN];rw[hM,hg];exact Ev1.neg rfl (Ev1.bind hw (Ev1.pos rfl (Ev1.now _)))
theorem HR (h:Dg F R L S d rho){M:MF}(hM:F.getD d []=M){name:Int}{g:Nat}(hg:aO none M name=some g):
  (∃L',OkL L' d/\Nx L L' d/\Ev1 (λk=>CF k gQ cT [inj (.ref 29) (some d),inj (.int .i64) name,Ci F,Ck L,Cl S]) (none,F.set d (cx M name),L',S)) \/
  (L.getD d 0 ≠ -1/\Ev1 (λk=>CF k gQ cT [inj (.ref 29) (some d),inj (.int .i64) name,Ci F,Ck L,Cl S]) (some 12,F,L,S.set d true)):=by
 rcases qi h with⟨L',hL,hll,hw⟩|⟨hne,hw⟩
 ·refine .inl ⟨L',hL,hll,Ev1.step (λk=>mn k (some d) name F L S) (Ev1.pos rfl (Ev1.neg h.live (Ev1.pos rfl ?_)))⟩;simp only[NN];rw[hM,hg];exact Ev1.neg rfl (Ev1.bind hw (Ev1.neg rfl (Ev1.pos rfl (Ev1.now _))))
 ·refine .inr ⟨hne,Ev1.step (λk=>mn k (some d) name F L S) (Ev1.pos rfl (Ev1.neg h.live (Ev1.pos rfl ?_)))⟩;simp only[NN];rw[hM,hg];exact Ev1.neg rfl (Ev1.bind hw (Ev1.pos rfl (Ev1.now _)))
theorem HQ (h:Dg F R L S d rho){M:MF}(hM:F.getD d []=M){from_ to_:Int}{g:Nat}(hg:aO none M from_=some g):
  (∃L',OkL L' d/\Nx L L' d/\Ev1 (λk=>CF k rW jF [inj (.ref 29) (some d),inj (.int .i64) from_,inj (.int .i64) to_,Ci F,Ck L,Cl S]) (none,F.set d (aR (cx M from_) to_ (some g)),L',S)) \/
  (L.getD d 0 ≠ -1/\Ev1 (λk=>CF k rW jF [inj (.ref 29) (some d),inj (.int .i64) from_,inj (.int .i64) to_,Ci F,Ck L,Cl S]) (some 12,F,L,S.set d true)):=by
 rcases qi h with⟨L',hL,hll,hw⟩|⟨hne,hw⟩
 ·refine .inl ⟨L',hL,hll,Ev1.step (λk=>so k (some d) from_ to_ F L S) (Ev1.pos rfl (Ev1.pos rfl (Ev1.neg h.live ?_)))⟩;simp only[NN];rw[hM,hg];refine Ev1.neg rfl (Ev1.bind hw (Ev1.neg rfl (Ev1.pos rfl (Ev1.pos rfl ?_))));rw[ai _ _ _ _ h.hd,Ri];exact Ev1.now _
 ·refine .inr ⟨hne,Ev1.step (λk=>so k (some d) from_ to_ F L S) (Ev1.pos rfl (Ev1.pos rfl (Ev1.neg h.live ?_)))⟩;simp only[NN];rw[hM,hg];exact Ev1.neg rfl (Ev1.bind hw (Ev1.pos rfl (Ev1.now _)))
theorem Mn {j:Nat}{jk:List Bool}:Ev1 (λk=>CF k nu ee [inj (.ref 99) (some j),inj .err (some 8),Cs jk]) (some 8,jk):=
 Ev1.step (λk=>sm k (some j) (some 8) jk) (Ev1.pos rfl (Ev1.negD (by simp) (Ev1.now _)))
theorem oI {j:Nat}{jk:List Bool}:Ev1 (λk=>CF k nu ee [inj (.ref 99) (some j),inj .err (some 12),Cs jk]) (some 12,jk.set j true):=
 Ev1.step (λk=>sm k (some j) (some 12) jk) (Ev1.pos rfl (Ev1.posD rfl (Ev1.pos rfl (Ev1.now _))))
theorem Dg.next {F':List MF}{L':List Int}(h:Dg F R L S d rho)(hF:F'.length=F.length)(hL:OkL L' d):Dg F' R L' S d rho:=⟨by rw[hF];exact h.hd,h.hR,h.rho,hL,h.hS,h.live⟩
section
variable {j:Nat} {jd:List (Option Nat)} {jk:List Bool} {M:MF} {name:Int} {b:List Int}
noncomputable abbrev mw (k j:Nat)(name:Int)(b:List Int)(F:List MF)(R L:List Int)(S:List Bool)(jd:List (Option Nat))(jk:List Bool)(B:List (List Int))(sf:List Int):=CF k IC pX [inj (.ref 99) (some j),inj (.int .i64) name,inj BB b,Ci F,Cj R,Ck L,Cl S,Co jd,Cs jk,Ct B,Cu sf]
theorem BE (h:Dg F R L S d rho)(hj:jd.getD j none=some d)(hM:F.getD d []=M)(ha:allS M=true)(hs:sumL B M<=1000000)(hb:b.length<=1000000)(hf:rho<sumL B M+b.length):
  Ev1 (λk=>mw k j name b F R L S jd jk B sf) (some 8,F,R,L,S,jd,jk,B,sf):=by
 refine Ev1.step (λk=>wy k (some j) name b F R L S jd jk B sf) (Ev1.pos rfl ?_);simp only[NN];rw[hj];exact Ev1.bind (A8 h hM ha hs hb hf) (Ev1.pos rfl (Ev1.bind Mn (Ev1.now _)))
theorem HW (h:Dg F R L S d rho)(hj:jd.getD j none=some d)(hM:F.getD d []=M)(ha:allS M=true)(hs:sumL B M+b.length<=rho){g:Nat}(hg:aO none M name=some g)(hgB:g<B.length)(hl:(B.getD g []).length<=1000000):
  (∃L',OkL L' d/\Nx L L' d/\Ev1 (λk=>mw k j name b F R L S jd jk B sf) (none,F,R,L',S,jd,jk,B.set g (B.getD g []++b),sf.set g ((B.getD g []++b).length:Int))) \/
  (∃L',OkL L' d/\Nx L L' d/\L.getD d 0 ≠ -1/\Ev1 (λk=>mw k j name b F R L S jd jk B sf) (some 12,F,R,L',S.set d true,jd,jk.set j true,B.set g (B.getD g []++b),sf)):=by
 have e1:(B.set g (B.getD g []++b)).getD g []=B.getD g []++b:=ai _ _ _ _ hgB;have st:=λk=>wy k (some j) name b F R L S jd jk B sf
 rcases A6 (b:=b) (sf:=sf) h hM ha hs hg hl with⟨L1,hL1,hl1,ha1⟩|⟨hne,ha1⟩
 ·rcases Jl (B:=B.set g (B.getD g []++b)) (sf:=sf) (h.next rfl hL1) hM hg with⟨L2,hL2,hl2,hs2⟩|⟨hne,hs2⟩
  ·refine .inl ⟨L2,hL2,⟨hl2.1.trans hl1.1,λh=>hl2.2 (hl1.2 h)⟩,Ev1.step st (Ev1.pos rfl ?_)⟩;simp only[NN];rw[hj];rw[e1]at hs2;exact Ev1.bind ha1 (Ev1.neg rfl (Ev1.pos rfl (Ev1.bind hs2 (Ev1.bind r9 (Ev1.now _)))))
  ·refine .inr ⟨L1,hL1,hl1,λh=>hne (hl1.2 h),Ev1.step st (Ev1.pos rfl ?_)⟩;simp only[NN];rw[hj];exact Ev1.bind ha1 (Ev1.neg rfl (Ev1.pos rfl (Ev1.bind hs2 (Ev1.bind oI (Ev1.now _)))))
 ·refine .inr ⟨L,h.L,⟨rfl,λh=>h⟩,hne,Ev1.step st (Ev1.pos rfl ?_)⟩;simp only[NN];rw[hj];exact Ev1.bind ha1 (Ev1.pos rfl (Ev1.bind oI (Ev1.now _)))
theorem BD (h:Dg F R L S d rho)(hj:jd.getD j none=some d)(hM:F.getD d []=M)(ha:allS M=true)(hs:sumL B M+b.length<=rho)(hg:aO none M name=none)(hsf:sf.length=B.length):
  (∃L',OkL L' d/\Nx L L' d/\Ev1 (λk=>mw k j name b F R L S jd jk B sf) (none,F.set d (aR M name (some B.length)),R,L',S,jd,jk,B++[b],sf++[(b.length:Int)])) \/
  (∃L',OkL L' d/\Nx L L' d/\L.getD d 0 ≠ -1/\Ev1 (λk=>mw k j name b F R L S jd jk B sf) (some 12,F.set d (aR M name (some B.length)),R,L',S.set d true,jd,jk.set j true,B++[b],sf++[0])):=by
 have e1:(B++[b]).getD B.length []=b:=bk _ _ _;have e2:(sf++[0]).set B.length (b.length:Int)=sf++[(b.length:Int)]:=by rw[<- hsf,PB _ _ (NG _),QL];rfl
 have st:=λk=>wy k (some j) name b F R L S jd jk B sf
 rcases A7 (b:=b) (sf:=sf) h hM ha hs hg with⟨L1,hL1,hl1,ha1⟩|⟨hne,ha1⟩
 ·rcases Jl (B:=B++[b]) (sf:=sf++[0]) (h.next (F':=F.set d (aR M name (some B.length))) NA hL1) (ai _ _ _ _ h.hd) (ox M name (some B.length))with⟨L2,hL2,hl2,hs2⟩|⟨hne,hs2⟩
  ·refine .inl ⟨L2,hL2,⟨hl2.1.trans hl1.1,λh=>hl2.2 (hl1.2 h)⟩,Ev1.step st (Ev1.pos rfl ?_)⟩;simp only[NN];rw[hj];rw[e1,e2]at hs2;exact Ev1.bind ha1 (Ev1.neg rfl (Ev1.pos rfl (Ev1.bind hs2 (Ev1.bind r9 (Ev1.now _)))))
  ·refine .inr ⟨L1,hL1,hl1,λh=>hne (hl1.2 h),Ev1.step st (Ev1.pos rfl ?_)⟩;simp only[NN];rw[hj];exact Ev1.bind ha1 (Ev1.neg rfl (Ev1.pos rfl (Ev1.bind hs2 (Ev1.bind oI (Ev1.now _)))))
 ·refine .inr ⟨L,h.L,⟨rfl,λh=>h⟩,hne,Ev1.step st (Ev1.pos rfl ?_)⟩;simp only[NN];rw[hj];exact Ev1.bind ha1 (Ev1.pos rfl (Ev1.bind oI (Ev1.now _)))
end
end
end Go.Eng.Top
namespace Go.Eng.Top
open Go.RowKit Go.Eng Go.Eng.LVar Go.Eng.LCrc Go.Eng.LFrm
set_option maxRecDepth 100000
def lenO (B:List (List Int)):Option Nat->Nat
 |none=>0
 |some g=>(B.getD g []).length
theorem cV (B:List (List Int))(g:Nat):lenO B (some g)=(B.getD g []).length:=rfl
theorem xF (B:List (List Int)):lenO B none=0:=rfl
theorem fH (B:List (List Int))(t:Nat)(b r:Option Nat):sumL B (Mof t b r)=lenO B b+lenO B r:=by
 cases b<;>cases r<;>simp[Mof,sumL,lenO]
theorem BO (t:Nat)(b r:Option Nat)(x:Nat):aR (Mof t b r) 1 (some x)=Mof t b r++[(1,some x)]:=by
 cases b<;>cases r<;>simp only[Mof,aR,NF (ne1 t),NS,NF (show ¬ ((0:Int)=1) by omega),OJ,N4]
def gC (t:Nat)(e:Int×Option Nat):Bool:=decide (e.1=0) || decide (e.1=((2+t:Nat):Int))
theorem vQ (t:Nat)(b r:Option Nat):(Mof t b r).filter (gC t)=Mof t b r:=by
 cases b<;>cases r<;>simp[Mof,gC]
theorem FF (t:Nat)(b r:Option Nat)(x:Nat):(Mof t b r++[(1,some x)]).filter (gC t)=Mof t b r:=by
 rw[List.filter_append,vQ];have:gC t (1,some x)=false:=by
  unfold gC;rw[NF (show ¬ ((1:Int)=0) by omega),NF (show ¬ ((1:Int)=((2+t:Nat):Int)) by omega)];rfl
 simp[this]
structure Bb (B:List (List Int))(sf:List Int)(t:Nat)(bs:List Int)(rs:List (List Int))(p:List Int)(b r:Option Nat):Prop where
 bz:b=none ↔ t=0
 bok:∀g,b=some g->g<B.length/\B.getD g []=fr (encs [(t:Int)]++bs)/\sf.getD g 0=((B.getD g []).length:Int)
 bl:t≠0->(encs [(t:Int)]++bs).length<=16384/\Byt bs
 rok:∀h,r=some h->h<B.length/\B.getD h []=frs rs++p/\sf.getD h 0=((frs rs).length:Int)
 rz:r=none->rs=[]/\p=[]
 ne:∀g h,b=some g->r=some h->g≠h
structure JG (c:DC)(j d rho t:Nat)(bs:List Int)(rs:List (List Int)):Prop where
 dg:Dg c.F c.R c.L c.S d rho
 jd:c.jd.getD j none=some d
 jt:j<c.jt.length/\c.jt.getD j 0=(t:Int)
 jb:j<c.jb.length
 jr:j<c.jr.length/\c.jr.getD j []=rs
 jk:j<c.jk.length/\c.jk.getD j false=false
 bsf:c.sf.length=c.B.length
 files:∃b r,c.F.getD d []=Mof t b r/\Bb c.B c.sf t bs rs [] b r
 sum:sumL c.B (c.F.getD d [])<=rho
 rcs:∀x∈rs,Byt x/\x.length<=80
 tb:t<=1000000
structure DSt (c:DC)(d rho t:Nat)(bs:List Int)(rs:List (List Int))(p:List Int):Prop where
 hd:d<c.F.length
 hR:c.R.getD d 0=(rho:Int)
 rhl:rho<=262144
 hL:d<c.L.length
 hS:d<c.S.length
 stop:c.S.getD d false=true
 bsf:c.sf.length=c.B.length
 nk:nodI ((c.F.getD d []).map (·.1))=true
 ni:nodN ((c.F.getD d []).map λe=>e.2.getD 0)=true
 l3:(c.F.getD d []).length<=3
 all:∀e∈c.F.getD d [],∃g,e.2=some g/\g<c.B.length/\(c.B.getD g []).length<=1000000/\0<=c.sf.getD g 0/\c.sf.getD g 0<=((c.B.getD g []).length:Int)
 sum:sumL c.B (c.F.getD d [])<=rho
 files:∃b r,(c.F.getD d []).filter (gC t)=Mof t b r/\Bb c.B c.sf t bs rs p b r
 rcs:∀x∈rs,Byt x/\x.length<=80
 pok:p=[]\/∃e,p=fr e/\Byt e/\e.length<=80
 tb:t<=1000001
theorem Bb.app {B:List (List Int)}{sf:List Int}{t:Nat}{bs:List Int}{rs:List (List Int)}{p:List Int}{b r:Option Nat}(h:Bb B sf t bs rs p b r)(x:List Int)(y:Int)(hs:sf.length=B.length):Bb (B++[x]) (sf++[y]) t bs rs p b r:=
 ⟨h.bz,λg hg=>by
  obtain⟨q1,q2,q3⟩:=h.bok g hg;rw[bN _ _ _ q1,bN _ _ _ (by omega),Ny];exact⟨by omega,q2,q3⟩,h.bl,λg hg=>by
  obtain⟨q1,q2,q3⟩:=h.rok g hg;rw[bN _ _ _ q1,bN _ _ _ (by omega),Ny];exact⟨by omega,q2,q3⟩,h.rz,h.ne⟩
theorem BN (t:Nat)(b r:Option Nat):nodI ((Mof t b r).map (·.1))=true:=by
 have e:¬ ((0:Int)=((2+t:Nat):Int)):=ne0 t;cases b<;>cases r<;>simp only[Mof,NV,OY,nodI,OM,Pb,O9,Pd,O2,OK e]
theorem Fg (t:Nat)(b r:Option Nat)(x:Nat):nodI ((Mof t b r++[(1,some x)]:MF).map (·.1))=true:=by
 have e:¬ ((0:Int)=((2+t:Nat):Int)):=ne0 t;have e1:¬ (((2+t:Nat):Int)=1):=ne1 t;have e2:¬ ((0:Int)=1):=by omega
 cases b<;>cases r<;>simp only[Mof,OJ,N4,NV,OY,nodI,OM,Pb,O9,Pd,O2,OK e,OK e1,OK e2]
theorem BM (t:Nat){b r:Option Nat}(h:∀g h,b=some g->r=some h->g≠h):nodN ((Mof t b r).map λe=>e.2.getD 0)=true:=by
 cases b with
 |none=>cases r<;>rfl
 |some g=>cases r with
  |none=>rfl
  |some k=>
   have:=h g k rfl rfl;simp only[Mof,NV,OY,nodN,NN,OM,Pb,O9,Pd,O2,OK this]
theorem Fe (t:Nat){b r:Option Nat}(h:∀g h,b=some g->r=some h->g≠h){x:Nat}(hb:∀g,b=some g->g<x)(hr:∀g,r=some g->g<x):nodN ((Mof t b r++[(1,some x)]:MF).map λe=>e.2.getD 0)=true:=by
 cases b with
 |none=>cases r with
  |none=>rfl
  |some k=>
   have h1:k≠x:=by have:=hr k rfl;omega
   simp only[Mof,OJ,N4,NV,OY,nodN,NN,OM,Pb,O9,Pd,O2,OK h1]
 |some g=>
  have h1:g≠x:=by have:=hb g rfl;omega
  cases r with
  |none=>simp only[Mof,OJ,N4,NV,OY,nodN,NN,OM,Pb,O9,Pd,O2,OK h1]
  |some k=>
   have h2:=h g k rfl rfl;have h3:k≠x:=by have:=hr k rfl;omega
   simp only[Mof,OJ,N4,NV,OY,nodN,NN,OM,Pb,O9,Pd,O2,OK h1,OK h2,OK h3]
theorem A9 {t:Nat}{b r:Option Nat}{P:Nat->Prop}(hb:∀g,b=some g->P g)(hr:∀g,r=some g->P g):∀e∈Mof t b r,∃g,e.2=some g/\P g:=by
 intro e he;cases b with
 |none=>cases r with
  |none=>simp[Mof]at he
  |some k=>simp only[Mof,N5]at he;rw[he];exact⟨k,rfl,hr k rfl⟩
 |some g=>cases r with
  |none=>simp only[Mof,N5]at he;rw[he];exact⟨g,rfl,hb g rfl⟩
  |some k=>
   simp only[Mof,NO,Oc,ON]at he;rcases he with he|he
   ·rw[he];exact⟨g,rfl,hb g rfl⟩
   ·rw[he];exact⟨k,rfl,hr k rfl⟩
theorem Fq (t:Nat)(b r:Option Nat):(Mof t b r).length<=2:=by cases b<;>cases r<;>simp[Mof]
noncomputable abbrev my (k j:Nat)(b:List Int)(c:DC):=CF k An jC [inj (.ref 99) (some j),inj (.slice BB) [b],Ci c.F,Cj c.R,Ck c.L,Cl c.S,Co c.jd,Cp c.jt,Cr c.jr,Cs c.jk,Ct c.B,Cu c.sf]
abbrev xm (e:Option Int)(c:DC):R12:=(e,c.F,c.R,c.L,c.S,c.jd,c.jt,c.jr,c.jk,c.B,c.sf)
theorem iW {B:List (List Int)}{t:Nat}{b r:Option Nat}:(∀g,b=some g->(B.getD g []).length<=sumL B (Mof t b r))/\(∀g,r=some g->(B.getD g []).length<=sumL B (Mof t b r)):=by
 rw[fH];exact⟨λg hg=>by rw[hg];simp[lenO],λg hg=>by rw[hg];simp[lenO]⟩
theorem CJ (rs:List (List Int)):rs.length*6<=(frs rs).length:=by
 induction rs with
 |nil=>simp[frs]
 |cons r rs ih=>rw[CK,Ny,jh,NC];omega
theorem BA {c:DC}{j d rho t:Nat}{bs:List Int}{rs:List (List Int)}(h:JG c j d rho t bs rs):rs.length<=50000:=by
 obtain⟨b,r,hF,hf⟩:=h.files;have hs:=h.sum;have hrho:=h.dg.rho;rw[hF]at hs;cases hr:r with
 |none=>rw[(hf.rz hr).1];simp
 |some g=>
  have h1:=(iW (B:=c.B) (t:=t) (b:=b) (r:=r)).2 g hr;rw[(hf.rok g hr).2.1,Oq]at h1;have:=CJ rs;omega
def Calm (c:DC)(d u:Nat):Prop:=c.L.getD d 0=-1/\sumL c.B (c.F.getD d [])<=u
theorem xH (c:DC){j d rho t:Nat}{bs:List Int}{rs:List (List Int)}(h:JG c j d rho t bs rs)(b:List Int)(hb:Byt b/\b.length<=80):
  (Ev1 (λk=>my k j b c) (xm (some 8) c)/\∀u,Calm c d u->rho<u+(fr b).length) \/
  (∃c',Ev1 (λk=>my k j b c) (xm none c')/\c'.jb=c.jb/\JG c' j d rho t bs (rs++[b])/\Lens c c'/\∀u,Calm c d u->Calm c' d (u+(fr b).length)) \/
  (∃c',Ev1 (λk=>my k j b c) (xm (some 12) c')/\c'.jb=c.jb/\DSt c' d rho t bs rs (fr b)/\Lens c c'/\∀u,¬ Calm c d u):=by
 obtain⟨b0,r,hF,hf⟩:=h.files;have hsum:=h.sum;have hrho:=h.dg.rho;have hfl:=jh b;have htb:=h.tb;have hfew:=BA h;obtain⟨lb,lr⟩:=iW (B:=c.B) (t:=t) (b:=b0) (r:=r);rw[hF]at hsum;have ename:w64 (2+c.jt.getD j 0)=((2+t:Nat):Int):=by rw[h.jt.2,bP (by omega) (by omega)];omega
 have hm:=Fv b (by omega);rw[ND (by omega)]at hm
 -- up to the bytes' laying
 have pre:∀R:R12,Ev2 (λk m=>gM k m (some j) [b] [b] 1 1 (fr b) c.F c.R c.L c.S c.jd c.jt c.jr c.jk c.B c.sf) R->Ev1 (λk=>my k j b c) R:=λR hR=>by
  have ha1:Ev2 (λk m=>gM k m (some j) [b] [b] 1 0 [] c.F c.R c.L c.S c.jd c.jt c.jr c.jk c.B c.sf) R:=
   Ev2.step (λk m=>nh k m (some j) [b] [b] 1 0 [] c.F c.R c.L c.S c.jd c.jt c.jr c.jk c.B c.sf) (Ev2.posD (by omega) (Ev2.pos rfl (Ev2.bind hm (Ev2.neg rfl (Ev2.posD (by simp only[NL];omega) hR)))))
  exact Ev1.step (λk=>AI k (some j) [b] c.F c.R c.L c.S c.jd c.jt c.jr c.jk c.B c.sf) (Ev1.pos rfl (Ev1.neg h.jk.2 ha1.diag))
 have stp:=λk m=>nh k m (some j) [b] [b] 1 1 (fr b) c.F c.R c.L c.S c.jd c.jt c.jr c.jk c.B c.sf
 by_cases hroom:rho<sumL c.B (Mof t b0 r)+(fr b).length
 ·refine .inl ⟨pre _ (Ev2.step stp (Ev2.negD (by omega) (Ev2.pos rfl ?_))),λu hu=>by have:=hu.2;rw[hF]at this;omega⟩;simp only[NN];rw[ename];exact Ev2.bind (BE h.dg h.jd hF (qY t b0 r) (by omega) (by omega) hroom) (Ev2.pos rfl (Ev2.now _))
 -- behind it
 have post:∀F' L' B' sf',Ev1 (λk=>mw k j ((2+t:Nat):Int) (fr b) c.F c.R c.L c.S c.jd c.jk c.B c.sf) (none,F',c.R,L',c.S,c.jd,c.jk,B',sf') ->
   Ev1 (λk=>my k j b c) (xm none ⟨F',c.R,L',c.S,c.jd,c.jt,c.jb,c.jr.set j (rs++[b]),c.jk,B',sf'⟩):=λF' L' B' sf' e=>by
  have hr2:∀s2,Ev2 (λk m=>ef k m (some j) [b] 1 1 F' c.R L' c.S c.jd c.jt s2 c.jk B' sf') (none,F',c.R,L',c.S,c.jd,c.jt,s2,c.jk,B',sf'):=λs2=>
   Ev2.step (λk m=>kK k m (some j) [b] 1 1 F' c.R L' c.S c.jd c.jt s2 c.jk B' sf' _ rfl _ rfl) (Ev2.negD (by omega) (Ev2.now _))
  have hr1:Ev2 (λk m=>ef k m (some j) [b] 1 0 F' c.R L' c.S c.jd c.jt c.jr c.jk B' sf') (none,F',c.R,L',c.S,c.jd,c.jt,c.jr.set j (rs++[b]),c.jk,B',sf'):=
   Ev2.step (λk m=>kK k m (some j) [b] 1 0 F' c.R L' c.S c.jd c.jt c.jr c.jk B' sf' b rfl rs h.jr.2.symm) (Ev2.posD (by omega) (Ev2.pos rfl (Ev2.pos rfl (Ev2.posD (by omega) (Ev2.posD (by simp only[NC,NL];omega) (Ev2.pos rfl (Ev2.pos (by simp) (hr2 _))))))))
  refine pre _ (Ev2.step stp (Ev2.negD (by omega) (Ev2.pos rfl ?_)));simp only[NN];rw[ename];exact Ev2.bind e (Ev2.neg rfl (Ev1.drop hr1.diag))
 have crash:∀F' L' S' jk' B' sf',Ev1 (λk=>mw k j ((2+t:Nat):Int) (fr b) c.F c.R c.L c.S c.jd c.jk c.B c.sf) (some 12,F',c.R,L',S',c.jd,jk',B',sf') ->
   Ev1 (λk=>my k j b c) (xm (some 12) ⟨F',c.R,L',S',c.jd,c.jt,c.jb,c.jr,jk',B',sf'⟩):=λF' L' S' jk' B' sf' e=>by
  refine pre _ (Ev2.step stp (Ev2.negD (by omega) (Ev2.pos rfl ?_)));simp only[NN];rw[ename];exact Ev2.bind e (Ev2.pos rfl (Ev2.now _))
 have hrec:∀x∈rs++[b],Byt x/\x.length<=80:=λx hx=>by
  rcases NU.1 hx with hx|hx
  ·exact h.rcs x hx
  ·rw[N5.1 hx];exact hb
 have hjr:j<(c.jr.set j (rs++[b])).length/\(c.jr.set j (rs++[b])).getD j []=rs++[b]:=⟨by rw[NA];exact h.jr.1,ai _ _ _ _ h.jr.1⟩
 cases hr:r with
 |some g=>
  subst hr;obtain⟨g1,g2,g3⟩:=hf.rok g rfl;rw[Oq]at g2;have hgl:=lr g rfl;have e2:(c.B.set g (c.B.getD g []++fr b)).getD g []=frs rs++fr b:=by rw[ai _ _ _ _ g1,g2]
  have hs2:sumL (c.B.set g (c.B.getD g []++fr b)) (Mof t b0 (some g))=sumL c.B (Mof t b0 (some g))+(fr b).length:=by
   rw[fH,fH];have:lenO (c.B.set g (c.B.getD g []++fr b)) b0=lenO c.B b0:=by
    cases hb0:b0 with
    |none=>rfl
    |some g0=>rw[cV,cV,getD_set_ne _ _ _ (Ne.symm (hf.ne g0 g hb0 rfl))]
   rw[this,cV,cV,e2,g2,Ny];omega
  rcases HW (b:=fr b) (jk:=c.jk) (sf:=c.sf) h.dg h.jd hF (qY t b0 (some g)) (by omega) (vM t b0 (some g)) g1 (by omega)with⟨L',hL,hll,e⟩|⟨L',hL,hll,hne,e⟩
  ·refine .inr (.inl ⟨_,post _ _ _ _ e,rfl,⟨h.dg.next rfl hL,h.jd,h.jt,h.jb,hjr,h.jk,by simp only[NA];exact h.bsf,⟨b0,some g,hF,⟨hf.bz,λg0 hg0=>?_,hf.bl,λg0 hg0=>?_,λhn=>(by cases hn),hf.ne⟩⟩,?_,hrec,htb⟩,⟨rfl,rfl,hll.1,rfl,rfl,rfl,rfl,NA,rfl⟩,λu hu=>⟨hll.2 hu.1,by have:=hu.2;dsimp only at this ⊢;rw[hF]at this ⊢;rw[hs2];omega⟩⟩)
   ·obtain⟨q1,q2,q3⟩:=hf.bok g0 hg0;have hne:=Ne.symm (hf.ne g0 g hg0 rfl);dsimp only;rw[getD_set_ne _ _ _ hne,getD_set_ne _ _ _ hne,NA];exact⟨q1,q2,q3⟩
   ·cases hg0;dsimp only;rw[e2,NA,ai _ _ _ _ (by rw[h.bsf];exact g1),qc,g2,Oq];exact⟨g1,rfl,rfl⟩
   ·dsimp only;rw[hF,hs2];omega
  ·refine .inr (.inr ⟨_,crash _ _ _ _ _ _ e,rfl,⟨h.dg.hd,h.dg.hR,hrho,hL.h,by simp only[NA];exact h.dg.hS,ai _ _ _ _ h.dg.hS,by simp only[NA];exact h.bsf,?_,?_,?_,?_,?_,⟨b0,some g,?_,⟨hf.bz,λg0 hg0=>?_,hf.bl,λg0 hg0=>?_,λhn=>(by cases hn),hf.ne⟩⟩,h.rcs,.inr ⟨b,rfl,hb⟩,by omega⟩,⟨rfl,rfl,hll.1,by simp only[NA],rfl,rfl,rfl,rfl,by simp only[NA]⟩,λu hu=>hne hu.1⟩)
   ·dsimp only;rw[hF];exact BN t b0 (some g)
   ·dsimp only;rw[hF];exact BM t hf.ne
   ·dsimp only;rw[hF];have:=Fq t b0 (some g);omega
   ·dsimp only;rw[hF];refine A9 (λg0 hg0=>?_) (λg0 hg0=>?_)
    ·obtain⟨q1,q2,q3⟩:=hf.bok g0 hg0;have hne:=Ne.symm (hf.ne g0 g hg0 rfl);rw[getD_set_ne _ _ _ hne,NA];have:=lb g0 hg0;exact⟨q1,by omega,by omega,by omega⟩
    ·cases hg0;rw[e2,NA,g3,Ny];rw[g2]at hgl;exact⟨g1,by omega,by omega,by omega⟩
   ·dsimp only;rw[hF,hs2];omega
   ·dsimp only;rw[hF];exact vQ t b0 (some g)
   ·obtain⟨q1,q2,q3⟩:=hf.bok g0 hg0;have hne:=Ne.symm (hf.ne g0 g hg0 rfl);dsimp only;rw[getD_set_ne _ _ _ hne,NA];exact⟨q1,q2,q3⟩
   ·cases hg0;dsimp only;rw[e2,NA];exact⟨g1,rfl,g3⟩
 |none=>
  subst hr;obtain⟨z1,_⟩:=hf.rz rfl;subst z1;have hs2:sumL (c.B++[fr b]) (Mof t b0 (some c.B.length))=sumL c.B (Mof t b0 none)+(fr b).length:=by
   rw[fH,fH];have:lenO (c.B++[fr b]) b0=lenO c.B b0:=by
    cases hb0:b0 with
    |none=>rfl
    |some g0=>rw[cV,cV,bN _ _ _ (hf.bok g0 hb0).1]
   rw[this,cV,xF,bk];omega
  have hFs:(c.F.set d (aR (Mof t b0 none) ((2+t:Nat):Int) (some c.B.length))).getD d []=Mof t b0 (some c.B.length):=by rw[ai _ _ _ _ h.dg.hd,KQ]
  have hnel:∀g h,b0=some g->some c.B.length=some h->g≠h:=λg0 h0 q1 q2=>by cases q2;have:=(hf.bok g0 q1).1;omega
  rcases BD (b:=fr b) (jk:=c.jk) (sf:=c.sf) h.dg h.jd hF (qY t b0 none) (by omega) (vM t b0 none) h.bsf with⟨L',hL,hll,e⟩|⟨L',hL,hll,hne,e⟩
  ·have hf2:=hf.app (fr b) ((fr b).length:Int) h.bsf;refine .inr (.inl ⟨_,post _ _ _ _ e,rfl,⟨h.dg.next NA hL,h.jd,h.jt,h.jb,hjr,h.jk,by simp only[Ny,NC,NL];rw[h.bsf],⟨b0,some c.B.length,hFs,⟨hf.bz,hf2.bok,hf.bl,λg0 hg0=>?_,λhn=>(by cases hn),hnel⟩⟩,?_,hrec,htb⟩,⟨NA,rfl,hll.1,rfl,rfl,rfl,rfl,NA,rfl⟩,λu hu=>⟨hll.2 hu.1,by have:=hu.2;dsimp only at this ⊢;rw[hF]at this;rw[hFs,hs2];omega⟩⟩)
   ·cases hg0;dsimp only;rw[bk,aP _ _ _ h.bsf.symm,Ny,qc];simp[frs]
   ·dsimp only;rw[hFs,hs2];omega
  ·have hf2:=hf.app (fr b) 0 h.bsf;refine .inr (.inr ⟨_,crash _ _ _ _ _ _ e,rfl,⟨by dsimp only;rw[NA];exact h.dg.hd,h.dg.hR,hrho,hL.h,by simp only[NA];exact h.dg.hS,ai _ _ _ _ h.dg.hS,by simp only[Ny,NC,NL];rw[h.bsf],?_,?_,?_,?_,?_,⟨b0,some c.B.length,?_,⟨hf.bz,hf2.bok,hf.bl,λg0 hg0=>?_,λhn=>(by cases hn),hnel⟩⟩,h.rcs,.inr ⟨b,rfl,hb⟩,by omega⟩,⟨by simp only[NA],rfl,hll.1,by simp only[NA],rfl,rfl,rfl,rfl,by simp only[NA]⟩,λu hu=>hne hu.1⟩)
   ·dsimp only;rw[hFs];exact BN t b0 _
   ·dsimp only;rw[hFs];exact BM t hnel
   ·dsimp only;rw[hFs];have:=Fq t b0 (some c.B.length);omega
   ·dsimp only;rw[hFs];refine A9 (λg0 hg0=>?_) (λg0 hg0=>?_)
    ·obtain⟨q1,q2,q3⟩:=hf2.bok g0 hg0;have:=lb g0 hg0;rw[bN _ _ _ (hf.bok g0 hg0).1]at q3 ⊢;exact⟨q1,by omega,by omega,by omega⟩
    ·cases hg0;rw[bk,aP _ _ _ h.bsf.symm,Ny];exact⟨by simp,by omega,by omega,by omega⟩
   ·dsimp only;rw[hFs,hs2];omega
   ·dsimp only;rw[hFs];exact vQ t b0 _
   ·cases hg0;dsimp only;rw[bk,aP _ _ _ h.bsf.symm,Ny];simp[frs]
end Go.Eng.Top
namespace Go.Eng.Top
open Go.RowKit Go.Eng Go.Eng.LVar Go.Eng.LCrc Go.Eng.LFrm
set_option maxRecDepth 100000
theorem Bi (B:List (List Int)):∀(M N:MF),sumL B (M++N)=sumL B M+sumL B N
 |[],N=>by simp[sumL]
 |e::M,N=>by
  show(B.getD (e.2.getD 0) []).length+sumL B (M++N)=((B.getD (e.2.getD 0) []).length+sumL B M)+sumL B N;rw[Bi B M N];omega
theorem Eu {B:List (List Int)}{x:List Int}{t:Nat}{b r:Option Nat}(hb:∀g,b=some g->g<B.length)(hr:∀g,r=some g->g<B.length):sumL (B++[x]) (Mof t b r)=sumL B (Mof t b r):=by
 rw[fH,fH];have e:∀o:Option Nat,(∀g,o=some g->g<B.length)->lenO (B++[x]) o=lenO B o:=λo ho=>by
  cases o with
  |none=>rfl
  |some g=>rw[cV,cV,bN _ _ _ (ho g rfl)]
 rw[e b hb,e r hr]
theorem CO {c:DC}{j d rho t:Nat}{bs:List Int}{rs:List (List Int)}(h:JG c j d rho t bs rs){b r:Option Nat}(hF:c.F.getD d []=Mof t b r)(hf:Bb c.B c.sf t bs rs [] b r)(x:List Int)(y:Int)(hy:0<=y/\y<=(x.length:Int))(hx:sumL c.B (Mof t b r)+x.length<=rho)
  {L':List Int} {jd:List (Option Nat)} {jt:List Int} {jb:List (List Int)} {jr:List (List (List Int))} {jk:List Bool} (hL:d<L'.length):
  DSt ⟨c.F.set d (Mof t b r++[(1,some c.B.length)]),c.R,L',c.S.set d true,jd,jt,jb,jr,jk,c.B++[x],c.sf++[y]⟩ d rho t bs rs []:=by
 have hrho:=h.dg.rho;have htb:=h.tb;have hFs:(c.F.set d (Mof t b r++[(1,some c.B.length)])).getD d []=Mof t b r++[(1,some c.B.length)]:=ai _ _ _ _ h.dg.hd;have hf2:=hf.app x y h.bsf;obtain⟨lb,lr⟩:=iW (B:=c.B) (t:=t) (b:=b) (r:=r);have hbl:∀g,b=some g->g<c.B.length:=λg hg=>(hf.bok g hg).1
 have hrl:∀g,r=some g->g<c.B.length:=λg hg=>(hf.rok g hg).1
 refine⟨by dsimp only;rw[NA];exact h.dg.hd,h.dg.hR,hrho,hL,by dsimp only;rw[NA];exact h.dg.hS,ai _ _ _ _ h.dg.hS,by dsimp only;rw[Ny,Ny,h.bsf];rfl,?_,?_,?_,?_,?_,⟨b,r,?_,hf2⟩,h.rcs,.inl rfl,by omega⟩
 ·dsimp only;rw[hFs];exact Fg t b r _
 ·dsimp only;rw[hFs];exact Fe t hf.ne hbl hrl
 ·dsimp only;rw[hFs,Ny];have:=Fq t b r;simp only[NC,NL];omega
 ·dsimp only;rw[hFs];intro e he;rcases NU.1 he with he|he
  ·refine A9 (P:=λg=>g<(c.B++[x]).length/\((c.B++[x]).getD g []).length<=1000000/\0<=(c.sf++[y]).getD g 0/\(c.sf++[y]).getD g 0<=(((c.B++[x]).getD g []).length:Int)) (λg0 hg0=>?_) (λg0 hg0=>?_) e he
   ·obtain⟨q1,q2,q3⟩:=hf2.bok g0 hg0;have:=lb g0 hg0;rw[bN _ _ _ (hbl g0 hg0)]at q3 ⊢;exact⟨q1,by omega,by omega,by omega⟩
   ·obtain⟨q1,q2,q3⟩:=hf2.rok g0 hg0;have:=lr g0 hg0;rw[bN _ _ _ (hrl g0 hg0)]at q2 ⊢;rw[Oq]at q2;rw[q3,q2]at *;exact⟨q1,by omega,by omega,by omega⟩
  ·rw[N5.1 he];refine⟨c.B.length,rfl,by simp,?_⟩;rw[bk,aP _ _ _ h.bsf.symm];exact⟨by omega,by omega,by omega⟩
 ·dsimp only;rw[hFs,Bi,Eu hbl hrl];simp only[sumL,NN];rw[bk];omega
 ·dsimp only;rw[hFs];exact FF t b r _
noncomputable abbrev jV (k j:Nat)(b:List Int)(c:DC):=CF k Gb qS [inj (.ref 99) (some j),inj BB b,Ci c.F,Cj c.R,Ck c.L,Cl c.S,Co c.jd,Cp c.jt,Cq c.jb,Cr c.jr,Cs c.jk,Ct c.B,Cu c.sf]
abbrev jy (e:Option Int)(c:DC):R11:=(e,c.F,c.R,c.L,c.S,c.jd,c.jt,c.jb,c.jr,c.jk,c.B,c.sf)
theorem KZ (c:DC){j d rho t:Nat}{bs:List Int}{rs:List (List Int)}(h:JG c j d rho t bs rs)(b:List Int)(hb:Byt b/\b.length<=1000000)(ht:t<1000000):
  (∃e,(e=13/\16384<(encs [((t+1:Nat):Int)]++b).length\/e=8)/\Ev1 (λk=>jV k j b c) (jy (some e) c)) \/
  (∃c',Ev1 (λk=>jV k j b c) (jy none c')/\JG c' j d rho (t+1) b []/\Lens c c') \/
  (∃c',Ev1 (λk=>jV k j b c) (jy (some 12) c')/\(DSt c' d rho t bs rs []\/DSt c' d rho (t+1) b [] [])/\Lens c c'):=by
 obtain⟨b0,r,hF,hf⟩:=h.files;have hsum:=h.sum;have hrho:=h.dg.rho;rw[hF]at hsum;have e1:w64 (c.jt.getD j 0+1)=((t+1:Nat):Int):=by rw[h.jt.2,bP (by omega) (by omega)];omega
 have e2:w64 (2+c.jt.getD j 0)=((2+t:Nat):Int):=by rw[h.jt.2,bP (by omega) (by omega)];omega
 have hi:I64 [((t+1:Nat):Int)]:=by simp[I64];omega
 have hl:=aG hi;simp only[NC,NL]at hl;have hbyt:Byt (encs [((t+1:Nat):Int)]++b):=Byt.append (ny _) hb.1;have hm:=Fv (encs [((t+1:Nat):Int)]++b) (by rw[Ny];omega);have st:=λk=>Gz k (some j) b c.F c.R c.L c.S c.jd c.jt c.jb c.jr c.jk c.B c.sf _ rfl _ rfl _ rfl _ rfl _ rfl _ rfl
 by_cases hbig:16384<(encs [((t+1:Nat):Int)]++b).length
 ·rw[NI hbig]at hm;refine .inl ⟨13,.inl ⟨rfl,hbig⟩,Ev1.step st (Ev1.pos rfl (Ev1.neg h.jk.2 (Ev1.pos rfl ?_)))⟩;simp only[NN];rw[e1];exact Ev1.bind (jo _ hi (by simp)) (Ev1.posD (by omega) (Ev1.bind hm (Ev1.pos rfl (Ev1.now _))))
 rw[ND hbig]at hm;have hfl:=jh (encs [((t+1:Nat):Int)]++b);have hxe:fr (encs [((t+1:Nat):Int)]++b)=fr (encs [((t+1:Nat):Int)]++b):=rfl;generalize hx:fr (encs [((t+1:Nat):Int)]++b)=x at hm hfl
 -- up to the bytes' laying
 by_cases hroom:rho<sumL c.B (Mof t b0 r)+x.length
 ·refine .inl ⟨8,.inr rfl,Ev1.step st (Ev1.pos rfl (Ev1.neg h.jk.2 (Ev1.pos rfl ?_)))⟩;simp only[NN];rw[e1];exact Ev1.bind (jo _ hi (by simp)) (Ev1.posD (by omega) (Ev1.bind hm (Ev1.neg rfl (Ev1.bind (BE (b:=x) h.dg h.jd hF (qY t b0 r) (by omega) (by omega) hroom) (Ev1.pos rfl (Ev1.now _))))))
 rcases BD (b:=x) (jk:=c.jk) (sf:=c.sf) h.dg h.jd hF (qY t b0 r) (by omega) (KR t b0 r) h.bsf with⟨L1,hL1,hl1,ep⟩|⟨L1,hL1,hl1,_,ep⟩
 rotate_left
 ·refine .inr (.inr ⟨⟨c.F.set d (Mof t b0 r++[(1,some c.B.length)]),c.R,L1,c.S.set d true,c.jd,c.jt,c.jb,c.jr,c.jk.set j true,c.B++[x],c.sf++[0]⟩,Ev1.step st (Ev1.pos rfl (Ev1.neg h.jk.2 (Ev1.pos rfl ?_))),.inl (CO h hF hf x 0 ⟨Qv _,by omega⟩ (by omega) hL1.h),⟨NA,rfl,hl1.1,NA,rfl,rfl,rfl,rfl,NA⟩⟩);simp only[NN];rw[e1];rw[BO]at ep;exact Ev1.bind (jo _ hi (by simp)) (Ev1.posD (by omega) (Ev1.bind hm (Ev1.neg rfl (Ev1.bind ep (Ev1.pos rfl (Ev1.now _))))))
 have d1:Dg (c.F.set d (aR (Mof t b0 r) 1 (some c.B.length))) c.R L1 c.S d rho:=h.dg.next NA hL1;have hF1:(c.F.set d (aR (Mof t b0 r) 1 (some c.B.length))).getD d []=aR (Mof t b0 r) 1 (some c.B.length):=ai _ _ _ [] h.dg.hd;rcases HQ d1 hF1 (from_:=1) (to_:=0) (ox (Mof t b0 r) 1 (some c.B.length))with⟨L2,hL2,hl2,er⟩|⟨_,er⟩
 rotate_left
 ·refine .inr (.inr ⟨⟨c.F.set d (Mof t b0 r++[(1,some c.B.length)]),c.R,L1,c.S.set d true,c.jd,c.jt,c.jb,c.jr,c.jk.set j true,c.B++[x],c.sf++[(x.length:Int)]⟩,Ev1.step st (Ev1.pos rfl (Ev1.neg h.jk.2 (Ev1.pos rfl ?_))),.inl (CO h hF hf x (x.length:Int) ⟨by omega,Qv _⟩ (by omega) hL1.h),⟨NA,rfl,hl1.1,NA,rfl,rfl,rfl,rfl,NA⟩⟩);simp only[NN];rw[e1,e2];rw[<- BO];refine Ev1.bind (jo _ hi (by simp)) (Ev1.posD (by omega) (Ev1.bind hm (Ev1.neg rfl (Ev1.bind ep (Ev1.neg rfl (Ev1.pos rfl ?_))))));simp only[];rw[h.jd];exact Ev1.bind er (Ev1.pos rfl (Ev1.bind oI (Ev1.now _)))
 -- it is the snapshot now
 have hbl:∀g,b0=some g->g<c.B.length:=λg hg=>(hf.bok g hg).1
 have hrl:∀g,r=some g->g<c.B.length:=λg hg=>(hf.rok g hg).1
 have po:∀(R:R11) (M2:MF),aR (cx (aR (Mof t b0 r) 1 (some c.B.length)) 1) 0 (some c.B.length)=M2 ->
   Ev1 (λk=>((CF k rX gz [inj (.ref 29) (some d),inj (.int .i64) ((2+t:Nat):Int),Ci ((c.F.set d (aR (Mof t b0 r) 1 (some c.B.length))).set d M2),Ct (c.B++[x])]).bind λr_4=>
    (bif r_4.2.1 then(bif(some j).isSome then((CF k gQ cT [inj (.ref 29) (some d),inj (.int .i64) ((2+t:Nat):Int),Ci r_4.2.2.1,Ck L2,Cl c.S]).bind λr_5=>
     ((CF k nu ee [inj (.ref 99) (some j),inj .err r_5.1,Cs c.jk]).bind λr_6=>
      some (r_6.1,r_5.2.1,c.R,r_5.2.2.1,r_5.2.2.2,c.jd,c.jt.set j ((t+1:Nat):Int),c.jb.set j b,c.jr.set j [],r_6.2,r_4.2.2.2,c.sf++[(x.length:Int)])))else none)
     else some (none,r_4.2.2.1,c.R,L2,c.S,c.jd,c.jt.set j ((t+1:Nat):Int),c.jb.set j b,c.jr.set j [],c.jk,r_4.2.2.2,c.sf++[(x.length:Int)])):Option R11)) R ->
   Ev1 (λk=>jV k j b c) R:=λR M2 hM2 hR=>by
  subst hM2;refine Ev1.step st (Ev1.pos rfl (Ev1.neg h.jk.2 (Ev1.pos rfl ?_)));simp only[NN];rw[e1,e2];refine Ev1.bind (jo _ hi (by simp)) (Ev1.posD (by omega) (Ev1.bind hm (Ev1.neg rfl (Ev1.bind ep (Ev1.neg rfl (Ev1.pos rfl ?_))))));simp only[];rw[h.jd];exact Ev1.bind er (Ev1.neg rfl (Ev1.pos rfl (Ev1.pos rfl (Ev1.pos rfl (Ev1.posD (by omega) (Ev1.pos rfl (Ev1.pos rfl (Ev1.pos rfl hR))))))))
 -- done
 have files1:Bb (c.B++[x]) (c.sf++[(x.length:Int)]) (t+1) b [] [] (some c.B.length) none:=by
  refine⟨by simp,λg hg=>?_,λ_=>⟨by omega,hb.1⟩,λg hg=>(by cases hg),λ_=>⟨rfl,rfl⟩,λ_ _ _ hg=>(by cases hg)⟩;cases hg;rw[bk,aP _ _ _ h.bsf.symm,Ny];exact⟨by simp,hx.symm,rfl⟩
 have done:∀F3 L3,F3.length=c.F.length->OkL L3 d->L3.length=c.L.length->F3.getD d []=Mof (t+1) (some c.B.length) none ->
   JG ⟨F3,c.R,L3,c.S,c.jd,c.jt.set j ((t+1:Nat):Int),c.jb.set j b,c.jr.set j [],c.jk,c.B++[x],c.sf++[(x.length:Int)]⟩ j d rho (t+1) b []:=λF3 L3 q1 q2 q3 q4=>by
  refine⟨h.dg.next q1 q2,h.jd,⟨by rw[NA];exact h.jt.1,ai _ _ _ _ h.jt.1⟩,by dsimp only;rw[NA];exact h.jb,⟨by rw[NA];exact h.jr.1,ai _ _ _ _ h.jr.1⟩,h.jk,by dsimp only;rw[Ny,Ny,h.bsf];rfl,⟨some c.B.length,none,q4,files1⟩,?_,λx hx=>(by cases hx),by omega⟩;dsimp only;rw[q4,fH,cV,xF,bk];omega
 cases r with
 |none=>
  have hset:((c.F.set d (aR (Mof t b0 none) 1 (some c.B.length))).set d [(0,some c.B.length)]).getD d []=([(0,some c.B.length)]:MF):=ai _ _ _ [] (by rw[NA];exact h.dg.hd);refine .inr (.inl ⟨_,po _ _ (vL t b0 none c.B.length) (Ev1.bind (qD hset ?_) (Ev1.neg rfl (Ev1.now (jy none ⟨_,c.R,L2,c.S,c.jd,c.jt.set j ((t+1:Nat):Int),c.jb.set j b,c.jr.set j [],c.jk,c.B++[x],c.sf++[(x.length:Int)]⟩)))),done _ _ (by simp) hL2 (hl2.1.trans hl1.1) hset,⟨by simp,rfl,hl2.1.trans hl1.1,rfl,rfl,NA,NA,NA,rfl⟩⟩);simp only[aO,NF (ne0 t),NS]
 |some g=>
  have hg:=hf.rok g rfl;have hgl:=(iW (B:=c.B) (t:=t) (b:=b0) (r:=some g)).2 g rfl;have hgl2:((c.B++[x]).getD g []).length<=1000000:=by rw[bN _ _ _ hg.1];omega
  have key:∀M2:MF,aR (cx (aR (Mof t b0 (some g)) 1 (some c.B.length)) 1) 0 (some c.B.length)=M2->aO none M2 ((2+t:Nat):Int)=some g->cx M2 ((2+t:Nat):Int)=Mof (t+1) (some c.B.length) none ->
    nodI (M2.map (·.1))=true->nodN (M2.map λe=>e.2.getD 0)=true->M2.length=2->(∀e∈M2,e.2=some c.B.length\/e.2=some g)->sumL (c.B++[x]) M2=x.length+(c.B.getD g []).length->M2.filter (gC (t+1))=Mof (t+1) (some c.B.length) none ->
    (∃c',Ev1 (λk=>jV k j b c) (jy none c')/\JG c' j d rho (t+1) b []/\Lens c c') \/
    (∃c',Ev1 (λk=>jV k j b c) (jy (some 12) c')/\(DSt c' d rho t bs rs []\/DSt c' d rho (t+1) b [] [])/\Lens c c'):=λM2 hM2 k1 k2 k3 k4 k5 k6 k7 k8=>by
   have hset:((c.F.set d (aR (Mof t b0 (some g)) 1 (some c.B.length))).set d M2).getD d []=M2:=ai _ _ _ [] (by rw[NA];exact h.dg.hd);have d2:Dg ((c.F.set d (aR (Mof t b0 (some g)) 1 (some c.B.length))).set d M2) c.R L2 c.S d rho:=h.dg.next (by simp) hL2;rcases HR d2 hset k1 with⟨L3,hL3,hl3,em⟩|⟨_,em⟩
   ·refine .inl ⟨_,po _ M2 hM2 (Ev1.bind (kj hset k1 hgl2) (Ev1.pos rfl (Ev1.pos rfl (Ev1.bind em (Ev1.bind r9 (Ev1.now (jy none ⟨_,c.R,L3,c.S,c.jd,c.jt.set j ((t+1:Nat):Int),c.jb.set j b,c.jr.set j [],c.jk,c.B++[x],c.sf++[(x.length:Int)]⟩))))))),done _ _ (by simp) hL3 (hl3.1.trans (hl2.1.trans hl1.1)) ?_,⟨by simp,rfl,hl3.1.trans (hl2.1.trans hl1.1),rfl,rfl,NA,NA,NA,rfl⟩⟩;rw[ai _ _ _ _ d2.hd,k2]
   ·refine .inr ⟨_,po _ M2 hM2 (Ev1.bind (kj hset k1 hgl2) (Ev1.pos rfl (Ev1.pos rfl (Ev1.bind em (Ev1.bind oI (Ev1.now (jy (some 12) ⟨_,c.R,L2,c.S.set d true,c.jd,c.jt.set j ((t+1:Nat):Int),c.jb.set j b,c.jr.set j [],c.jk.set j true,c.B++[x],c.sf++[(x.length:Int)]⟩))))))),.inr ?_,⟨by simp,rfl,hl2.1.trans hl1.1,NA,rfl,NA,NA,NA,NA⟩⟩;refine⟨d2.hd,h.dg.hR,hrho,hL2.h,by dsimp only;rw[NA];exact h.dg.hS,ai _ _ _ _ h.dg.hS,by dsimp only;rw[Ny,Ny,h.bsf];rfl,by dsimp only;rw[hset];exact k3,by dsimp only;rw[hset];exact k4,by dsimp only;rw[hset];omega,?_,?_,⟨some c.B.length,none,by dsimp only;rw[hset];exact k8,files1⟩,λx hx=>(by cases hx),.inl rfl,by omega⟩
    ·dsimp only;rw[hset];intro e he;rcases k6 e he with q|q
     ·refine⟨_,q,by rw[Ny];simp,?_⟩;rw[bk,aP _ _ _ h.bsf.symm];exact⟨by omega,by omega,Qv _⟩
     ·refine⟨_,q,by rw[Ny];have:=hg.1;omega,hgl2,?_⟩;rw[bN _ _ _ hg.1,bN _ _ _ (by rw[h.bsf];exact hg.1),hg.2.2,hg.2.1,Oq];exact⟨by omega,Qv _⟩
    ·dsimp only;rw[hset,k7];rw[fH,cV]at hroom;omega
  have hgne:g≠c.B.length:=by have:=hg.1;omega
  have hz:gC (t+1) (((2+t:Nat):Int),some g)=false:=by
   unfold gC;rw[NF (ne2 t),NF (show ¬ (((2+t:Nat):Int)=((2+(t+1):Nat):Int)) by omega)];rfl
  have hk0:gC (t+1) (0,some c.B.length)=true:=by unfold gC;rw[NK rfl];rfl
  have e01:¬ ((0:Int)=((2+t:Nat):Int)):=ne0 t;have e10:¬ (((2+t:Nat):Int)=(0:Int)):=ne2 t;cases b0 with
  |none=>
   refine .inr (key [(((2+t:Nat):Int),some g),(0,some c.B.length)] (vL t none (some g) c.B.length) (by simp only[aO,OZ,NH]) (by simp only[cx,OZ,NH,Mof]) ?_ ?_ rfl (λe he=>?_) ?_ ?_)
   ·simp only[NV,OY,nodI,OM,Pb,O9,Pd,O2,OK e10]
   ·simp only[NV,OY,nodN,NN,OM,Pb,O9,Pd,O2,OK hgne]
   ·simp only[NO,Oc,ON]at he;rcases he with he|he
    ·rw[he];exact .inr rfl
    ·rw[he];exact .inl rfl
   ·simp only[sumL,NN];rw[bk,bN _ _ _ hg.1];omega
   ·rw[O4,hz,O4,hk0];rfl
  |some g0=>
   refine .inr (key [(0,some c.B.length),(((2+t:Nat):Int),some g)] (vL t (some g0) (some g) c.B.length) (by simp only[aO,NF e01,NS,OZ,NH]) (by simp only[cx,NF e01,NS,OZ,NH,Mof]) ?_ ?_ rfl (λe he=>?_) ?_ ?_)
   ·simp only[NV,OY,nodI,OM,Pb,O9,Pd,O2,OK e01]
   ·simp only[NV,OY,nodN,NN,OM,Pb,O9,Pd,O2,OK hgne.symm]
   ·simp only[NO,Oc,ON]at he;rcases he with he|he
    ·rw[he];exact .inl rfl
    ·rw[he];exact .inr rfl
   ·simp only[sumL,NN];rw[bk,bN _ _ _ hg.1];omega
   ·rw[O4,hk0,O4,hz];rfl
end Go.Eng.Top
