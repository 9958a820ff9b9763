/- Definitions and lemmas for the law TopEffect: what the program's functions come to. Conditions: as each lemma says. -/
import Derived.Test.YtbbnmhmfdbcmhaaGreatDoorF7
import Derived.Test.YtbbnmhmfdbcmhaaGreatDoorF6
import Derived.Test.YtbbnmhmfdbcmhaaGreatDoorF4
import Derived.Test.YtbbnmhmfdbcmhaaGreatDoorProg
import Derived.StillTailTactics
import Derived.Below
import Derived.WalkKit
import Derived.LaidEql
import Derived.Stop.Asserts
import Derived.RowKitTokens
import Derived.Test.YtbbnmhmfdbcmhaaGreatDoorRows
import Derived.ChangeSame
import Derived.ChangeVars
import Derived.JoinedOf
import Derived.RowKit
import Derived.LaidLaws
import Derived.LaidHandle
import Derived.Stop.Joined
set_option linter.all false
set_option linter.unusedVariables false
set_option linter.unusedSimpArgs false
set_option linter.deprecated false
namespace Go.Eng.Top
open Go.RowKit Go.Eng Go.Eng.LVar Go.Eng.LCrc Go.Eng.LFrm
set_option maxRecDepth 100000
theorem Ff {x:Nat}{l:List Nat}(h:nodN (x::l)=true):x ∉ l/\nodN l=true:=by
 have h:(!l.contains x&&nodN l)=true:=h;rw[NM]at h;refine⟨λhx=>?_,h.2⟩;have h1:=h.1;rw[show l.contains x=true from OL.2 hx]at h1;cases h1
theorem mQ {x:Int}{l:List Int}(h:nodI (x::l)=true):x ∉ l/\nodI l=true:=by
 have h:(!l.contains x&&nodI l)=true:=h;rw[NM]at h;refine⟨λhx=>?_,h.2⟩;have h1:=h.1;rw[show l.contains x=true from OL.2 hx]at h1;cases h1
theorem uw:∀{l:List Int},nodI l=true->l.Nodup
 |[],_=>P7
 |x::l,h=>Pn.2 ⟨(mQ h).1,uw (mQ h).2⟩
theorem Bu (keep:Int):∀(M:MF)(B:List (List Int))(sf:List Int),sf.length=B.length->nodN (M.map λe=>e.2.getD 0)=true ->
  (∀e∈M,∃g,e.2=some g/\g<B.length/\(B.getD g []).length<=1000000/\0<=sf.getD g 0/\sf.getD g 0<=((B.getD g []).length:Int)) ->
  ∃B' sf',zB keep M B sf=some (B',sf')/\B'.length=B.length/\sf'.length=sf.length /\
   (∀e∈M,∀g,e.2=some g->∃q:Nat,sf.getD g 0<=(q:Int)/\q<=(B.getD g []).length/\B'.getD g []=(B.getD g []).take q/\sf'.getD g 0=(q:Int)) /\
   (∀g,(∀e∈M,e.2≠some g)->B'.getD g []=B.getD g []/\sf'.getD g 0=sf.getD g 0)
 |[],B,sf,_,_,_=>⟨B,sf,rfl,rfl,rfl,λe he=>(by cases he),λ_ _=>⟨rfl,rfl⟩⟩
 |e::M,B,sf,hl,hn,h=>by
  obtain⟨g,eg,h1,h2,h3,h4⟩:=h e (Om ..);obtain⟨s,hs⟩:=Oj h3;obtain⟨n1,n2⟩:=Ff hn;have hne:∀x∈M,x.2≠some g:=λx hx e2=>n1 (N9.2 ⟨x,hx,by dsimp only;rw[e2,eg]⟩)
  obtain⟨q,k1,k2,k3,_⟩:=Go.Proofs.Due.keptN_eq keep (B.getD g []).length s (by omega) (by omega);have ek:ma keep ((B.getD g []).length:Int) (sf.getD g 0)=(q:Int):=by rw[hs];exact k1
  obtain⟨B',sf',r1,r2,r3,r4,r5⟩:=Bu keep M (B.set g ((B.getD g []).take q)) (sf.set g (q:Int)) (by rw[NA,NA];exact hl) n2 (λx hx=>by
   obtain⟨g2,e2,p1,p2,p3,p4⟩:=h x (NW _ hx);have hne2:g≠g2:=λe3=>hne x hx (by rw[e3];exact e2)
   refine⟨g2,e2,by rw[NA];exact p1,?_⟩;rw[getD_set_ne _ _ _ hne2,getD_set_ne _ _ _ hne2];exact⟨p2,p3,p4⟩)
  refine⟨B',sf',?_,by rw[r2,NA],by rw[r3,NA],λx hx g2 e2=>?_,λg2 h5=>?_⟩
  ·unfold zB;rw[eg];simp only[];rw[ek,NQ];have c:(Nat.blt g B.length&&(Nat.blt g sf.length&&(Nat.ble (B.getD g []).length 1000000&&(decide (0<=sf.getD g 0)&&decide (sf.getD g 0<=((B.getD g []).length:Int))))))=true:=by
    rw[show Nat.blt g B.length=true from On h1,show Nat.blt g sf.length=true from On (by omega),On h2,NK h3,NK h4];rfl
   rw[c,NH];exact r1
  ·rcases NO.1 hx with hx|hx
   ·rw[hx,eg]at e2;cases e2;obtain⟨r6,r7⟩:=r5 g hne;refine⟨q,by rw[hs];omega,k3,?_,?_⟩
    ·rw[r6,ai _ _ _ _ h1]
    ·rw[r7,ai _ _ _ _ (by omega)]
   ·have hne2:g≠g2:=λe3=>hne x hx (by rw[e3];exact e2)
    obtain⟨q2,p1,p2,p3,p4⟩:=r4 x hx g2 e2;rw[getD_set_ne _ _ _ hne2]at p1 p2 p3;exact⟨q2,p1,p2,p3,p4⟩
  ·have hne2:g≠g2:=λe3=>h5 e (Om ..) (by rw[eg,e3])
   obtain⟨r6,r7⟩:=r5 g2 (λx hx=>h5 x (NW _ hx));rw[getD_set_ne _ _ _ hne2]at r6 r7;exact⟨r6,r7⟩
structure RS (c:DC)(d rho t:Nat)(bs:List Int)(rs:List (List Int))(p:List Int):Prop where
 hd:d<c.F.length
 hR:c.R.getD d 0=(rho:Int)
 rhl:rho<=262144
 hL:d<c.L.length
 left:c.L.getD d 0=-1
 hS:d<c.S.length
 live:c.S.getD d false=false
 bsf:c.sf.length=c.B.length
 nk:nodI ((c.F.getD d []).map (·.1))=true
 l3:(c.F.getD d []).length<=3
 all:∀e∈c.F.getD d [],∃g,e.2=some g/\g<c.B.length/\(c.B.getD g []).length<=1000000
 sum:sumL c.B (c.F.getD d [])<=rho
 files:∃b r,(c.F.getD d []).filter (gC t)=Mof t b r/\(b=none ↔ t=0)/\(∀g,b=some g->g<c.B.length/\c.B.getD g []=fr (encs [(t:Int)]++bs)/\c.sf.getD g 0=((c.B.getD g []).length:Int)) /\
  (t≠0->(encs [(t:Int)]++bs).length<=16384/\Byt bs)/\(∀h,r=some h->h<c.B.length/\c.B.getD h []=frs rs++p/\c.sf.getD h 0=((frs rs++p).length:Int))/\(r=none->rs=[]/\p=[])/\(∀g h,b=some g->r=some h->g≠h)
 rcs:∀x∈rs,Byt x/\x.length<=80
 pok:torn p
 tb:t<=1000001
theorem zn {B B':List (List Int)}:∀(M:MF),(∀e∈M,(B'.getD (e.2.getD 0) []).length<=(B.getD (e.2.getD 0) []).length)->sumL B' M<=sumL B M
 |[],_=>NG _
 |e::M,h=>by
  have h1:=h e (Om ..);have h2:=zn M λx hx=>h x (NW _ hx)
  unfold sumL;omega
theorem zN {t:Nat}{b r:Option Nat}:(∀g,b=some g->∃e∈Mof t b r,e.2=some g)/\(∀g,r=some g->∃e∈Mof t b r,e.2=some g):=by
 cases b<;>cases r<;>refine⟨λg hg=>?_,λg hg=>?_⟩<;>cases hg<;>simp[Mof]
theorem EP {c:DC}{d rho t:Nat}{bs:List Int}{rs:List (List Int)}{p:List Int}(h:DSt c d rho t bs rs p)(keep:Int):
  ∃B' sf' rs' p',Ev1 (λk=>CF k kS iq [inj (.ref 29) (some d),inj (.int .i64) keep,Ci c.F,Ck c.L,Cl c.S,Ct c.B,Cu c.sf]) (c.F,c.L.set d (-1),c.S.set d false,B',sf') /\
   (rs'=rs\/∃e,p=fr e/\rs'=rs++[e])/\∀jd jt jb jr jk,RS ⟨c.F,c.R,c.L.set d (-1),c.S.set d false,jd,jt,jb,jr,jk,B',sf'⟩ d rho t bs rs' p':=by
 obtain⟨B',sf',r1,r2,r3,r4,_⟩:=Bu keep (c.F.getD d []) c.B c.sf h.bsf h.ni h.all;have hev:Ev1 (λk=>CF k kS iq [inj (.ref 29) (some d),inj (.int .i64) keep,Ci c.F,Ck c.L,Cl c.S,Ct c.B,Cu c.sf]) (c.F,c.L.set d (-1),c.S.set d false,B',sf'):=by
  refine Ev1.step (λk=>(rfl:CF (k+1) kS iq [inj (.ref 29) (some d),inj (.int .i64) keep,Ci c.F,Ck c.L,Cl c.S,Ct c.B,Cu c.sf]=ER (some d) keep c.F c.L c.S c.B c.sf)) (Ev1.const ?_);show(bif nodN ((c.F.getD d []).map (λe=>e.2.getD 0))&&Nat.blt d c.S.length&&Nat.blt d c.L.length then(match zB keep (c.F.getD d []) c.B c.sf with
   |some p=>some (c.F,c.L.set d (-1),c.S.set d false,p.1,p.2)
   |none=>none)else none)=_
  rw[h.ni,show Nat.blt d c.S.length=true from On h.hS,show Nat.blt d c.L.length=true from On h.hL,r1];rfl
 obtain⟨b,r,hF,hf⟩:=h.files;have hmem:∀e,e∈Mof t b r->e∈c.F.getD d []:=λe he=>by rw[<- hF]at he;exact(PC.1 he).1
 have hb:∀g,b=some g->g<B'.length/\B'.getD g []=fr (encs [(t:Int)]++bs)/\sf'.getD g 0=((B'.getD g []).length:Int):=λg hg=>by
  obtain⟨e,he,e2⟩:=zN (t:=t) (r:=r) |>.1 g hg;obtain⟨q1,q2,q3⟩:=hf.bok g hg;obtain⟨q,p1,p2,p3,p4⟩:=r4 e (hmem e he) g e2;have:q=(c.B.getD g []).length:=by omega
  rw[this,Qd]at p3;rw[p3,q2,p4,this,q2,r2];exact⟨q1,rfl,rfl⟩
 have hall:∀e∈c.F.getD d [],∃g,e.2=some g/\g<B'.length/\(B'.getD g []).length<=1000000:=λe he=>by
  obtain⟨g,e2,q1,q2,_⟩:=h.all e he;obtain⟨q,p1,p2,p3,p4⟩:=r4 e he g e2;refine⟨g,e2,by omega,?_⟩;rw[p3,OA];omega
 have hsum:sumL B' (c.F.getD d [])<=rho:=Oa (zn _ λe he=>by
  obtain⟨g,e2,q1,q2,_⟩:=h.all e he;obtain⟨q,p1,p2,p3,p4⟩:=r4 e he g e2;rw[e2];simp only[NN];rw[p3,OA];omega) h.sum
 have mk:∀(rs':List (List Int)) (p':List Int),(∀h0,r=some h0->B'.getD h0 []=frs rs'++p'/\sf'.getD h0 0=((frs rs'++p').length:Int))->(r=none->rs'=[]/\p'=[])->(∀x∈rs',Byt x/\x.length<=80)->torn p' ->
   ∀jd jt jb jr jk,RS ⟨c.F,c.R,c.L.set d (-1),c.S.set d false,jd,jt,jb,jr,jk,B',sf'⟩ d rho t bs rs' p':=λrs' p' k1 k2 k3 k4 jd jt jb jr jk=>
  ⟨h.hd,h.hR,h.rhl,by dsimp only;rw[NA];exact h.hL,ai _ _ _ _ h.hL,by dsimp only;rw[NA];exact h.hS,ai _ _ _ _ h.hS,by dsimp only;rw[r2,r3];exact h.bsf,h.nk,h.l3,hall,hsum,
   ⟨b,r,hF,hf.bz,hb,hf.bl,λh0 hh=>⟨by dsimp only;rw[r2];exact(hf.rok h0 hh).1,k1 h0 hh⟩,k2,hf.ne⟩,k3,k4,h.tb⟩
 cases hr:r with
 |none=>
  obtain⟨z1,z2⟩:=hf.rz hr;exact⟨B',sf',rs,[],hev,.inl rfl,mk rs [] (λh0 hh=>by rw[hr]at hh;cases hh) (λ_=>⟨z1,rfl⟩) h.rcs pP⟩
 |some g=>
  obtain⟨e,he,e2⟩:=zN (t:=t) (b:=b) |>.2 g hr;obtain⟨q1,q2,q3⟩:=hf.rok g hr;obtain⟨q,p1,p2,p3,p4⟩:=r4 e (hmem e he) g e2;rw[q2]at p2 p3;rw[q3]at p1;have et:(frs rs++p).take q=frs rs++p.take (q-(frs rs).length):=by
   rw[List.take_append,O0 (by omega)]
  rw[et]at p3;rw[Ny]at p2;have el:((frs rs++p.take (q-(frs rs).length)).length:Int)=(q:Int):=by rw[Ny,OA];omega
  have fin:∀rs' p',frs rs++p.take (q-(frs rs).length)=frs rs'++p'->(∀h0,r=some h0->B'.getD h0 []=frs rs'++p'/\sf'.getD h0 0=((frs rs'++p').length:Int)):=λrs' p' e0 h0 hh=>by
   rw[hr]at hh;cases hh;rw[<- e0,p3,p4,el];exact⟨rfl,rfl⟩
  have nn:∀(rs':List (List Int)) (p':List Int),r=none->rs'=[]/\p'=[]:=λ_ _ hh=>by rw[hr]at hh;cases hh
  rcases h.pok with hp|⟨e0,hp,hb1,hb2⟩
  ·exact⟨B',sf',rs,[],hev,.inl rfl,mk rs [] (fin rs [] (by rw[hp];simp)) (nn _ _) h.rcs pP⟩
  ·have hfl:=jh e0;by_cases hq:(fr e0).length<=q-(frs rs).length
   ·refine⟨B',sf',rs++[e0],[],hev,.inr ⟨e0,hp,rfl⟩,mk _ [] (fin (rs++[e0]) [] ?_) (nn _ _) (λx hx=>?_) pP⟩
    ·rw[hp,O0 hq,qc,Oq]
    ·rcases NU.1 hx with hx|hx
     ·exact h.rcs x hx
     ·rw[N5.1 hx];exact⟨hb1,hb2⟩
   ·exact⟨B',sf',rs,(fr e0).take (q-(frs rs).length),hev,.inl rfl,mk rs _ (fin rs _ (by rw[hp])) (nn _ _) h.rcs (Hv hb1 (by omega) _ (by omega))⟩
theorem m7:∀(M:MF)(n:Int),nodI (M.map (·.1))=true->cx M n=M.filter λe=>!decide (e.1=n)
 |[],_,_=>rfl
 |e::r,n,h=>by
  obtain⟨h1,h2⟩:=mQ h;unfold cx;by_cases he:e.1=n
  ·rw[NK he,NH,O4,NK he];symm;refine Qs.2 λx hx=>?_
   rw[NF];· rfl
   intro hx2;exact h1 (N9.2 ⟨x,hx,hx2.trans he.symm⟩)
  ·rw[NF he,NS,O4,NF he,m7 r n h2];rfl
theorem oy:∀(M:MF)(n:Int),(∀e∈M,∃g,e.2=some g)->n∈M.map (·.1)->∃g,aO none M n=some g/\(n,some g)∈M
 |[],n,_,h=>by cases h
 |e::r,n,ha,h=>by
  obtain⟨g,hg⟩:=ha e (Om ..);by_cases he:e.1=n
  ·refine⟨g,by unfold aO;rw[NK he,NH,hg],?_⟩;rw[<- he,<- hg];exact Om ..
  ·rcases NO.1 (show n∈e.1::r.map (·.1) from h)with h|h
   ·exact(he h.symm).elim
   ·obtain⟨g2,h1,h2⟩:=oy r n (λx hx=>ha x (NW _ hx)) h;exact⟨g2,by unfold aO;rw[NF he,NS];exact h1,NW _ h2⟩
theorem qO (f:Int×Option Nat->Bool):∀(M:MF),nodI (M.map (·.1))=true->nodI ((M.filter f).map (·.1))=true
 |[],_=>rfl
 |e::r,h=>by
  obtain⟨h1,h2⟩:=mQ h;have ih:=qO f r h2;rw[O4];split
  ·show(!((r.filter f).map (·.1)).contains e.1&&nodI ((r.filter f).map (·.1)))=true;rw[ih,O2];cases hc:((r.filter f).map (·.1)).contains e.1 with
   |false=>rfl
   |true=>
    obtain⟨x,hx,hx2⟩:=N9.1 (OL.1 hc);exact(h1 (N9.2 ⟨x,(PC.1 hx).1,hx2⟩)).elim
  ·exact ih
theorem LM {F:List MF}{L:List Int}{S:List Bool}{d:Nat}(hd:d<F.length)(hl:L.getD d 0=-1)(hs:S.getD d false=false){M:MF}(hM:F.getD d []=M){name:Int}{g:Nat}(hg:aO none M name=some g):
  Ev1 (λk=>CF k gQ cT [inj (.ref 29) (some d),inj (.int .i64) name,Ci F,Ck L,Cl S]) (none,F.set d (cx M name),L,S):=
 EU (R:=List.replicate d 0++[262144]) ⟨hd,by rw[show d=(List.replicate d (0:Int)).length by simp];simpa using bk (List.replicate d (0:Int)) 262144 0,hl,hs⟩ hM hg
section
variable {L:List Int} {S:List Bool} {d j t:Nat} {jd:List (Option Nat)} {jt:List Int} {jb:List (List Int)} {jr:List (List (List Int))} {jk:List Bool} {B:List (List Int)} {sf:List Int} {M:MF} {N:List Int}
noncomputable abbrev hOp3 (k m d j:Nat)(N:List Int)(i:Int)(F:List MF)(L:List Int)(S:List Bool)(jd:List (Option Nat))(jt:List Int)(jb:List (List Int))(jr:List (List (List Int)))(jk:List Bool)(B:List (List Int))(sf:List Int):=uI k m (some d) j N (N.length:Int) i F L S jd jt jb jr jk B sf
theorem zK (hN:N.Nodup)(hNl:N.length<=3)(hM:nodI (M.map (·.1))=true)(hMa:∀e∈M,∃g,e.2=some g)(hNM:∀n∈N,n∈M.map (·.1))(hl:L.getD d 0=-1)(hs:S.getD d false=false)(hjt:jt.getD j 0=(t:Int))(ht:t<=1000001):∀(dd i:Nat)(F:List MF),i+dd=N.length->d<F.length->F.getD d []=M.filter (λe=>gC t e || (N.drop i).contains e.1) ->
  ∃F',F'.length=F.length/\F'.getD d []=M.filter (gC t)/\∀R,Ev2 (λk m=>hOp3 k m d j N (N.length:Int) F' L S jd jt jb jr jk B sf) R->Ev2 (λk m=>hOp3 k m d j N (i:Int) F L S jd jt jb jr jk B sf) R
 |0,i,F,hi,hd,hF=>by
  refine⟨F,rfl,?_,λR h=>by rw[show i=N.length by omega];exact h⟩;rw[hF,Oi (by omega)];simp
 |dd+1,i,F,hi,hd,hF=>by
  have hlt:i<N.length:=by omega
  have he:N.getD (Int.toNat (i:Int)) 0=N[i]:=by rw[NQ];exact bc N i _ hlt
  have hdr:N.drop i=N[i]::N.drop (i+1):=Ob hlt;have hnin:N[i] ∉ N.drop (i+1):=by
   have:(N.drop i).Nodup:=hN.sublist (List.drop_sublist _ _);rw[hdr]at this;exact(Pn.1 this).1
  have e3:w64 (2+jt.getD j 0)=((2+t:Nat):Int):=by rw[hjt,bP (by omega) (by omega)];omega
  have st:=λF k m=>B8 k m (some d) j N (N.length:Int) (i:Int) F L S jd jt jb jr jk B sf N[i] he.symm ((i+1:Nat):Int) (wnat (by omega)).symm ((2+t:Nat):Int) e3.symm
  by_cases hk:N[i]=0\/N[i]=((2+t:Nat):Int)
  ·have hF2:F.getD d []=M.filter (λe=>gC t e || (N.drop (i+1)).contains e.1):=by
    rw[hF];refine QJ λe _=>?_
    rw[hdr,OM];by_cases h0:e.1=N[i]
    ·have:gC t e=true:=by
      unfold gC;rw[h0];rcases hk with hk|hk<;>rw[hk]
      ·rw[NK rfl];rfl
      ·rw[NK (show((2+t:Nat):Int)=((2+t:Nat):Int) from rfl),Rc]
     rw[this];rfl
    ·rw[OK h0,Q1]
   obtain⟨F',f1,f2,f3⟩:=zK hN hNl hM hMa hNM hl hs hjt ht dd (i+1) F (by omega) hd hF2;refine⟨F',f1,f2,λR h=>Ev2.step (st F) (Ev2.posD (by omega) (Ev2.pos (aj (by omega) (by omega)) ?_))⟩;rcases hk with hk|hk
   ·exact Ev2.neg (by rw[NK hk];rfl) (f3 R h)
   ·by_cases h0:N[i]=0
    ·exact Ev2.neg (by rw[NK h0];rfl) (f3 R h)
    ·exact Ev2.pos (by rw[NF h0];rfl) (Ev2.neg (by rw[NK hk];rfl) (f3 R h))
  ·have h0:¬ N[i]=0:=λh=>hk (.inl h)
   have h2:¬ N[i]=((2+t:Nat):Int):=λh=>hk (.inr h)
   have hin:N[i]∈(F.getD d []).map (·.1):=by
    obtain⟨e,he1,he2⟩:=N9.1 (hNM _ (N8 hlt));refine N9.2 ⟨e,?_,he2⟩;rw[hF];refine PC.2 ⟨he1,?_⟩;rw[hdr,OM,P6.2 he2];simp
   have hMi:∀e∈F.getD d [],∃g,e.2=some g:=λe he1=>by rw[hF]at he1;exact hMa e (PC.1 he1).1
   obtain⟨g,hg,_⟩:=oy _ _ hMi hin;have hnod:nodI ((F.getD d []).map (·.1))=true:=by rw[hF];exact qO _ _ hM
   have hF2:(F.set d (cx (F.getD d []) N[i])).getD d []=M.filter (λe=>gC t e || (N.drop (i+1)).contains e.1):=by
    rw[ai _ _ _ _ hd,m7 _ _ hnod,hF,List.filter_filter];refine QJ λe _=>?_
    rw[hdr,OM];by_cases h3:e.1=N[i]
    ·have k0:gC t e=false:=by unfold gC;rw[h3,NF h0,NF h2];rfl
     have c0:(N.drop (i+1)).contains e.1=false:=by
      cases hc:(N.drop (i+1)).contains e.1 with
      |false=>rfl
      |true=>rw[h3]at hc;exact(hnin (OL.1 hc)).elim
     rw[k0,c0,NK h3];rfl
    ·rw[NF h3,OK h3];simp
   obtain⟨F',f1,f2,f3⟩:=zK hN hNl hM hMa hNM hl hs hjt ht dd (i+1) (F.set d (cx (F.getD d []) N[i])) (by omega) (by rw[NA];exact hd) hF2;refine⟨F',by rw[f1,NA],f2,λR h=>Ev2.step (st F) (Ev2.posD (by omega) (Ev2.pos (aj (by omega) (by omega)) (Ev2.pos (by rw[NF h0];rfl) (Ev2.pos (by rw[NF h2];rfl) (Ev2.bind (LM hd hl hs rfl hg) (Ev2.neg rfl (f3 R h)))))))⟩
end
end Go.Eng.Top
namespace Go.Eng.Top
open Go.RowKit Go.Eng Go.Eng.LVar Go.Eng.LCrc Go.Eng.LFrm
set_option maxRecDepth 100000
theorem Mw {F:List MF}{L:List Int}{S:List Bool}{B:List (List Int)}{sf:List Int}{d:Nat}(hL:d<L.length)(hl:L.getD d 0=-1)(hS:d<S.length)(hs:S.getD d false=false){name n:Int}{g:Nat}(hg:aO none (F.getD d []) name=some g)(hB:g<B.length)(hf:g<sf.length)(hb:(B.getD g []).length<=1000000)(h0:0<=n)(h1:n<=((B.getD g []).length:Int)):
  Ev1 (λk=>CF k CI vI [inj (.ref 29) (some d),inj (.int .i64) name,inj (.int .i64) n,Ci F,Ck L,Cl S,Ct B,Cu sf]) (none,F,L,S,B.set g ((B.getD g []).take (Int.toNat n)),sf.set g n):=by
 refine Ev1.step (λk=>(rfl:CF (k+1) CI vI [inj (.ref 29) (some d),inj (.int .i64) name,inj (.int .i64) n,Ci F,Ck L,Cl S,Ct B,Cu sf]=cutX (some d) name n F L S B sf)) (Ev1.const ?_);show(match aO none (F.getD d []) name with
  |some g=>bif Nat.blt d S.length&&(Nat.blt d L.length&&(!(S.getD d false)&&(decide (L.getD d 0=-1)&&(Nat.blt g B.length&&(Nat.blt g sf.length&&(Nat.ble (B.getD g []).length 1000000&&(decide (0<=n)&&decide (n<=((B.getD g []).length:Int)))))))))then
    some (none,F,L,S,B.set g ((B.getD g []).take (Int.toNat n)),sf.set g n)else none
  |none=>none)=_
 rw[hg];simp only[];rw[show Nat.blt d S.length=true from On hS,show Nat.blt d L.length=true from On hL,hs,NK hl,show Nat.blt g B.length=true from On hB,show Nat.blt g sf.length=true from On hf,On hb,NK h0,NK h1];rfl
theorem qn {B:List (List Int)}(f:Int×Option Nat->Bool):∀(M:MF),sumL B (M.filter f)<=sumL B M
 |[]=>NG _
 |e::M=>by
  have ih:=qn (B:=B) f M;rw[O4];split
  ·unfold sumL;omega
  ·exact Oa ih (by show sumL B M<=(B.getD (e.2.getD 0) []).length+sumL B M;omega)
noncomputable abbrev MI (k d:Nat)(c:DC):=CF k g_jO n_jO [inj (.ref 29) (some d),Ci c.F,Ck c.L,Cl c.S,Co c.jd,Cp c.jt,Cq c.jb,Cr c.jr,Cs c.jk,Ct c.B,Cu c.sf]
abbrev H6 (j:Nat)(c:DC):R10:=(some j,none,c.F,c.L,c.S,c.jd,c.jt,c.jb,c.jr,c.jk,c.B,c.sf)
structure Jf (c c':DC)(d:Nat):Prop where
 F:c'.F.length=c.F.length
 R:c'.R=c.R
 L:c'.L=c.L
 S:c'.S=c.S
 fd:c.F.getD d []=[]->c'.F.getD d []=[]
 jd:c'.jd=c.jd++[some d]
 jt:c'.jt.length=c.jt.length+1
 jb:c'.jb.length=c.jb.length+1
 jr:c'.jr.length=c.jr.length+1
 jk:c'.jk.length=c.jk.length+1
theorem K0 {c:DC}{d rho t:Nat}{bs:List Int}{rs:List (List Int)}{p:List Int}(h:RS c d rho t bs rs p)(ht:c.jt.length=c.jd.length)(hb:c.jb.length=c.jd.length)(hr:c.jr.length=c.jd.length)(hk:c.jk.length=c.jd.length)(htb:t<=1000000):
  ∃c',Ev1 (λk=>MI k d c) (H6 c.jd.length c')/\JG c' c.jd.length d rho t bs rs/\(t≠0->c'.jb.getD c.jd.length []=bs)/\Jf c c' d:=by
 obtain⟨b,r,hF,hbz,hbok,hbl,hrok,hrz,hne⟩:=h.files;have hsum:=h.sum;have hrho:=h.rhl;have hM:=h.nk;have hall:∀e∈c.F.getD d [],∃g,e.2=some g:=λe he=>by obtain⟨g,q,_⟩:=h.all e he;exact⟨g,q⟩
 have hnn:=Fl (F:=c.F) (d:=d) (c.F.getD d []) rfl h.l3 h.nk;have hperm:=Go.Proofs.Due.sortI_perm ((c.F.getD d []).map (·.1));have hNl:(hZ ((c.F.getD d []).map (·.1))).length<=3:=by rw[hperm.length_eq,OC];exact h.l3
 have hNd:(hZ ((c.F.getD d []).map (·.1))).Nodup:=hperm.nodup_iff.2 (uw hM);have hNM:∀n∈hZ ((c.F.getD d []).map (·.1)),n∈(c.F.getD d []).map (·.1):=λn hn=>hperm.mem_iff.1 hn
 have hF0:c.F.getD d []=(c.F.getD d []).filter (λe=>gC t e || ((hZ ((c.F.getD d []).map (·.1))).drop 0).contains e.1):=by
  symm;refine Qs.2 λe he=>?_
  rw[Pm,OL.2 (hperm.mem_iff.2 (N9.2 ⟨e,he,rfl⟩)),Rc]
 generalize hZ ((c.F.getD d []).map (·.1))=N at hnn hNl hNd hNM hF0;have hz:(c.jr++[[]]).set c.jd.length rs=c.jr++[rs]:=jv c.jr [] rs hr.symm;have hsfB:=h.bsf
 -- from the files' names on
 have main:∀(tt:Int) (bb:List Int),tt=(t:Int)->(t≠0->bb=bs)->∃c',Ev2 (λk m=>xQ k m (some d) c.jd.length c.F c.L c.S (c.jd++[some d]) (c.jt++[tt]) (c.jb++[bb]) (c.jr++[[]]) (c.jk++[false]) c.B c.sf) (H6 c.jd.length c')/\JG c' c.jd.length d rho t bs rs/\(t≠0->c'.jb.getD c.jd.length []=bs)/\Jf c c' d:=by
  intro tt bb htt hbb;have hjt:(c.jt++[tt]).getD c.jd.length 0=(t:Int):=by rw[aP c.jt tt 0 ht.symm,htt]
  have e3:w64 (2+(c.jt++[tt]).getD c.jd.length 0)=((2+t:Nat):Int):=by rw[hjt,bP (by omega) (by omega)];omega
  obtain⟨F',f1,f2,f3⟩:=zK (L:=c.L) (S:=c.S) (jd:=c.jd++[some d]) (jb:=c.jb++[bb]) (jr:=c.jr++[[]]) (jk:=c.jk++[false]) (B:=c.B) (sf:=c.sf) hNd hNl hM hall hNM h.left h.live hjt (by omega) N.length 0 c.F (by omega) h.hd hF0;rw[hF]at f2;have hsub:sumL c.B (Mof t b r)<=rho:=by
   rw[<- hF];exact Oa (qn _ _) hsum
  have jg:∀(B2:List (List Int)) (sf2:List Int),B2.length=c.B.length->sf2.length=c.sf.length->sumL B2 (Mof t b r)<=rho->(∀g,b=some g->B2.getD g []=c.B.getD g []/\sf2.getD g 0=c.sf.getD g 0)->(∀g,r=some g->B2.getD g []=frs rs/\sf2.getD g 0=((frs rs).length:Int)) ->
    JG ⟨F',c.R,c.L,c.S,c.jd++[some d],c.jt++[tt],c.jb++[bb],c.jr++[rs],c.jk++[false],B2,sf2⟩ c.jd.length d rho t bs rs/\(t≠0->(c.jb++[bb]).getD c.jd.length []=bs)/\Jf c ⟨F',c.R,c.L,c.S,c.jd++[some d],c.jt++[tt],c.jb++[bb],c.jr++[rs],c.jk++[false],B2,sf2⟩ d:=by
   intro B2 sf2 k1 k2 k3 k4 k5;refine⟨⟨⟨by rw[f1];exact h.hd,h.hR,hrho,⟨h.hL,by dsimp only;rw[h.left];omega,by dsimp only;rw[h.left];omega⟩,h.hS,h.live⟩,bk _ _ _,⟨by simp[ht],hjt⟩,by simp[hb],⟨by simp[hr],aP _ _ _ hr.symm⟩,⟨by simp[hk],aP _ _ _ hk.symm⟩,by dsimp only;rw[k1,k2];exact hsfB,⟨b,r,f2,⟨hbz,λg hg=>?_,hbl,λg hg=>?_,λhn=>⟨(hrz hn).1,rfl⟩,hne⟩⟩,by dsimp only;rw[f2];exact k3,h.rcs,htb⟩,λh0=>by rw[aP _ _ _ hb.symm];exact hbb h0,⟨f1,rfl,rfl,rfl,λh0=>by dsimp only;rw[f2,<- hF,h0];rfl,rfl,by simp,by simp,by simp,by simp⟩⟩
   ·obtain⟨q1,q2,q3⟩:=hbok g hg;dsimp only;rw[(k4 g hg).1,(k4 g hg).2,k1];exact⟨q1,q2,q3⟩
   ·dsimp only;rw[(k5 g hg).1,(k5 g hg).2,k1,Oq];exact⟨(hrok g hg).1,rfl,rfl⟩
  have st:=λk m=>B8 k m (some d) c.jd.length N (N.length:Int) (N.length:Int) F' c.L c.S (c.jd++[some d]) (c.jt++[tt]) (c.jb++[bb]) (c.jr++[[]]) (c.jk++[false]) c.B c.sf _ rfl _ rfl ((2+t:Nat):Int) e3.symm
  have wrap:∀R,Ev2 (λk m=>hOp3 k m d c.jd.length N (N.length:Int) F' c.L c.S (c.jd++[some d]) (c.jt++[tt]) (c.jb++[bb]) (c.jr++[[]]) (c.jk++[false]) c.B c.sf) R ->
    Ev2 (λk m=>xQ k m (some d) c.jd.length c.F c.L c.S (c.jd++[some d]) (c.jt++[tt]) (c.jb++[bb]) (c.jr++[[]]) (c.jk++[false]) c.B c.sf) R:=λR hR=>
   Ev2.step (λk m=>Is k m (some d) c.jd.length c.F c.L c.S (c.jd++[some d]) (c.jt++[tt]) (c.jb++[bb]) (c.jr++[[]]) (c.jk++[false]) c.B c.sf) (Ev2.bind hnn (Ev1.drop (f3 R hR).diag))
  cases hrc:r with
  |none=>
   obtain⟨z1,z2⟩:=hrz hrc;have hj:=jg c.B c.sf rfl rfl hsub (λ_ _=>⟨rfl,rfl⟩) (λg hg=>by rw[hrc]at hg;cases hg);have hg:aO none (Mof t b r) ((2+t:Nat):Int)=none:=by rw[vM,hrc]
   refine⟨_,wrap _ (Ev2.step st (Ev2.negD (by omega) (Ev2.bind (qD f2 hg) (Ev2.bind Kh (Ev2.neg rfl (Ev2.const ?_)))))),hj⟩;rw[z1]at hz ⊢;dsimp only;rw[hz]
  |some g=>
   obtain⟨q1,q2,q3⟩:=hrok g hrc;have hg:aO none (Mof t b r) ((2+t:Nat):Int)=some g:=by rw[vM,hrc]
   have hlen:(c.B.getD g []).length<=rho:=Oa (iW (B:=c.B) (t:=t) (b:=b) (r:=r) |>.2 g hrc) hsub;have hsc:=HH rs p h.pok (λx hx=>⟨(h.rcs x hx).1,by have:=(h.rcs x hx).2;omega⟩) (by rw[<- q2];omega) (by have:=CJ rs;rw[q2,Ny]at hlen;omega);rw[<- q2]at hsc;by_cases hcut:((frs rs).length:Int)<((c.B.getD g []).length:Int)
   ·have hc:=Mw (F:=F') (B:=c.B) (sf:=c.sf) (name:=((2+t:Nat):Int)) (n:=((frs rs).length:Int)) h.hL h.left h.hS h.live (by rw[f2];exact hg) q1 (by omega) (by omega) (by omega) (by omega);rw[NQ,q2,List.take_left]at hc;have hsub2:sumL (c.B.set g (frs rs)) (Mof t b r)<=rho:=Oa (zn _ λe _=>by
     by_cases he:e.2.getD 0=g
     ·rw[he,ai _ _ _ _ q1];omega
     ·rw[getD_set_ne _ _ _ (Ne.symm he)];exact NG _) hsub
    have hj:=jg (c.B.set g (frs rs)) (c.sf.set g ((frs rs).length:Int)) NA NA hsub2 (λg2 hg2=>by
     have:=hne g2 g hg2 hrc;rw[getD_set_ne _ _ _ (Ne.symm this),getD_set_ne _ _ _ (Ne.symm this)];exact⟨rfl,rfl⟩) (λg2 hg2=>by
     rw[hrc]at hg2;cases hg2;rw[ai _ _ _ _ q1,ai _ _ _ _ (by omega)];exact⟨rfl,rfl⟩)
    refine⟨_,wrap _ (Ev2.step st (Ev2.negD (by omega) (Ev2.bind (kj f2 hg (by omega)) (Ev2.bind hsc (Ev2.pos rfl (Ev2.posD hcut (Ev2.bind hc (Ev2.neg rfl (Ev2.const ?_))))))))),hj⟩;dsimp only;rw[hz]
   ·have hp:p=[]:=by
     rw[q2,Ny]at hcut;exact OR.1 (by omega)
    rw[hp,Oq]at q2 q3;have hj:=jg c.B c.sf rfl rfl hsub (λ_ _=>⟨rfl,rfl⟩) (λg2 hg2=>by rw[hrc]at hg2;cases hg2;exact⟨q2,q3⟩);refine⟨_,wrap _ (Ev2.step st (Ev2.negD (by omega) (Ev2.bind (kj f2 hg (by omega)) (Ev2.bind hsc (Ev2.pos rfl (Ev2.negD hcut (Ev2.const ?_))))))),hj⟩;dsimp only;rw[hz]
 have bmem:∀g,b=some g->aO none (c.F.getD d []) 0=some g:=λg hg=>by
  obtain⟨e,he,e2⟩:=zN (t:=t) (r:=r) |>.1 g hg;have hin:(0,some g)∈c.F.getD d []:=by
   have:(0,some g)∈Mof t b r:=by rw[hg];cases r<;>simp[Mof]
   rw[<- hF]at this;exact(PC.1 this).1
  obtain⟨g2,k1,k2⟩:=oy _ 0 hall (N9.2 ⟨_,hin,rfl⟩);have hk:(0,some g2)∈Mof t b r:=by
   rw[<- hF];refine PC.2 ⟨k2,?_⟩;unfold gC;rw[NK rfl];rfl
  have:g2=g:=by
   rw[hg]at hk;cases r with
   |none=>simp[Mof]at hk;exact hk
   |some h0=>
    simp only[Mof,NO,Oc,ON,Ov,Nz]at hk;rcases hk with hk|hk
    ·exact hk.2
    ·have:=ne0 t;omega
  rw[<- this];exact k1
 have st0:=λk=>f_jO k (some d) c.F c.L c.S c.jd c.jt c.jb c.jr c.jk c.B c.sf _ rfl _ rfl _ rfl _ rfl
 cases hbc:b with
 |none=>
  have t0:t=0:=hbz.1 hbc;obtain⟨c',m1,m2⟩:=main 0 [] (by omega) (λh0=>(h0 t0).elim);have hno:aO none (c.F.getD d []) 0=none:=by
   cases hq:aO none (c.F.getD d []) 0 with
   |none=>rfl
   |some g=>
    have hin:(0:Int)∈(c.F.getD d []).map (·.1):=by
     have key:∀(M:MF),aO none M 0=some g->(0:Int)∈M.map (·.1):=by
      intro M
      induction M with
      |nil=>intro h;cases h
      |cons e M ih=>
       intro h;unfold aO at h;by_cases he:e.1=0
       ·rw[NV,he];exact Om ..
       ·rw[NF he,NS]at h;exact NW _ (ih h)
     exact key _ hq
    obtain⟨e,he1,he2⟩:=N9.1 hin;have:e∈Mof t b r:=by
     rw[<- hF];refine PC.2 ⟨he1,?_⟩;unfold gC;rw[NK he2];rfl
    rw[hbc]at this;cases r with
    |none=>simp[Mof]at this
    |some h0=>
     simp only[Mof,N5]at this;rw[this]at he2;have:=ne0 t;dsimp only at he2;omega
  exact⟨c',Ev1.step st0 (Ev1.bind (qD rfl hno) (Ev1.neg rfl m1.diag)),m2⟩
 |some g=>
  have t0:t≠0:=λh0=>by have:=hbz.2 h0;rw[hbc]at this;cases this
  obtain⟨q1,q2,q3⟩:=hbok g hbc;obtain⟨l1,l2⟩:=hbl t0;obtain⟨c',m1,m2⟩:=main (t:Int) bs rfl (λ_=>rfl);obtain⟨g2,e2,_,hl6⟩:∃g2,g=g2/\g2<c.B.length/\(c.B.getD g2 []).length<=1000000:=⟨g,rfl,q1,by rw[q2,jh];omega⟩
  subst e2;have hI:I64 [(t:Int)]:=by simp[I64];omega
  have hbyt:Byt (encs [(t:Int)]++bs):=Byt.append (ny _) l2;have hone:=Fb (fr (encs [(t:Int)]++bs)) (CL hbyt) (by rw[jh];omega);have hrec:=BK (encs [(t:Int)]++bs) [] l1;rw[Oq]at hrec;rw[hrec,<- q2]at hone;simp only[ans1]at hone;have hvg:Ev1 (λk=>CF k F0 nY [inj BB (encs [(t:Int)]++bs)]) ((t:Int),bs,true):=by
   have:=zg (n:=(t:Int)) (by omega) bs (by rw[Ny]at l1;omega);rw[qf];exact this
  have h2:Ev2 (λk m=>FQ k m (some d) c.jd.length (t:Int) bs c.F c.L c.S (c.jd++[some d]) (c.jt++[0]) (c.jb++[[]]) (c.jr++[[]]) (c.jk++[false]) c.B c.sf) (H6 c.jd.length c'):=by
   refine Ev2.step (λk m=>Ir k m (some d) c.jd.length (t:Int) bs c.F c.L c.S (c.jd++[some d]) (c.jt++[0]) (c.jb++[[]]) (c.jr++[[]]) (c.jk++[false]) c.B c.sf) (Ev2.posD (by rw[Ny]at l1;omega) ?_);rw[jv c.jt 0 (t:Int) ht.symm,jv c.jb [] bs hb.symm];exact Ev1.drop m1.diag
  have h1:Ev2 (λk m=>h_jO k m (some d) c.jd.length (encs [(t:Int)]++bs) c.F c.L c.S (c.jd++[some d]) (c.jt++[0]) (c.jb++[[]]) (c.jr++[[]]) (c.jk++[false]) c.B c.sf) (H6 c.jd.length c'):=
   Ev2.step (λk m=>Mi k m (some d) c.jd.length (encs [(t:Int)]++bs) c.F c.L c.S (c.jd++[some d]) (c.jt++[0]) (c.jb++[[]]) (c.jr++[[]]) (c.jk++[false]) c.B c.sf) (Ev2.bind hvg (Ev2.neg rfl (Ev2.negD (by omega) (Ev1.drop h2.diag))))
  refine⟨c',Ev1.step st0 (Ev1.bind (kj rfl (bmem g hbc) hl6) (Ev1.pos rfl (Ev1.bind hone (Ev1.neg rfl (Ev1.neg ?_ h1.diag))))),m2⟩;have:6+((encs [(t:Int)]++bs).length:Int)=((c.B.getD g []).length:Int):=by rw[q2,jh];omega
  dsimp only;rw[NK this];rfl
theorem Lm {j:Nat}{jb:List (List Int)}{bs:List Int}(h:jb.getD j []=bs)(hl:bs.length<=1000000):Ev1 (λk=>CF k Gc qT [inj (.ref 99) (some j),Cq jb]) (bs,jb):=
 Ev1.step (λk=>GA k (some j) jb bs h.symm) (Ev1.pos rfl (Ev1.posD (by omega) (Ev1.now _)))
theorem E1 {j : Nat} {jr : List (List (List Int))} {rs : List (List Int)} (h : jr.getD j [] = rs) (hl : rs.length ≤ 100000) (hr : ∀ x ∈ rs, x.length ≤ 80) : ∀ (dd i : Nat), i + dd = rs.length → Ev2 (fun k m => iz k m (some j) j (rs.length : Int) (i : Int) (rs.take i) jr) (rs, jr)
  | 0, i, hi => Ev2.step (fun k m => lT k m (some j) j (rs.length : Int) (i : Int) (rs.take i) jr _ rfl _ rfl) (Ev2.negD (by omega) (by rw [O0 (by omega)]; exact Ev2.now _))
  | dd + 1, i, hi => by
    have hlt : i < rs.length := by omega
    have he : rs.getD (Int.toNat (i : Int)) [] = rs[i] := by rw [NQ]; exact bc rs i _ hlt
    have := hr _ (N8 hlt)
    have ih := E1 h hl hr dd (i + 1) (by omega)
    rw [PK hlt, ← wnat (by omega)] at ih
    refine Ev2.step (fun k m => lT k m (some j) j (rs.length : Int) (i : Int) (rs.take i) jr rs h.symm rs[i] he.symm) (Ev2.posD (by omega) (Ev2.pos (aj (by omega) (by omega)) ?_))
    have hc1 : (rs[i]).length * 1 ≤ 211106232532992 := by omega
    refine Ev2.posD hc1 ?_
    have hc : ((rs.take i).length + [rs[i]].length) * 24 ≤ 211106232532992 := by rw [OA]; simp only [NC, NL]; omega
    exact Ev2.posD hc ih
theorem HS {j:Nat}{jr:List (List (List Int))}{rs:List (List Int)}(h:jr.getD j []=rs)(hl:rs.length<=100000)(hr:∀x∈rs,x.length<=80):Ev1 (λk=>CF k ye kB [inj (.ref 99) (some j),Cr jr]) (rs,jr):=by
 refine Ev1.step (λk=>yF k (some j) jr) (Ev1.pos rfl ?_);simp only[NN];rw[h];exact(E1 h hl hr rs.length 0 (by omega)).diag
def runE (s:ab)(es:List au):ab:=es.foldl (λs e=>(doF s e).1) s
theorem qy (s:ab)(es:List au)(e:au):runE s (es++[e])=(doF (runE s es) e).1:=by unfold runE;rw[List.foldl_append];rfl
theorem EL {s:ab}{es:List au}{i:Nat}(h:i<es.length):runE s (es.take (i+1))=(doF (runE s (es.take i)) es[i]).1:=by rw[PK h,qy]
theorem tz {e:au}(h:evR e):I64 (evL e)/\I64 (rqL e.2.1):=by
 obtain⟨w,r,key,ok⟩:=e;rcases h with⟨h1,h2,h3,h4⟩|⟨h1,h2,h3,h4⟩|h
 ·have h1:w=0:=h1;cases h1;exact⟨aY.2 ⟨by simp,by simpa using h3⟩,h3⟩
 ·have h1:w=1:=h1;have h2:r=(0,0,0,0,0,0,0):=h2;cases h1;cases h2;have h3:0<=key:=h3;have h4:key<=4611686018427387904:=h4;refine⟨aY.2 ⟨by simp,?_⟩,by simp[rqL,I64]⟩;simp only[show ¬ ((1:Int)=0) by omega,OE,O8];refine aY.2 ⟨by omega,?_⟩;cases ok<;>simp[I64]
 ·cases h;exact⟨by simp[evL,I64],by simp[rqL,I64]⟩
theorem vj {s:ab}(hs:Inv s):∀(es:List au),(∀e∈es,evR e)->Inv (runE s es)
 |[],_=>hs
 |e::es,h=>vj (sA hs e (tz (h e (Om ..))).2).1 es λx hx=>h x (NW _ hx)
abbrev encE (e:au):List Int:=encs (evL e)
abbrev zT0:ab:=([],[],[],[],0)
theorem Bx {d x:Nat}{sb:ab}{evs:List au}(hsb:Inv sb)(hev:∀e∈evs,evR e)(hl:evs.length<=100000)(ej:List (Option Nat))(c:DC):∀(dd i:Nat)(es:List ab),i+dd=evs.length->x<es.length->es.getD x zT0=runE sb (evs.take i) ->
  Ev2 (λk m=>Cv k m (some d) x (evs.map encE) (evs.length:Int) (i:Int) c.F c.L c.S ej es c.jd c.jt c.jb c.jr c.jk c.B c.sf) (some x,none,c.F,c.L,c.S,ej,es.set x (runE sb evs),c.jd,c.jt,c.jb,c.jr,c.jk,c.B,c.sf)
 |0,i,es,hi,hx,hes=>by
  rw[O0 (by omega)]at hes;refine Ev2.step (λk m=>B9 k m (some d) x (evs.map encE) (evs.length:Int) (i:Int) c.F c.L c.S ej es c.jd c.jt c.jb c.jr c.jk c.B c.sf) (Ev2.negD (by omega) (Ev2.const ?_));rw[Bm es x zT0 hx hes]
 |dd+1,i,es,hi,hx,hes=>by
  have hlt:i<evs.length:=by omega
  have he:(evs.map encE).getD (Int.toNat (i:Int)) []=encE evs[i]:=by rw[NQ,bc _ i _ (by rw[OC];exact hlt),QN]
  have hr:=hev _ (N8 hlt);have hinv:Inv (runE sb (evs.take i)):=vj hsb _ λe h=>hev e (Pa h)
  have ih:=Bx (d:=d) hsb hev hl ej c dd (i+1) (es.set x (runE sb (evs.take (i+1)))) (by omega) (by rw[NA];exact hx) (ai _ _ _ _ hx);rw[Ri,EL hlt,<- wnat (by omega)]at ih;refine Ev2.step (λk m=>B9 k m (some d) x (evs.map encE) (evs.length:Int) (i:Int) c.F c.L c.S ej es c.jd c.jt c.jb c.jr c.jk c.B c.sf) (Ev2.posD (by omega) (Ev2.pos (aj (by omega) (by rw[OC];omega)) ?_));rw[he,hes];exact Ev2.bind (HV _ hr) (Ev2.neg rfl (Ev2.bind (GW hinv evs[i]) ih))
structure Src (t:Nat)(bs:List Int)(rs:List (List Int))(s sb:ab)(evs:List au):Prop where
 b0:t=0->sb=s0
 b1:t≠0->bs=encs (stL sb)
 inv:Inv sb
 ev:∀e∈evs,evR e
 rs:rs=evs.map encE
 s:s=runE sb evs
theorem Src.invS {t:Nat}{bs:List Int}{rs:List (List Int)}{s sb:ab}{evs:List au}(h:Src t bs rs s sb evs):Inv s:=by rw[h.s];exact vj h.inv evs h.ev
theorem Src.snoc {t:Nat}{bs:List Int}{rs:List (List Int)}{s sb:ab}{evs:List au}(h:Src t bs rs s sb evs){e:au}(he:evR e):Src t bs (rs++[encE e]) (doF s e).1 sb (evs++[e]):=
 ⟨h.b0,h.b1,h.inv,λx hx=>(NU.1 hx).elim (h.ev x) (λhx=>by rw[N5.1 hx];exact he),by rw[h.rs,Po];rfl,by rw[qy,h.s]⟩
noncomputable abbrev MJ (k d:Nat)(ej:List (Option Nat))(es:List ab)(c:DC):=CF k g_dO n_dO [inj (.ref 29) (some d),Ci c.F,Ck c.L,Cl c.S,Cm ej,Cn es,Co c.jd,Cp c.jt,Cq c.jb,Cr c.jr,Cs c.jk,Ct c.B,Cu c.sf]
theorem GU {c:DC}{d rho t:Nat}{bs:List Int}{rs:List (List Int)}{p:List Int}(h:RS c d rho t bs rs p)(ht:c.jt.length=c.jd.length)(hb:c.jb.length=c.jd.length)(hr:c.jr.length=c.jd.length)(hk:c.jk.length=c.jd.length)(htb:t<=1000000)(ej:List (Option Nat))(es:List ab)(hee:es.length=ej.length){s sb:ab}{evs:List au}(hs:Src t bs rs s sb evs):
  ∃c',Ev1 (λk=>MJ k d ej es c) (some ej.length,none,c'.F,c'.L,c'.S,ej++[some c.jd.length],es++[s],c'.jd,c'.jt,c'.jb,c'.jr,c'.jk,c'.B,c'.sf)/\JG c' c.jd.length d rho t bs rs/\Jf c c' d:=by
 obtain⟨c',ho,hJ,hbb,hL⟩:=K0 h ht hb hr hk htb;have hfew:=BA hJ;have hrl:∀x∈rs,x.length<=80:=λx hx=>(h.rcs x hx).2
 have hrec:=HS hJ.jr.2 (by omega) hrl;rw[hs.rs]at hrec hfew;rw[OC]at hfew;have hinv:=hs.inv;have h0:Ev2 (λk m=>h_dO k m (some d) (some c.jd.length) ej.length c'.F c'.L c'.S (ej++[some c.jd.length]) (es++[sb]) c'.jd c'.jt c'.jb c'.jr c'.jk c'.B c'.sf) (some ej.length,none,c'.F,c'.L,c'.S,ej++[some c.jd.length],es++[s],c'.jd,c'.jt,c'.jb,c'.jr,c'.jk,c'.B,c'.sf):=by
  refine Ev2.step (λk m=>Mk k m (some d) (some c.jd.length) ej.length c'.F c'.L c'.S (ej++[some c.jd.length]) (es++[sb]) c'.jd c'.jt c'.jb c'.jr c'.jk c'.B c'.sf) (Ev2.bind hrec (Ev1.drop ?_));have:=Bx (d:=d) (x:=ej.length) hinv hs.ev (by omega) (ej++[some c.jd.length]) c' evs.length 0 (es++[sb]) (by omega) (by simp[hee]) (aP _ _ _ hee.symm);rw[jv es sb _ hee.symm,<- hs.s]at this;have:=this.diag;rw[OC];exact this
 refine⟨c',Ev1.step (λk=>f_dO k (some d) c.F c.L c.S ej es c.jd c.jt c.jb c.jr c.jk c.B c.sf) (Ev1.bind ho (Ev1.neg rfl (Ev1.bind L8 (Ev1.bind (Ht hJ.jt.2) ?_)))),hJ,hL⟩;by_cases t0:t=0
 ·refine Ev1.negD (by omega) ?_;rw[hs.b0 t0]at h0;exact h0.diag
 ·refine Ev1.posD (by omega) (Ev1.bind (Lm (hbb t0) ?_) ?_)
  ·obtain⟨_,_,_,_,_,hbl,_⟩:=h.files;have:=(hbl t0).1;rw[Ny]at this;omega
  ·dsimp only;rw[hs.b1 t0];refine Ev1.bind (HT hinv) (Ev1.neg rfl ?_);dsimp only;rw[jv es s0 sb hee.symm];exact h0.diag
end Go.Eng.Top
namespace Go.Eng.Top
open Go.RowKit Go.Eng Go.Eng.LVar Go.Eng.LCrc Go.Eng.LFrm
set_option maxRecDepth 100000
def DE (c:DC)(j d rho T:Nat)(s:ab):Prop:=∃t bs rs sb evs,JG c j d rho t bs rs/\Src t bs rs s sb evs/\t<=T
def DX (c:DC)(d rho T:Nat)(s s':ab):Prop:=∃t bs rs p sb evs,DSt c d rho t bs rs p/\Src t bs rs s sb evs/\t<=T/\(p=[]\/∃e,p=fr (encE e)/\evR e/\(doF s e).1=s')
theorem DE.mono {c:DC}{j d rho T T':Nat}{s:ab}(h:DE c j d rho T s)(hT:T<=T'):DE c j d rho T' s:=by
 obtain⟨t,bs,rs,sb,evs,h1,h2,h3⟩:=h;exact⟨t,bs,rs,sb,evs,h1,h2,Oa h3 hT⟩
theorem DX.mono {c:DC}{d rho T T':Nat}{s s':ab}(h:DX c d rho T s s')(hT:T<=T'):DX c d rho T' s s':=by
 obtain⟨t,bs,rs,p,sb,evs,h1,h2,h3,h4⟩:=h;exact⟨t,bs,rs,p,sb,evs,h1,h2,Oa h3 hT,h4⟩
theorem DE.inv {c:DC}{j d rho T:Nat}{s:ab}(h:DE c j d rho T s):Inv s:=by
 obtain⟨t,bs,rs,sb,evs,h1,h2,h3⟩:=h;exact h2.invS
theorem zq {s:ab}(hs:Inv s)(t:Nat)(ht:t≠0):Src t (encs (stL s)) [] s s []:=⟨λh=>(ht h).elim,λ_=>rfl,hs,λe he=>(by cases he),rfl,rfl⟩
noncomputable abbrev yZ (k x:Nat)(ej:List (Option Nat))(es:List ab)(c:DC):=CF k yh kC [inj (.ref 30) (some x),Ci c.F,Cj c.R,Ck c.L,Cl c.S,Cm ej,Cn es,Co c.jd,Cp c.jt,Cq c.jb,Cr c.jr,Cs c.jk,Ct c.B,Cu c.sf]
abbrev Dp (e:Option Int)(c:DC)(ej:List (Option Nat))(es:List ab):R8:=(e,c.F,c.R,c.L,c.S,ej,es,c.jd,c.jt,c.jb,c.jr,c.jk,c.B,c.sf)
theorem GX (c:DC){x j d rho t:Nat}{bs:List Int}{rs:List (List Int)}{s sb:ab}{evs:List au}{ej:List (Option Nat)}{es:List ab}(h:JG c j d rho t bs rs)(hS:Src t bs rs s sb evs)(hej:ej.getD x none=some j)(hes:es.getD x zT0=s)(ht:t<1000000):
  (∃e,(e=13/\16374<(encs (stL s)).length\/e=8)/\Ev1 (λk=>yZ k x ej es c) (Dp (some e) c ej es)) \/
  (∃c',Ev1 (λk=>yZ k x ej es c) (Dp none c' ej es)/\JG c' j d rho (t+1) (encs (stL s)) []/\Lens c c') \/
  (∃c',Ev1 (λk=>yZ k x ej es c) (Dp (some 12) c' ej es)/\(∀s',DX c' d rho (t+1) s s')/\Lens c c'):=by
 have hs:=hS.invS;have hl:=Ew hs;have st:=λk=>GF k (some x) c.F c.R c.L c.S ej es c.jd c.jt c.jb c.jr c.jk c.B c.sf
 have go:∀{e:Option Int} {c':DC},Ev1 (λk=>jV k j (encs (stL s)) c) (jy e c')->Ev1 (λk=>yZ k x ej es c) (Dp e c' ej es):=λ{e c'} he=>by
  refine Ev1.step st (Ev1.pos rfl (Ev1.pos rfl ?_));simp only[NN];rw[hej,hes];exact Ev1.bind (ju s hs.st) (Ev1.bind he (Ev1.now _))
 rcases KZ c h (encs (stL s)) ⟨ny _,by omega⟩ ht with⟨e,he,hv⟩|⟨c',hv,hJ,hL⟩|⟨c',hv,hD,hL⟩
 ·refine .inl ⟨e,?_,go hv⟩;rcases he with⟨he,hb⟩|he
  ·refine .inl ⟨he,?_⟩;have hI:I64 [((t+1:Nat):Int)]:=by simp[I64];omega
   have:=aG hI;rw[Ny]at hb;simp only[NC,NL]at this;omega
  ·exact .inr he
 ·exact .inr (.inl ⟨c',go hv,hJ,hL⟩)
 ·refine .inr (.inr ⟨c',go hv,?_,hL⟩);rcases hD with hD|hD
  ·exact λ_=>⟨t,bs,rs,[],sb,evs,hD,hS,Rl _,.inl rfl⟩
  ·exact λ_=>⟨t+1,_,[],[],s,[],hD,zq hs _ (by omega),NG _,.inl rfl⟩
noncomputable abbrev uP (k x:Nat)(e:au)(ej:List (Option Nat))(es:List ab)(c:DC):=CF k Gf vH [inj (.ref 30) (some x),inj aH e,Ci c.F,Cj c.R,Ck c.L,Cl c.S,Cm ej,Cn es,Co c.jd,Cp c.jt,Cq c.jb,Cr c.jr,Cs c.jk,Ct c.B,Cu c.sf]
abbrev sW (o:ah)(c:DC)(ej:List (Option Nat))(es:List ab):R9:=(o,c.F,c.R,c.L,c.S,ej,es,c.jd,c.jt,c.jb,c.jr,c.jk,c.B,c.sf)
theorem IV {e:au}(h:evR e):Byt (encE e)/\(encE e).length<=80:=⟨ny _,GK e (tz h).1⟩
theorem IY (c:DC){x j d rho t:Nat}{bs:List Int}{rs:List (List Int)}{s:ab}{ej:List (Option Nat)}{es:List ab}(h:JG c j d rho t bs rs)(hs:Inv s)(hej:ej.getD x none=some j)(hx:x<es.length)(hes:es.getD x zT0=s)(e:au)(hq:(doF s e).1=s):
  Ev1 (λk=>uP k x e ej es c) (sW (doF s e).2 c ej es):=by
 have hd:=GW hs e;have hst:=EE s s hs.st hs.st;refine Ev1.step (λk=>GG k (some x) e c.F c.R c.L c.S ej es c.jd c.jt c.jb c.jr c.jk c.B c.sf s hes.symm) (Ev1.pos rfl ?_);simp only[NN];rw[hej];refine Ev1.bind (jm h.jk.2) (Ev1.neg rfl (Ev1.pos rfl (Ev1.bind hd (Ev1.pos rfl ?_))));dsimp only;rw[hq];exact Ev1.bind hst (Ev1.posD rfl (Ev1.now _))
theorem No (c:DC){x j d rho T:Nat}{s:ab}{ej:List (Option Nat)}{es:List ab}(h:DE c j d rho T s)(hej:ej.getD x none=some j)(hx:x<es.length)(hes:es.getD x zT0=s)(e:au)(he:evR e)(hsm:(encs (stL s)).length<=16000)(hT:T<1000000):
  (∃c',Ev1 (λk=>uP k x e ej es c) (sW (doF s e).2 c' ej (es.set x (doF s e).1))/\DE c' j d rho (T+1) (doF s e).1/\Lens c c'/\∀u,Calm c d u->u+86<=rho->Calm c' d (u+86)) \/
  (∃c',Ev1 (λk=>uP k x e ej es c) (sW (8,0) c' ej es)/\DE c' j d rho (T+1) s/\Lens c c'/\∀u,Calm c d u->rho<u+86) \/
  (∃c',Ev1 (λk=>uP k x e ej es c) (sW (12,0) c' ej es)/\(doF s e).1≠s/\DX c' d rho (T+1) s (doF s e).1/\Lens c c'/\∀u,Calm c d u->rho<u+86):=by
 obtain⟨t,bs,rs,sb,evs,hJ,hS,htT⟩:=h;have hs:=hS.invS;by_cases hq:(doF s e).1=s
 ·refine .inl ⟨c,?_,⟨t,bs,rs,sb,evs,hJ,by rw[hq];exact hS,by omega⟩,Lens.refl c,λu hu _=>⟨hu.1,by have:=hu.2;omega⟩⟩;have:=IY c hJ hs hej hx hes e hq;rw[hq,Bm es x zT0 hx hes];exact this
 have hql:¬ stL s=stL (doF s e).1:=λh=>hq (Ey h).symm
 obtain⟨i1,i2⟩:=tz he;have hd:=GW hs e;have hi:=(sA hs e i2).1;have hst:=EE s (doF s e).1 hs.st hi.st;have hee:=IU e i1;have tailE:∀(n:Int) (c1:DC),Ev1 (λk=>jM k k (some x) (some n) 0 0 (doF s e).1.1 (doF s e).1.2.1 (doF s e).1.2.2.1 (doF s e).1.2.2.2.1 (doF s e).1.2.2.2.2 (doF s e).2.1 (doF s e).2.2 c1.F c1.R c1.L c1.S ej es c1.jd c1.jt c1.jb c1.jr c1.jk c1.B c1.sf) (sW (n,0) c1 ej es):=λn c1=>by
  have h2:Ev2 (λk m=>jM k m (some x) (some n) 0 0 (doF s e).1.1 (doF s e).1.2.1 (doF s e).1.2.2.1 (doF s e).1.2.2.2.1 (doF s e).1.2.2.2.2 (doF s e).2.1 (doF s e).2.2 c1.F c1.R c1.L c1.S ej es c1.jd c1.jt c1.jb c1.jr c1.jk c1.B c1.sf) (sW (n,0) c1 ej es):=
   Ev2.step (λk m=>xR k m (some x) (some n) 0 0 (doF s e).1.1 (doF s e).1.2.1 (doF s e).1.2.2.1 (doF s e).1.2.2.2.1 (doF s e).1.2.2.2.2 (doF s e).2.1 (doF s e).2.2 c1.F c1.R c1.L c1.S ej es c1.jd c1.jt c1.jb c1.jr c1.jk c1.B c1.sf) (Ev2.pos rfl (Ev2.bind (xn (some n)) (Ev2.now _)))
  exact h2.diag
 have tailN:∀(c1:DC),Ev1 (λk=>jM k k (some x) none 0 0 (doF s e).1.1 (doF s e).1.2.1 (doF s e).1.2.2.1 (doF s e).1.2.2.2.1 (doF s e).1.2.2.2.2 (doF s e).2.1 (doF s e).2.2 c1.F c1.R c1.L c1.S ej es c1.jd c1.jt c1.jb c1.jr c1.jk c1.B c1.sf) (sW (doF s e).2 c1 ej (es.set x (doF s e).1)):=λc1=>by
  have h2:Ev2 (λk m=>jM k m (some x) none 0 0 (doF s e).1.1 (doF s e).1.2.1 (doF s e).1.2.2.1 (doF s e).1.2.2.2.1 (doF s e).1.2.2.2.2 (doF s e).2.1 (doF s e).2.2 c1.F c1.R c1.L c1.S ej es c1.jd c1.jt c1.jb c1.jr c1.jk c1.B c1.sf) (sW (doF s e).2 c1 ej (es.set x (doF s e).1)):=
   Ev2.step (λk m=>xR k m (some x) none 0 0 (doF s e).1.1 (doF s e).1.2.1 (doF s e).1.2.2.1 (doF s e).1.2.2.2.1 (doF s e).1.2.2.2.2 (doF s e).2.1 (doF s e).2.2 c1.F c1.R c1.L c1.S ej es c1.jd c1.jt c1.jb c1.jr c1.jk c1.B c1.sf) (Ev2.neg rfl (Ev2.pos rfl (Ev2.now _)))
  exact h2.diag
 have st:=λk=>GG k (some x) e c.F c.R c.L c.S ej es c.jd c.jt c.jb c.jr c.jk c.B c.sf s hes.symm
 have hfl:(fr (encE e)).length<=86:=by rw[jh];have:=(IV he).2;omega
 rcases xH c hJ (encE e) (IV he)with⟨ha,hca⟩|⟨c',ha,hjb,hJ',hL,hca⟩|⟨c',ha,hjb,hD,hL,hca⟩
 ·-- no room: a snapshot first
  have hfull:∀u,Calm c d u->rho<u+86:=λu hu=>by have:=hca u hu;omega
  rcases GX c hJ hS hej hes (by omega)with⟨n,hn,hk⟩|⟨c',hk,hJ',hL⟩|⟨c',hk,hD,hL⟩
  ·have hn8:n=8:=hn.resolve_left (λh=>by omega);subst hn8;refine .inr (.inl ⟨c,Ev1.step st (Ev1.pos rfl ?_),⟨t,bs,rs,sb,evs,hJ,hS,by omega⟩,Lens.refl c,hfull⟩);simp only[NN];rw[hej];exact Ev1.bind (jm hJ.jk.2) (Ev1.neg rfl (Ev1.pos rfl (Ev1.bind hd (Ev1.pos rfl (Ev1.bind hst (Ev1.negD hql (Ev1.bind hee (Ev1.pos rfl (Ev1.bind ha (Ev1.pos rfl (Ev1.posD rfl (Ev1.bind hk (Ev1.neg rfl (tailE 8 c))))))))))))))
  ·have hS':=zq hs (t+1) (by omega);have go:∀{r6:R12} {R:R9},Ev1 (λk=>my k j (encE e) c') r6->Ev1 (λk=>jM k k (some x) r6.1 0 0 (doF s e).1.1 (doF s e).1.2.1 (doF s e).1.2.2.1 (doF s e).1.2.2.2.1 (doF s e).1.2.2.2.2 (doF s e).2.1 (doF s e).2.2 r6.2.1 r6.2.2.1 r6.2.2.2.1 r6.2.2.2.2.1 ej es r6.2.2.2.2.2.1 r6.2.2.2.2.2.2.1 c'.jb r6.2.2.2.2.2.2.2.1 r6.2.2.2.2.2.2.2.2.1 r6.2.2.2.2.2.2.2.2.2.1 r6.2.2.2.2.2.2.2.2.2.2) R->Ev1 (λk=>uP k x e ej es c) R:=λ{r6 R} h6 hR=>by
    refine Ev1.step st (Ev1.pos rfl ?_);simp only[NN];rw[hej];refine Ev1.bind (jm hJ.jk.2) (Ev1.neg rfl (Ev1.pos rfl (Ev1.bind hd (Ev1.pos rfl (Ev1.bind hst (Ev1.negD hql (Ev1.bind hee (Ev1.pos rfl (Ev1.bind ha (Ev1.pos rfl (Ev1.posD rfl (Ev1.bind hk (Ev1.pos rfl (Ev1.pos rfl ?_))))))))))))));dsimp only;rw[hej];exact Ev1.bind h6 hR
   rcases xH c' hJ' (encE e) (IV he)with⟨ha2,_⟩|⟨c2,ha2,hjb2,hJ2,hL2,_⟩|⟨c2,ha2,hjb2,hD2,hL2,_⟩
   ·exact .inr (.inl ⟨c',go ha2 (tailE 8 c'),⟨t+1,_,[],s,[],hJ',hS',by omega⟩,hL,hfull⟩)
   ·have:=tailN c2;rw[hjb2]at this;refine .inl ⟨c2,?_,⟨t+1,_,_,s,_,hJ2,hS'.snoc he,by omega⟩,hL.trans hL2,λu hu h=>by have:=hfull u hu;omega⟩;exact go ha2 this
   ·have:=tailE 12 c2;rw[hjb2]at this;refine .inr (.inr ⟨c2,?_,hq,⟨t+1,_,[],_,s,[],hD2,hS',by omega,.inr ⟨e,rfl,he,rfl⟩⟩,hL.trans hL2,hfull⟩);exact go ha2 this
  ·refine .inr (.inr ⟨c',Ev1.step st (Ev1.pos rfl ?_),hq,(hD _).mono (by omega),hL,hfull⟩);simp only[NN];rw[hej];exact Ev1.bind (jm hJ.jk.2) (Ev1.neg rfl (Ev1.pos rfl (Ev1.bind hd (Ev1.pos rfl (Ev1.bind hst (Ev1.negD hql (Ev1.bind hee (Ev1.pos rfl (Ev1.bind ha (Ev1.pos rfl (Ev1.posD rfl (Ev1.bind hk (Ev1.neg rfl (tailE 12 c'))))))))))))))
 ·have:=tailN c';rw[hjb]at this;refine .inl ⟨c',Ev1.step st (Ev1.pos rfl ?_),⟨t,bs,_,sb,_,hJ',hS.snoc he,by omega⟩,hL,λu hu _=>by have:=hca u hu;exact⟨this.1,Oa this.2 (by omega)⟩⟩;simp only[NN];rw[hej];exact Ev1.bind (jm hJ.jk.2) (Ev1.neg rfl (Ev1.pos rfl (Ev1.bind hd (Ev1.pos rfl (Ev1.bind hst (Ev1.negD hql (Ev1.bind hee (Ev1.pos rfl (Ev1.bind ha (Ev1.pos rfl (Ev1.negD (by simp) this)))))))))))
 ·have:=tailE 12 c';rw[hjb]at this;refine .inr (.inr ⟨c',Ev1.step st (Ev1.pos rfl ?_),hq,⟨t,bs,rs,_,sb,evs,hD,hS,by omega,.inr ⟨e,rfl,he,rfl⟩⟩,hL,λu hu=>(hca u hu).elim⟩);simp only[NN];rw[hej];exact Ev1.bind (jm hJ.jk.2) (Ev1.neg rfl (Ev1.pos rfl (Ev1.bind hd (Ev1.pos rfl (Ev1.bind hst (Ev1.negD hql (Ev1.bind hee (Ev1.pos rfl (Ev1.bind ha (Ev1.pos rfl (Ev1.negD (show ¬ (some (12:Int)=some 8) by decide) this)))))))))))
end Go.Eng.Top
namespace Go.Eng.Top
open Go.RowKit Go.Eng Go.Eng.LVar Go.Eng.LCrc Go.Eng.LFrm
set_option maxRecDepth 100000
inductive Rch (A:ae->Prop):ab->List dN->List au->Prop
 |zero:Rch A s0 [] []
 |ask {s:ab} {said:List dN} {done:List au} (r:ae):A r->Rch A s said done->Rch A (doF s (0,r,0,false)).1 (said++[(r,(doF s (0,r,0,false)).2)]) (done++[(0,r,0,false)])
 |lost {s:ab} {said:List dN} {done:List au} (r:ae) (o:ah):A r->(o.1=8\/o.1=12)->Rch A s said done->Rch A s (said++[(r,o)]) done
 |kept {s:ab} {said:List dN} {done:List au} (r:ae) (o:ah):A r->o.1=12->Rch A s said done->Rch A (doF s (0,r,0,false)).1 (said++[(r,o)]) (done++[(0,r,0,false)])
 |ev {s:ab} {said:List dN} {done:List au} (e:au):evR e->e.1≠0->Rch A s said done->Rch A (doF s e).1 said (done++[e])
theorem Rch.said {A:ae->Prop}{s:ab}{said:List dN}{done:List au}(h:Rch A s said done):∀x∈said,A x.1:=by
 induction h with
 |zero=>intro x hx;cases hx
 |ask r ha _ ih=>intro x hx;rcases NU.1 hx with hx|hx;exact ih x hx;rw[N5.1 hx];exact ha
 |lost r o ha _ _ ih=>intro x hx;rcases NU.1 hx with hx|hx;exact ih x hx;rw[N5.1 hx];exact ha
 |kept r o ha _ _ ih=>intro x hx;rcases NU.1 hx with hx|hx;exact ih x hx;rw[N5.1 hx];exact ha
 |ev e _ _ _ ih=>exact ih
theorem MM {s:ab}(h:Inv s)(r:ae):okO (askF s.2.2.2.1 r).1:=by
 unfold askF;cases hf:fnd r.1 s.2.2.2.1 with
 |none=>exact mO (by omega)
 |some i=>
  obtain⟨hi,_⟩:=eu hf;dsimp only;split
  ·split
   ·rw[bc _ _ _ hi];exact(h.kr _ (N8 hi)).2
   ·exact lK (by omega)
  ·exact lK (by omega)
theorem Nl {s:ab}(h:Inv s)(e:au)(he:evR e):okO (doF s e).2:=by
 obtain⟨i1,i2⟩:=tz he;unfold doF;split
 ·unfold subF;split
  ·exact lK (by omega)
  split
  ·exact MM h _
  split
  ·exact lK (by omega)
  have hp:∀c,(putF s.2.2.2.1 e.2.1).2=some c->c=5\/c=7:=by
   intro c hc;unfold putF at hc;split at hc
   ·cases hc;exact .inl rfl
   ·split at hc
    ·cases hc;exact .inr rfl
    ·cases hc
  cases hq:(putF s.2.2.2.1 e.2.1).2 with
  |some c=>dsimp only;exact lK (by rcases hp c hq with h|h<;>omega)
  |none=>
   dsimp only;split
   ·obtain⟨q1,q2⟩:=Bv h.op e.2.1;cases hc:(resF s e.2.1).2 with
    |some c=>dsimp only;exact lK (q2 c hc)
    |none=>dsimp only;exact lK (by omega)
   ·rename_i hm _ _ hl;have hmt:mayB e.2.1=true:=by cases hq:mayB e.2.1 with|true=>rfl|false=>exact(hm hq).elim
    exact(tX h.op e.2.1 (λh3=>⟨i2,(ou hmt).2 h3,(ou hmt).1⟩) (zO hm)).2
 split
 ·unfold qo;cases hf:fndG e.2.2.1 s.2.2.1 with
  |none=>exact lK (by omega)
  |some i=>
   have hi:=oH hf;dsimp only;split
   ·rename_i h1;rw[bc _ _ _ hi]at h1 ⊢;have hg:=(h.gr _ (N8 hi)).2.2.2;show okO ((s.2.2.1[i]).2.2.2.2,0);exact lK (by omega)
   split
   ·obtain⟨q1,q2⟩:=qp h.op (s.2.2.1.getD i zG).1;cases hc:(nQ s (s.2.2.1.getD i zG).1).2 with
    |none=>exact mO (by omega)
    |some c=>exact lK (by omega)
   ·exact lK (by omega)
 split
 ·exact mO (by omega)
 ·exact lK (by omega)
theorem Al.lens {W W':WC}(h:Al W)(hwd:W'.wd=W.wd)(hwe:W'.we.length=W.we.length)(hws:W'.ws.length=W.ws.length)(hwn:W'.wn.length=W.wn.length)(hwr:W'.wr.length=W.wr.length)(hww:W'.ww.length=W.ww.length)(hwo:W'.wo.length=W.wo.length)(hes:W'.es.length=W.es.length)(hej:W'.ej=W.ej)(hL:Lens W.c W'.c):Al W':=
 ⟨by rw[hwe,hwd];exact h.we,by rw[hws,hwd];exact h.ws,by rw[hwn,hwd];exact h.wn,by rw[hwr,hwd];exact h.wr,by rw[hww,hwd];exact h.ww,by rw[hwo,hwd];exact h.wo,by rw[hes,hej];exact h.es,by rw[hL.jt,hL.jd];exact h.jt,by rw[hL.jb,hL.jd];exact h.jb,by rw[hL.jr,hL.jd];exact h.jr,by rw[hL.jk,hL.jd];exact h.jk,by rw[hL.R,hL.F];exact h.R,by rw[hL.L,hL.F];exact h.L,by rw[hL.S,hL.F];exact h.S⟩
structure WB (W:WC)(w x d n:Nat)(said:List dN)(done o:List au):Prop where
 wd:W.wd.getD w none=some d
 we:w<W.we.length/\W.we.getD w none=some x
 ws:w<W.ws.length/\W.ws.getD w []=said
 wn:w<W.wn.length/\W.wn.getD w []=done
 nl:done.length<=n/\said.length<=n
 wr:w<W.wr.length/\W.wr.getD w none=none
 ww:w<W.ww.length
 wo:w<W.wo.length/\W.wo.getD w []=o
 al:Al W
structure WG (W:WC)(w x j d rho T n:Nat)(s:ab)(said:List dN)(done:List au):Prop where
 b:WB W w x d n said done []
 ej:W.ej.getD x none=some j
 es:x<W.es.length/\W.es.getD x zT=s
 de:DE W.c j d rho T s
structure WX (W:WC)(w x d rho T n:Nat)(s s':ab)(said:List dN)(done o:List au):Prop where
 b:WB W w x d n said done o
 dx:DX W.c d rho T s s'
 o:(o=[]/\s'=s)\/∃e,o=[e]/\evR e/\s'=(doF s e).1/\s'≠s/\W.ww.getD w zT=s
theorem WB.mono {W:WC}{w x d n n':Nat}{said:List dN}{done o:List au}(h:WB W w x d n said done o)(hn:n<=n'):WB W w x d n' said done o:=
 ⟨h.wd,h.we,h.ws,h.wn,⟨Oa h.nl.1 hn,Oa h.nl.2 hn⟩,h.wr,h.ww,h.wo,h.al⟩
theorem WG.mono {W:WC}{w x j d rho T T' n n':Nat}{s:ab}{said:List dN}{done:List au}(h:WG W w x j d rho T n s said done)(hT:T<=T')(hn:n<=n'):WG W w x j d rho T' n' s said done:=⟨h.b.mono hn,h.ej,h.es,h.de.mono hT⟩
theorem iO {W:WC}{w x j d rho T n:Nat}{s:ab}{said:List dN}{done:List au}(h:WG W w x j d rho T n s said done):Ev1 (λk=>CF k kR fj [inj (.ref 29) (W.wd.getD w none),Cl W.c.S]) (false,W.c.S):=by
 obtain⟨t,bs,rs,sb,evs,hJ,_⟩:=h.de;rw[h.b.wd];refine Ev1.step (λk=>pr k (some d) W.c.S) (Ev1.pos rfl (Ev1.const ?_));show some (W.c.S.getD d false,W.c.S)=_;rw[hJ.dg.live]
theorem wY {W:WC}{w x d rho T n:Nat}{s s':ab}{said:List dN}{done o:List au}(h:WX W w x d rho T n s s' said done o):Ev1 (λk=>CF k kR fj [inj (.ref 29) (W.wd.getD w none),Cl W.c.S]) (true,W.c.S):=by
 obtain⟨t,bs,rs,p,sb,evs,hD,_⟩:=h.dx;rw[h.b.wd];refine Ev1.step (λk=>pr k (some d) W.c.S) (Ev1.pos rfl (Ev1.const ?_));show some (W.c.S.getD d false,W.c.S)=_;rw[hD.stop]
theorem Ml {x y:List Int}(hx:x.length<=16384)(hy:y.length<=16384)(h:fr x=fr y):x=y:=by
 have h1:=BK x [] hx;have h2:=BK y [] hy;rw[h,h2]at h1;exact(P1 h1).symm
noncomputable abbrev MK (k w:Nat)(keep:Int)(W:WC):=CF k DD nX [inj (.ref 26) (some w),inj (.int .i64) keep,Ca W.wd,Cb W.we,Cd W.wn,Ce W.wc,Cf W.wr,Cg W.ww,Ch W.wo,Ci W.c.F,Ck W.c.L,Cl W.c.S,Cm W.ej,Cn W.es,Co W.c.jd,Cp W.c.jt,Cq W.c.jb,Cr W.c.jr,Cs W.c.jk,Ct W.c.B,Cu W.c.sf]
abbrev outG (W:WC):R4:=(W.wd,W.we,W.wn,W.wc,W.wr,W.ww,W.wo,W.c.F,W.c.L,W.c.S,W.ej,W.es,W.c.jd,W.c.jt,W.c.jb,W.c.jr,W.c.jk,W.c.B,W.c.sf)
theorem sO (W:WC){w x d rho T n:Nat}{s s':ab}{said:List dN}{done o:List au}(h:WX W w x d rho T n s s' said done o)(keep:Int)(hT:T<=1000000)(hn:n<=90000):
  ∃we wn wc wr wo ej es F L S jd jt jb jr jk B sf x' j' s2 done2,Ev1 (λk=>MK k w keep W) (outG ⟨W.wd,we,W.ws,wn,wc,wr,W.ww,wo,ej,es,⟨F,W.c.R,L,S,jd,jt,jb,jr,jk,B,sf⟩⟩) /\
   WG ⟨W.wd,we,W.ws,wn,wc,wr,W.ww,wo,ej,es,⟨F,W.c.R,L,S,jd,jt,jb,jr,jk,B,sf⟩⟩ w x' j' d rho T (n+1) s2 said done2/\((s2=s/\done2=done)\/∃e,o=[e]/\s2=(doF s e).1/\done2=done++[e]):=by
 obtain⟨t,bs,rs,p,sb,evs,hD,hS,htT,hp⟩:=h.dx;obtain⟨B',sf',rs',p',hrest,hrs,hRS⟩:=EP hD keep;have hRS:=hRS W.c.jd W.c.jt W.c.jb W.c.jr W.c.jk
 -- the state behind it
 have hsrc:∃s2 evs2,Src t bs rs' s2 sb evs2/\(s2=s\/s2=s'):=by
  rcases hrs with hrs|⟨e0,hp0,hrs⟩
  ·exact⟨s,evs,by rw[hrs];exact hS,.inl rfl⟩
  ·rcases hp with hp|⟨e,hp,he,hs'⟩
   ·rw[hp]at hp0;have:=congrArg List.length hp0;rw[jh]at this;simp at this;omega
   ·have hl0:e0.length<=80:=(hRS.rcs e0 (by rw[hrs];simp)).2;have:=(IV he).2;have heq:e0=encE e:=Ml (by omega) (by omega) (hp0.symm.trans hp);rw[hrs,heq];exact⟨(doF s e).1,evs++[e],hS.snoc he,.inr hs'⟩
 obtain⟨s2,evs2,hS2,hs2⟩:=hsrc;obtain⟨c',ho,hJ,hL⟩:=GU hRS h.b.al.jt h.b.al.jb h.b.al.jr h.b.al.jk (by omega) W.ej W.es h.b.al.es hS2;obtain⟨F,R,L,S,jd,jt,jb,jr,jk,B,sf⟩:=c';have hR:R=W.c.R:=hL.R;subst hR;have hinv2:=hS2.invS;have hwe:(W.we.set w (some W.ej.length)).getD w none=some W.ej.length:=ai _ _ _ _ h.b.we.1;have hst:Ev1 (λk=>CF k gh b5 [inj (.ref 30) ((W.we.set w (some W.ej.length)).getD w none),Cn (W.es++[s2])]) (s2,W.es++[s2]):=by
  rw[hwe];exact eev (aP _ _ _ h.b.al.es.symm)
 have hal:∀wn':List (List au),wn'.length=W.wn.length->Al ⟨W.wd,W.we.set w (some W.ej.length),W.ws,wn',W.wc.set w (w64 (W.wc.getD w 0+1)),W.wr.set w none,W.ww,W.wo.set w [],W.ej++[some W.c.jd.length],W.es++[s2],⟨F,W.c.R,L,S,jd,jt,jb,jr,jk,B,sf⟩⟩:=λwn' h1=>by
  have e0:jd=W.c.jd++[some d]:=hL.jd;have e1:jt.length=W.c.jt.length+1:=hL.jt;have e2:jb.length=W.c.jb.length+1:=hL.jb;have e3:jr.length=W.c.jr.length+1:=hL.jr;have e4:jk.length=W.c.jk.length+1:=hL.jk;have e5:F.length=W.c.F.length:=hL.F;have e6:L.length=(W.c.L.set d (-1)).length:=congrArg List.length hL.L;have e7:S.length=(W.c.S.set d false).length:=congrArg List.length hL.S;have al:=h.b.al;constructor
  all_goals dsimp only
  ·rw[NA];exact al.we
  ·exact al.ws
  ·rw[h1];exact al.wn
  ·rw[NA];exact al.wr
  ·exact al.ww
  ·rw[NA];exact al.wo
  ·simp[al.es]
  ·rw[e0,e1,al.jt];simp
  ·rw[e0,e2,al.jb];simp
  ·rw[e0,e3,al.jr];simp
  ·rw[e0,e4,al.jk];simp
  ·rw[e5];exact al.R
  ·rw[e5,e6,NA];exact al.L
  ·rw[e5,e7,NA];exact al.S
 have base:∀wn' done',wn'.length=W.wn.length->wn'.getD w []=done'->done'.length<=n+1 ->
   WG ⟨W.wd,W.we.set w (some W.ej.length),W.ws,wn',W.wc.set w (w64 (W.wc.getD w 0+1)),W.wr.set w none,W.ww,W.wo.set w [],W.ej++[some W.c.jd.length],W.es++[s2],⟨F,W.c.R,L,S,jd,jt,jb,jr,jk,B,sf⟩⟩ w W.ej.length W.c.jd.length d rho T (n+1) s2 said done':=λwn' done' h1 h2 h3=>
  ⟨⟨h.b.wd,⟨by rw[NA];exact h.b.we.1,hwe⟩,h.b.ws,⟨by rw[h1];exact h.b.wn.1,h2⟩,⟨h3,by have:=h.b.nl.2;omega⟩,⟨by rw[NA];exact h.b.wr.1,ai _ _ _ _ h.b.wr.1⟩,h.b.ww,⟨by rw[NA];exact h.b.wo.1,ai _ _ _ _ h.b.wo.1⟩,
   hal wn' h1⟩,bk _ _ _,⟨by simp[h.b.al.es],aP _ _ _ h.b.al.es.symm⟩,⟨t,bs,rs',sb,evs2,hJ,hS2,htT⟩⟩
 have hdn:=h.b.nl.1
 -- the events that may have been done
 have loop:∃wn' done2,Ev2 (λk m=>gb k m (some w) w (((W.wo.getD w []).length:Nat):Int) (0:Int) W.wd (W.we.set w (some W.ej.length)) W.wn (W.wc.set w (w64 (W.wc.getD w 0+1))) (W.wr.set w none) W.ww W.wo F L S (W.ej++[some W.c.jd.length]) (W.es++[s2]) jd jt jb jr jk B sf)
   (outG ⟨W.wd,W.we.set w (some W.ej.length),W.ws,wn',W.wc.set w (w64 (W.wc.getD w 0+1)),W.wr.set w none,W.ww,W.wo.set w [],W.ej++[some W.c.jd.length],W.es++[s2],⟨F,W.c.R,L,S,jd,jt,jb,jr,jk,B,sf⟩⟩)/\wn'.length=W.wn.length/\wn'.getD w []=done2/\done2.length<=n+1/\((s2=s/\done2=done)\/∃e,o=[e]/\s2=(doF s e).1/\done2=done++[e]):=by
  have ends:∀(wn':List (List au)) (N:Nat),Ev2 (λk m=>gb k m (some w) w (N:Int) (N:Int) W.wd (W.we.set w (some W.ej.length)) wn' (W.wc.set w (w64 (W.wc.getD w 0+1))) (W.wr.set w none) W.ww W.wo F L S (W.ej++[some W.c.jd.length]) (W.es++[s2]) jd jt jb jr jk B sf)
    (outG ⟨W.wd,W.we.set w (some W.ej.length),W.ws,wn',W.wc.set w (w64 (W.wc.getD w 0+1)),W.wr.set w none,W.ww,W.wo.set w [],W.ej++[some W.c.jd.length],W.es++[s2],⟨F,W.c.R,L,S,jd,jt,jb,jr,jk,B,sf⟩⟩):=λwn' N=>
   Ev2.step (λk m=>pg k m (some w) w (N:Int) (N:Int) W.wd _ wn' _ _ W.ww W.wo F L S _ _ jd jt jb jr jk B sf _ rfl _ rfl _ rfl _ rfl) (Ev2.negD (by omega) (Ev2.pos rfl (Ev2.now _)))
  rw[h.b.wo.2];rcases h.o with⟨ho0,hs0⟩|⟨e,ho0,heR,hs0,hne,hww⟩
  ·subst ho0;exact⟨W.wn,done,ends W.wn 0,rfl,h.b.wn.2,by omega,.inl ⟨by rcases hs2 with h|h;exact h;exact h.trans hs0,rfl⟩⟩
  ·subst ho0;have hs:Inv s:=hS.invS;have hi:=(sA hs e (tz heR).2).1;have hdo:=GW hs e;have hcd:encs (stL (doF s e).1)=encs (stL s2) ↔ (doF s e).1=s2:=⟨λh=>Ey (su (nP hi.st) (nP hinv2.st) h),λh=>by rw[h]⟩
   have st:=λk m=>pg k m (some w) w (([e]:List au).length:Int) (0:Int) W.wd (W.we.set w (some W.ej.length)) W.wn (W.wc.set w (w64 (W.wc.getD w 0+1))) (W.wr.set w none) W.ww W.wo F L S (W.ej++[some W.c.jd.length]) (W.es++[s2]) jd jt jb jr jk B sf (1:Int) (by rw[aL (by omega)];rfl) [e] h.b.wo.2.symm done h.b.wn.2.symm e rfl
   by_cases hq:(doF s e).1=s2
   ·refine⟨W.wn.set w (done++[e]),done++[e],Ev2.step st (Ev2.posD (by simp) (Ev2.pos rfl (Ev2.pos rfl ?_))),NA,ai _ _ _ _ h.b.wn.1,by rw[Ny];simp only[NC,NL];omega,.inr ⟨e,rfl,hq.symm,rfl⟩⟩;simp only[NN];rw[show W.ww.getD w ([],[],[],[],(0:Int))=s from hww];refine Ev2.bind hdo (Ev2.bind (ju _ hi.st) (Ev2.pos rfl (Ev2.bind hst (Ev2.bind (ju _ hinv2.st) (Ev2.pos ?_ (Ev2.pos rfl (Ev2.posD ?_ (Ev2.pos rfl (Ev2.pos (by simp) (ends _ 1))))))))))
    ·exact NK (hcd.2 hq)
    ·simp only[NC,NL];omega
   ·have h2:s2=s:=by rcases hs2 with h|h;exact h;exact(hq (hs0.symm.trans h.symm)).elim
    refine⟨W.wn,done,Ev2.step st (Ev2.posD (by simp) (Ev2.pos rfl (Ev2.pos rfl ?_))),rfl,h.b.wn.2,by omega,.inl ⟨h2,rfl⟩⟩;simp only[NN];rw[show W.ww.getD w ([],[],[],[],(0:Int))=s from hww];refine Ev2.bind hdo (Ev2.bind (ju _ hi.st) (Ev2.pos rfl (Ev2.bind hst (Ev2.bind (ju _ hinv2.st) (Ev2.neg ?_ (ends _ 1))))));exact NF (λh=>hq (hcd.1 h))
 obtain⟨wn',done2,hlp,hw1,hw2,hw3,hw4⟩:=loop;refine⟨_,wn',_,_,_,_,_,F,L,S,jd,jt,jb,jr,jk,B,sf,_,_,s2,done2,?_,base wn' done2 hw1 hw2 hw3,hw4⟩;refine Ev1.step (λk=>DL k (some w) keep W.wd W.we W.wn W.wc W.wr W.ww W.wo W.c.F W.c.L W.c.S W.ej W.es W.c.jd W.c.jt W.c.jb W.c.jr W.c.jk W.c.B W.c.sf _ rfl) (Ev1.pos rfl (Ev1.pos rfl (Ev1.pos rfl ?_)));simp only[NN];rw[h.b.wd];refine Ev1.bind hrest (Ev1.pos rfl ?_);dsimp only;refine Ev1.bind ho (Ev1.pos rfl (Ev1.pos rfl (Ev1.pos rfl (Ev1.neg ?_ (Ev1.pos rfl hlp.diag)))));dsimp only;rw[ai _ _ _ _ h.b.wr.1];rfl
theorem GV (W:WC){w x j d rho T n:Nat}{s:ab}{said:List dN}{done:List au}(h:WG W w x j d rho T n s said done)(e:au)(he:evR e)(hsm:(encs (stL s)).length<=16000)(hT:T<1000000)(hn:n<=90000):
  ∃o wn ww wo es c,Ev1 (λk=>I7 k w e W) (outD o ⟨W.wd,W.we,W.ws,wn,W.wc,W.wr,ww,wo,W.ej,es,c⟩) /\
   ((o=(doF s e).2/\WG ⟨W.wd,W.we,W.ws,wn,W.wc,W.wr,ww,wo,W.ej,es,c⟩ w x j d rho (T+1) (n+1) (doF s e).1 said (done++[e])/\∀u,Calm W.c d u->u+86<=rho->Calm c d (u+86)) \/
    (o=(8,0)/\WG ⟨W.wd,W.we,W.ws,wn,W.wc,W.wr,ww,wo,W.ej,es,c⟩ w x j d rho (T+1) (n+1) s said done/\∀u,Calm W.c d u->rho<u+86) \/
    (o=(12,0)/\WX ⟨W.wd,W.we,W.ws,wn,W.wc,W.wr,ww,wo,W.ej,es,c⟩ w x d rho (T+1) (n+1) s (doF s e).1 said done [e]/\∀u,Calm W.c d u->rho<u+86)):=by
 have hinv:=h.de.inv;obtain⟨h8,h12⟩:=(Nl hinv e he).2.2;have hst:Ev1 (λk=>CF k gh b5 [inj (.ref 30) (W.we.getD w none),Cn W.es]) (s,W.es):=by rw[h.b.we.2];exact eev h.es.2
 have hnl:=h.b.nl;have stp:=λk=>Gp k (some w) e W.we W.wn W.ww W.wo W.c.F W.c.R W.c.L W.c.S W.ej W.es W.c.jd W.c.jt W.c.jb W.c.jr W.c.jk W.c.B W.c.sf _ rfl _ rfl
 have go:∀{o:ah} {c':DC} {es':List ab} {g:Nat->R9->Option R6} {r:R6},Ev1 (λk=>uP k x e W.ej W.es W.c) (sW o c' W.ej es')->Ev1 (λk=>g k (sW o c' W.ej es')) r ->
   Ev1 (λk=>(CF k Gf vH [inj (.ref 30) (W.we.getD w none),inj aH e,Ci W.c.F,Cj W.c.R,Ck W.c.L,Cl W.c.S,Cm W.ej,Cn W.es,Co W.c.jd,Cp W.c.jt,Cq W.c.jb,Cr W.c.jr,Cs W.c.jk,Ct W.c.B,Cu W.c.sf]).bind (g k)) r:=λ{o c' es' g r} hd hg=>by
  rw[h.b.we.2];exact Ev1.bind hd hg
 rcases No W.c h.de h.ej h.es.1 h.es.2 e he hsm hT with⟨c',hd,hE,hL,hca⟩|⟨c',hd,hE,hL,hca⟩|⟨c',hd,hne,hX,hL,hca⟩
 ·refine⟨(doF s e).2,W.wn.set w (W.wn.getD w []++[e]),W.ww.set w s,W.wo,W.es.set x (doF s e).1,c',Ev1.step stp (Ev1.pos rfl (Ev1.bind hst (Ev1.pos rfl (Ev1.pos rfl (go hd ?_))))),.inl ⟨rfl,⟨⟨h.b.wd,h.b.we,h.b.ws,⟨by dsimp only;rw[NA];exact h.b.wn.1,by dsimp only;rw[ai _ _ _ _ h.b.wn.1,h.b.wn.2]⟩,⟨by rw[Ny];simp only[NC,NL];omega,by omega⟩,h.b.wr,by dsimp only;rw[NA];exact h.b.ww,h.b.wo,h.b.al.lens rfl rfl rfl NA rfl NA rfl NA rfl hL⟩,h.ej,⟨by dsimp only;rw[NA];exact h.es.1,ai _ _ _ _ h.es.1⟩,hE⟩,hca⟩⟩;exact Ev1.negD h12 (Ev1.negD h8 (Ev1.pos rfl (Ev1.posD (by simp only[NN,NC,NL];rw[h.b.wn.2];omega) (Ev1.pos rfl (Ev1.pos (by simp) (Ev1.now _))))))
 ·refine⟨(8,0),W.wn,W.ww.set w s,W.wo,W.es,c',Ev1.step stp (Ev1.pos rfl (Ev1.bind hst (Ev1.pos rfl (Ev1.pos rfl (go hd ?_))))),.inr (.inl ⟨rfl,⟨⟨h.b.wd,h.b.we,h.b.ws,h.b.wn,⟨by omega,by omega⟩,h.b.wr,by dsimp only;rw[NA];exact h.b.ww,h.b.wo,h.b.al.lens rfl rfl rfl rfl rfl NA rfl rfl rfl hL⟩,h.ej,h.es,hE⟩,hca⟩)⟩;exact Ev1.negD (show ¬ (8:Int)=12 by omega) (Ev1.posD rfl (Ev1.now _))
 ·refine⟨(12,0),W.wn,W.ww.set w s,W.wo.set w (W.wo.getD w []++[e]),W.es,c',Ev1.step stp (Ev1.pos rfl (Ev1.bind hst (Ev1.pos rfl (Ev1.pos rfl (go hd ?_))))),.inr (.inr ⟨rfl,⟨⟨h.b.wd,h.b.we,h.b.ws,h.b.wn,⟨by omega,by omega⟩,h.b.wr,by dsimp only;rw[NA];exact h.b.ww,⟨by dsimp only;rw[NA];exact h.b.wo.1,by dsimp only;rw[ai _ _ _ _ h.b.wo.1,h.b.wo.2];rfl⟩,h.b.al.lens rfl rfl rfl rfl rfl NA NA rfl rfl hL⟩,hX,.inr ⟨e,rfl,he,rfl,hne,ai _ _ _ _ h.b.ww⟩⟩,hca⟩)⟩;exact Ev1.posD rfl (Ev1.pos rfl (Ev1.posD (by simp only[NN,NC,NL];rw[h.b.wo.2];simp) (Ev1.pos rfl (Ev1.pos (by simp) (Ev1.now _)))))
theorem MO (W:WC){w x j d rho T n:Nat}{s:ab}{said:List dN}{done:List au}(h:WG W w x j d rho T n s said done)(r:ae)(he:evR (0,r,0,false))(hsm:(encs (stL s)).length<=16000)(hT:T<1000000)(hn:n<=90000):
  ∃o ws wn ww wo es c,Ev1 (λk=>Lk k w r W) (outK ⟨W.wd,W.we,ws,wn,W.wc,W.wr,ww,wo,W.ej,es,c⟩) /\
   ((o=(doF s (0,r,0,false)).2/\WG ⟨W.wd,W.we,ws,wn,W.wc,W.wr,ww,wo,W.ej,es,c⟩ w x j d rho (T+1) (n+1) (doF s (0,r,0,false)).1 (said++[(r,o)]) (done++[(0,r,0,false)])/\∀u,Calm W.c d u->u+86<=rho->Calm c d (u+86)) \/
    (o=(8,0)/\WG ⟨W.wd,W.we,ws,wn,W.wc,W.wr,ww,wo,W.ej,es,c⟩ w x j d rho (T+1) (n+1) s (said++[(r,o)]) done/\∀u,Calm W.c d u->rho<u+86) \/
    (o=(12,0)/\WX ⟨W.wd,W.we,ws,wn,W.wc,W.wr,ww,wo,W.ej,es,c⟩ w x d rho (T+1) (n+1) s (doF s (0,r,0,false)).1 (said++[(r,o)]) done [(0,r,0,false)]/\∀u,Calm W.c d u->rho<u+86)):=by
 obtain⟨o,wn,ww,wo,es,c,hd,hc⟩:=GV W h (0,r,0,false) he hsm hT hn;have hnl:=h.b.nl;have mk:∀{done' o':List au},WB ⟨W.wd,W.we,W.ws,wn,W.wc,W.wr,ww,wo,W.ej,es,c⟩ w x d (n+1) said done' o'->WB ⟨W.wd,W.we,W.ws.set w (W.ws.getD w []++[(r,o)]),wn,W.wc,W.wr,ww,wo,W.ej,es,c⟩ w x d (n+1) (said++[(r,o)]) done' o':=λ{done' o'} b=>
  ⟨b.wd,b.we,⟨by dsimp only;rw[NA];exact h.b.ws.1,by dsimp only;rw[ai _ _ _ _ h.b.ws.1,h.b.ws.2]⟩,b.wn,⟨b.nl.1,by rw[Ny];simp only[NC,NL];omega⟩,b.wr,b.ww,b.wo,b.al.lens rfl rfl NA rfl rfl rfl rfl rfl rfl (Lens.refl _)⟩
 refine⟨o,W.ws.set w (W.ws.getD w []++[(r,o)]),wn,ww,wo,es,c,Ev1.step (λk=>II k (some w) r W.we W.ws W.wn W.ww W.wo W.c.F W.c.R W.c.L W.c.S W.ej W.es W.c.jd W.c.jt W.c.jb W.c.jr W.c.jk W.c.B W.c.sf _ rfl) (Ev1.pos rfl (Ev1.bind hd (Ev1.posD ?_ (Ev1.pos rfl (Ev1.pos (by simp) (Ev1.now _)))))),?_⟩
 ·simp only[NN];rw[h.b.ws.2];simp only[NC,NL];omega
 ·rcases hc with⟨ho,hG,hca⟩|⟨ho,hG,hca⟩|⟨ho,hX,hca⟩
  ·exact .inl ⟨ho,⟨mk hG.b,hG.ej,hG.es,hG.de⟩,hca⟩
  ·exact .inr (.inl ⟨ho,⟨mk hG.b,hG.ej,hG.es,hG.de⟩,hca⟩)
  ·exact .inr (.inr ⟨ho,⟨mk hX.b,hX.dx,hX.o⟩,hca⟩)
end Go.Eng.Top
namespace Go.Eng.Top
open Go.RowKit Go.Eng Go.Eng.LVar Go.Eng.LCrc Go.Eng.LFrm
set_option maxRecDepth 100000
theorem wU {s:ab}(h:Inv s){q:Int}(hq:q∈jZ s):0<=q/\q<1073741824:=by
 obtain⟨g,hg,e⟩:=N9.1 hq;have:=(h.gr g hg).1;rw[<- e];unfold mayB at this;split at this
 ·cases this
 ·omega
theorem JG.arm {c:DC}{j d rho t:Nat}{bs:List Int}{rs:List (List Int)}(h:JG c j d rho t bs rs){L':List Int}(hL:OkL L' d):JG ⟨c.F,c.R,L',c.S,c.jd,c.jt,c.jb,c.jr,c.jk,c.B,c.sf⟩ j d rho t bs rs:=
 ⟨h.dg.next rfl hL,h.jd,h.jt,h.jb,h.jr,h.jk,h.bsf,h.files,h.sum,h.rcs,h.tb⟩
structure AOj (a:au):Prop where
 kind:0<=a.1/\a.1<=5
 n:0<=a.2.2.1/\a.2.2.1<=1000000
section
variable {A:ae->Prop} (hAR:∀r,A r->mayB r=true/\I64 (rqL r))(hsm:∀{s:ab} {said:List dN} {done:List au},Rch A s said done->(encs (stL s)).length<=16000)
include hAR hsm
theorem Nq (W:WC){w x j d rho T n:Nat}{s:ab}{said:List dN}{done:List au}(h:WG W w x j d rho T n s said done)(hR:Rch A s said done)(a:au)(ha:AOj a)(hA:a.1=0->A a.2.1)(keep:Int)(hT:T<999990)(hn:n<=89000):
  ∃W' x' j' s' said' done',Ev1 (λk=>Ll k w a keep W) (outW W')/\WG W' w x' j' d rho (T+1) (n+2) s' said' done'/\Rch A s' said' done'/\(a.1<=3->∀u,Calm W.c d u->u+86<=rho->Calm W'.c d (u+86)/\(s',said')=actF (s,said) a):=by
 have hwr:(W.wr.getD w none).isSome=false:=by rw[h.b.wr.2];rfl
 have step:=λk=>IJ k (some w) a keep W.wd W.we W.ws W.wn W.wc W.wr W.ww W.wo W.c.F W.c.R W.c.L W.c.S W.ej W.es W.c.jd W.c.jt W.c.jb W.c.jr W.c.jk W.c.B W.c.sf said (by simp only[NN];exact h.b.ws.2.symm) _ rfl _ rfl
 have hsl:=h.b.nl.2;have hinv:=h.de.inv;have hsmall:=hsm hR;have evA:∀r,A r->evR (0,r,0,false):=λr hr=>.inl ⟨rfl,(hAR r hr).1,(hAR r hr).2,rfl⟩
 by_cases k0:a.1=0
 ·have hr:=hA k0;obtain⟨o,ws,wn,ww,wo,es,c,hk,hc⟩:=MO W h a.2.1 (evA _ hr) hsmall (by omega) (by omega);rcases hc with⟨ho,hG,hca⟩|⟨ho,hG,hca⟩|⟨ho,hX,hca⟩
  ·subst ho;refine⟨_,x,j,_,_,_,Ev1.step step (Ev1.pos rfl (Ev1.neg hwr (Ev1.posD k0 (Ev1.bind hk (Ev1.pos rfl (Ev1.bind (iO hG) (Ev1.neg rfl (Ev1.now (outW ⟨W.wd,W.we,ws,wn,W.wc,W.wr,ww,wo,W.ej,es,c⟩))))))))),hG.mono (NG _) (by omega),Rch.ask _ hr hR,λ_ u h1 h2=>⟨hca u h1 h2,?_⟩⟩;unfold actF askS;rw[NI k0]
  ·subst ho;exact⟨_,x,j,_,_,_,Ev1.step step (Ev1.pos rfl (Ev1.neg hwr (Ev1.posD k0 (Ev1.bind hk (Ev1.pos rfl (Ev1.bind (iO hG) (Ev1.neg rfl (Ev1.now (outW ⟨W.wd,W.we,ws,wn,W.wc,W.wr,ww,wo,W.ej,es,c⟩))))))))),hG.mono (NG _) (by omega),Rch.lost _ _ hr (.inl rfl) hR,λ_ u h1 h2=>by have:=hca u h1;omega⟩
  ·subst ho;obtain⟨we2,wn2,wc2,wr2,wo2,ej2,es2,F,L,S,jd,jt,jb,jr,jk,B,sf,x',j',s2,done2,hag,hG2,hcs⟩:=sO _ hX keep (by omega) (by omega);refine⟨_,x',j',s2,_,done2,Ev1.step step (Ev1.pos rfl (Ev1.neg hwr (Ev1.posD k0 (Ev1.bind hk (Ev1.pos rfl (Ev1.bind (wY hX) (Ev1.pos rfl (Ev1.bind hag (Ev1.now (outW ⟨W.wd,we2,ws,wn2,wc2,wr2,ww,wo2,ej2,es2,⟨F,c.R,L,S,jd,jt,jb,jr,jk,B,sf⟩⟩)))))))))),hG2.mono (NG _) (by omega),?_,λ_ u h1 h2=>by have:=hca u h1;omega⟩;rcases hcs with⟨e1,e2⟩|⟨e,e0,e1,e2⟩
   ·rw[e1,e2];exact Rch.lost _ _ hr (.inr rfl) hR
   ·cases e0;rw[e1,e2];exact Rch.kept _ _ hr rfl hR
 by_cases k1:a.1=1
 ·by_cases hs:0<(said.length:Int)
  ·have hm:=Er ha.n.1 hs;have hmem:=CG said zS hm;have hr:=hR.said _ hmem;obtain⟨o,ws,wn,ww,wo,es,c,hk,hc⟩:=MO W h (said.getD (Int.toNat (Int.tmod a.2.2.1 (said.length:Int))) zS).1 (evA _ hr) hsmall (by omega) (by omega);have hz:(!decide ((said.length:Int)=0))=true:=by rw[NF (show ¬ ((said.length:Int)=0) by omega)];rfl
   rcases hc with⟨ho,hG,hca⟩|⟨ho,hG,hca⟩|⟨ho,hX,hca⟩
   ·subst ho;refine⟨_,x,j,_,_,_,Ev1.step step (Ev1.pos rfl (Ev1.neg hwr (Ev1.negD k0 (Ev1.posD k1 (Ev1.pos rfl (Ev1.posD hs (Ev1.pos rfl (Ev1.pos rfl (Ev1.pos hz (Ev1.pos (aj hm.1 hm.2) (Ev1.bind hk (Ev1.pos rfl (Ev1.bind (iO hG) (Ev1.neg rfl (Ev1.now (outW ⟨W.wd,W.we,ws,wn,W.wc,W.wr,ww,wo,W.ej,es,c⟩)))))))))))))))),hG.mono (NG _) (by omega),Rch.ask _ hr hR,λ_ u h1 h2=>⟨hca u h1 h2,?_⟩⟩;unfold actF askS;rw[ND k0,NI k1,NI hs]
   ·subst ho;exact⟨_,x,j,_,_,_,Ev1.step step (Ev1.pos rfl (Ev1.neg hwr (Ev1.negD k0 (Ev1.posD k1 (Ev1.pos rfl (Ev1.posD hs (Ev1.pos rfl (Ev1.pos rfl (Ev1.pos hz (Ev1.pos (aj hm.1 hm.2) (Ev1.bind hk (Ev1.pos rfl (Ev1.bind (iO hG) (Ev1.neg rfl (Ev1.now (outW ⟨W.wd,W.we,ws,wn,W.wc,W.wr,ww,wo,W.ej,es,c⟩)))))))))))))))),hG.mono (NG _) (by omega),Rch.lost _ _ hr (.inl rfl) hR,λ_ u h1 h2=>by have:=hca u h1;omega⟩
   ·subst ho;obtain⟨we2,wn2,wc2,wr2,wo2,ej2,es2,F,L,S,jd,jt,jb,jr,jk,B,sf,x',j',s2,done2,hag,hG2,hcs⟩:=sO _ hX keep (by omega) (by omega);refine⟨_,x',j',s2,_,done2,Ev1.step step (Ev1.pos rfl (Ev1.neg hwr (Ev1.negD k0 (Ev1.posD k1 (Ev1.pos rfl (Ev1.posD hs (Ev1.pos rfl (Ev1.pos rfl (Ev1.pos hz (Ev1.pos (aj hm.1 hm.2) (Ev1.bind hk (Ev1.pos rfl (Ev1.bind (wY hX) (Ev1.pos rfl (Ev1.bind hag (Ev1.now (outW ⟨W.wd,we2,ws,wn2,wc2,wr2,ww,wo2,ej2,es2,⟨F,c.R,L,S,jd,jt,jb,jr,jk,B,sf⟩⟩))))))))))))))))),hG2.mono (NG _) (by omega),?_,λ_ u h1 h2=>by have:=hca u h1;omega⟩;rcases hcs with⟨e1,e2⟩|⟨e,e0,e1,e2⟩
    ·rw[e1,e2];exact Rch.lost _ _ hr (.inr rfl) hR
    ·cases e0;rw[e1,e2];exact Rch.kept _ _ hr rfl hR
  ·refine⟨W,x,j,s,said,done,Ev1.step step (Ev1.pos rfl (Ev1.neg hwr (Ev1.negD k0 (Ev1.posD k1 (Ev1.pos rfl (Ev1.negD hs (Ev1.pos rfl (Ev1.bind (iO h) (Ev1.neg rfl (Ev1.now (outW W))))))))))),h.mono (by omega) (by omega),hR,λ_ u h1 h2=>⟨⟨h1.1,by have:=h1.2;omega⟩,?_⟩⟩;unfold actF;rw[ND k0,NI k1,ND hs]
 by_cases k2:a.1=2
 ·have hst:Ev1 (λk=>CF k gh b5 [inj (.ref 30) (W.we.getD w none),Cn W.es]) (s,W.es):=by rw[h.b.we.2];exact eev h.es.2
  have hwt:=Hr hinv.gl;by_cases hs:0<((jZ s).length:Int)
  ·have hm:=Er ha.n.1 hs;have hmem:=CG (jZ s) 0 hm;have hkey:=wU hinv hmem;have hz:(!decide (((jZ s).length:Int)=0))=true:=by rw[NF (show ¬ (((jZ s).length:Int)=0) by omega)];rfl
   have heR:evR (1,zR,(jZ s).getD (Int.toNat (Int.tmod a.2.2.1 ((jZ s).length:Int))) 0,a.2.2.2):=.inr (.inl ⟨rfl,rfl,by dsimp only;omega,by dsimp only;omega⟩);obtain⟨o,wn,ww,wo,es,c,hk,hc⟩:=GV W h _ heR hsmall (by omega) (by omega);rcases hc with⟨ho,hG,hca⟩|⟨ho,hG,hca⟩|⟨ho,hX,hca⟩
   ·refine⟨_,x,j,_,_,_,Ev1.step step (Ev1.pos rfl (Ev1.neg hwr (Ev1.negD k0 (Ev1.negD k1 (Ev1.posD k2 (Ev1.pos rfl (Ev1.bind hst (Ev1.bind hwt (Ev1.posD hs (Ev1.pos hz (Ev1.pos (aj hm.1 hm.2) (Ev1.bind hk (Ev1.pos rfl (Ev1.bind (iO hG) (Ev1.neg rfl (Ev1.now (outW ⟨W.wd,W.we,W.ws,wn,W.wc,W.wr,ww,wo,W.ej,es,c⟩))))))))))))))))),hG.mono (NG _) (by omega),Rch.ev _ heR (by simp) hR,λ_ u h1 h2=>⟨hca u h1 h2,?_⟩⟩;unfold actF;rw[ND k0,ND k1,NI k2,NI hs]
   ·exact⟨_,x,j,_,_,_,Ev1.step step (Ev1.pos rfl (Ev1.neg hwr (Ev1.negD k0 (Ev1.negD k1 (Ev1.posD k2 (Ev1.pos rfl (Ev1.bind hst (Ev1.bind hwt (Ev1.posD hs (Ev1.pos hz (Ev1.pos (aj hm.1 hm.2) (Ev1.bind hk (Ev1.pos rfl (Ev1.bind (iO hG) (Ev1.neg rfl (Ev1.now (outW ⟨W.wd,W.we,W.ws,wn,W.wc,W.wr,ww,wo,W.ej,es,c⟩))))))))))))))))),hG.mono (NG _) (by omega),hR,λ_ u h1 h2=>by have:=hca u h1;omega⟩
   ·obtain⟨we2,wn2,wc2,wr2,wo2,ej2,es2,F,L,S,jd,jt,jb,jr,jk,B,sf,x',j',s2,done2,hag,hG2,hcs⟩:=sO _ hX keep (by omega) (by omega);refine⟨_,x',j',s2,_,done2,Ev1.step step (Ev1.pos rfl (Ev1.neg hwr (Ev1.negD k0 (Ev1.negD k1 (Ev1.posD k2 (Ev1.pos rfl (Ev1.bind hst (Ev1.bind hwt (Ev1.posD hs (Ev1.pos hz (Ev1.pos (aj hm.1 hm.2) (Ev1.bind hk (Ev1.pos rfl (Ev1.bind (wY hX) (Ev1.pos rfl (Ev1.bind hag (Ev1.now (outW ⟨W.wd,we2,W.ws,wn2,wc2,wr2,ww,wo2,ej2,es2,⟨F,c.R,L,S,jd,jt,jb,jr,jk,B,sf⟩⟩)))))))))))))))))),hG2.mono (NG _) (by omega),?_,λ_ u h1 h2=>by have:=hca u h1;omega⟩;rcases hcs with⟨e1,e2⟩|⟨e,e0,e1,e2⟩
    ·rw[e1,e2];exact hR
    ·cases e0;rw[e1,e2];exact Rch.ev _ heR (by simp) hR
  ·refine⟨W,x,j,s,said,done,Ev1.step step (Ev1.pos rfl (Ev1.neg hwr (Ev1.negD k0 (Ev1.negD k1 (Ev1.posD k2 (Ev1.pos rfl (Ev1.bind hst (Ev1.bind hwt (Ev1.negD hs (Ev1.pos rfl (Ev1.bind (iO h) (Ev1.neg rfl (Ev1.now (outW W)))))))))))))),h.mono (by omega) (by omega),hR,λ_ u h1 h2=>⟨⟨h1.1,by have:=h1.2;omega⟩,?_⟩⟩;unfold actF;rw[ND k0,ND k1,NI k2,ND hs]
 by_cases k3:a.1=3
 ·have heR:evR (2,zR,0,false):=.inr (.inr rfl);obtain⟨o,wn,ww,wo,es,c,hk,hc⟩:=GV W h (2,zR,0,false) heR hsmall (by omega) (by omega);rcases hc with⟨ho,hG,hca⟩|⟨ho,hG,hca⟩|⟨ho,hX,hca⟩
  ·refine⟨_,x,j,_,_,_,Ev1.step step (Ev1.pos rfl (Ev1.neg hwr (Ev1.negD k0 (Ev1.negD k1 (Ev1.negD k2 (Ev1.posD k3 (Ev1.bind hk (Ev1.pos rfl (Ev1.bind (iO hG) (Ev1.neg rfl (Ev1.now (outW ⟨W.wd,W.we,W.ws,wn,W.wc,W.wr,ww,wo,W.ej,es,c⟩)))))))))))),hG.mono (NG _) (by omega),Rch.ev _ heR (by simp) hR,λ_ u h1 h2=>⟨hca u h1 h2,?_⟩⟩;unfold actF;rw[ND k0,ND k1,ND k2,NI k3]
  ·exact⟨_,x,j,_,_,_,Ev1.step step (Ev1.pos rfl (Ev1.neg hwr (Ev1.negD k0 (Ev1.negD k1 (Ev1.negD k2 (Ev1.posD k3 (Ev1.bind hk (Ev1.pos rfl (Ev1.bind (iO hG) (Ev1.neg rfl (Ev1.now (outW ⟨W.wd,W.we,W.ws,wn,W.wc,W.wr,ww,wo,W.ej,es,c⟩)))))))))))),hG.mono (NG _) (by omega),hR,λ_ u h1 h2=>by have:=hca u h1;omega⟩
  ·obtain⟨we2,wn2,wc2,wr2,wo2,ej2,es2,F,L,S,jd,jt,jb,jr,jk,B,sf,x',j',s2,done2,hag,hG2,hcs⟩:=sO _ hX keep (by omega) (by omega);refine⟨_,x',j',s2,_,done2,Ev1.step step (Ev1.pos rfl (Ev1.neg hwr (Ev1.negD k0 (Ev1.negD k1 (Ev1.negD k2 (Ev1.posD k3 (Ev1.bind hk (Ev1.pos rfl (Ev1.bind (wY hX) (Ev1.pos rfl (Ev1.bind hag (Ev1.now (outW ⟨W.wd,we2,W.ws,wn2,wc2,wr2,ww,wo2,ej2,es2,⟨F,c.R,L,S,jd,jt,jb,jr,jk,B,sf⟩⟩))))))))))))),hG2.mono (NG _) (by omega),?_,λ_ u h1 h2=>by have:=hca u h1;omega⟩;rcases hcs with⟨e1,e2⟩|⟨e,e0,e1,e2⟩
   ·rw[e1,e2];exact hR
   ·cases e0;rw[e1,e2];exact Rch.ev _ heR (by simp) hR
 by_cases k4:a.1=4
 ·obtain⟨t,bs,rs,sb,evs,hJ,hS,htT⟩:=h.de;have hke:∀{e:Option Int} {c':DC},Ev1 (λk=>yZ k x W.ej W.es W.c) (Dp e c' W.ej W.es)->Ev1 (λk=>CF k yh kC [inj (.ref 30) (W.we.getD w none),Ci W.c.F,Cj W.c.R,Ck W.c.L,Cl W.c.S,Cm W.ej,Cn W.es,Co W.c.jd,Cp W.c.jt,Cq W.c.jb,Cr W.c.jr,Cs W.c.jk,Ct W.c.B,Cu W.c.sf]) (Dp e c' W.ej W.es):=λ{e c'} he=>by rw[h.b.we.2];exact he
  have lens:∀c',Lens W.c c'->Al ⟨W.wd,W.we,W.ws,W.wn,W.wc,W.wr,W.ww,W.wo,W.ej,W.es,c'⟩:=λc' hL=>h.b.al.lens rfl rfl rfl rfl rfl rfl rfl rfl rfl hL
  rcases GX W.c hJ hS h.ej h.es.2 (by omega)with⟨e,he,hk⟩|⟨c',hk,hJ',hL⟩|⟨c',hk,hD,hL⟩
  ·exact⟨W,x,j,s,said,done,Ev1.step step (Ev1.pos rfl (Ev1.neg hwr (Ev1.negD k0 (Ev1.negD k1 (Ev1.negD k2 (Ev1.negD k3 (Ev1.posD k4 (Ev1.pos rfl (Ev1.bind (hke hk) (Ev1.pos rfl (Ev1.bind (iO h) (Ev1.neg rfl (Ev1.now (outW W)))))))))))))),h.mono (by omega) (by omega),hR,λh3=>by omega⟩
  ·have hG:WG ⟨W.wd,W.we,W.ws,W.wn,W.wc,W.wr,W.ww,W.wo,W.ej,W.es,c'⟩ w x j d rho (T+1) (n+2) s said done:=⟨⟨h.b.wd,h.b.we,h.b.ws,h.b.wn,⟨by have:=h.b.nl.1;omega,by omega⟩,h.b.wr,h.b.ww,h.b.wo,lens c' hL⟩,h.ej,h.es,⟨t+1,_,[],s,[],hJ',zq hinv _ (by omega),by omega⟩⟩
   exact⟨_,x,j,s,said,done,Ev1.step step (Ev1.pos rfl (Ev1.neg hwr (Ev1.negD k0 (Ev1.negD k1 (Ev1.negD k2 (Ev1.negD k3 (Ev1.posD k4 (Ev1.pos rfl (Ev1.bind (hke hk) (Ev1.pos rfl (Ev1.bind (iO hG) (Ev1.neg rfl (Ev1.now (outW ⟨W.wd,W.we,W.ws,W.wn,W.wc,W.wr,W.ww,W.wo,W.ej,W.es,c'⟩)))))))))))))),hG,hR,λh3=>by omega⟩
  ·have hX:WX ⟨W.wd,W.we,W.ws,W.wn,W.wc,W.wr,W.ww,W.wo,W.ej,W.es,c'⟩ w x d rho (T+1) n s s said done []:=⟨⟨h.b.wd,h.b.we,h.b.ws,h.b.wn,h.b.nl,h.b.wr,h.b.ww,h.b.wo,lens c' hL⟩,(hD s).mono (by omega),.inl ⟨rfl,rfl⟩⟩
   obtain⟨we2,wn2,wc2,wr2,wo2,ej2,es2,F,L,S,jd,jt,jb,jr,jk,B,sf,x',j',s2,done2,hag,hG2,hcs⟩:=sO _ hX keep (by omega) (by omega);refine⟨_,x',j',s2,_,done2,Ev1.step step (Ev1.pos rfl (Ev1.neg hwr (Ev1.negD k0 (Ev1.negD k1 (Ev1.negD k2 (Ev1.negD k3 (Ev1.posD k4 (Ev1.pos rfl (Ev1.bind (hke hk) (Ev1.pos rfl (Ev1.bind (wY hX) (Ev1.pos rfl (Ev1.bind hag (Ev1.now (outW ⟨W.wd,we2,W.ws,wn2,wc2,wr2,W.ww,wo2,ej2,es2,⟨F,c'.R,L,S,jd,jt,jb,jr,jk,B,sf⟩⟩))))))))))))))),hG2.mono (NG _) (by omega),?_,λh3=>by omega⟩;rcases hcs with⟨e1,e2⟩|⟨e,e0,e1,e2⟩
   ·rw[e1,e2];exact hR
   ·cases e0
 have k5:a.1=5:=by have:=ha.kind;omega
 obtain⟨t,bs,rs,sb,evs,hJ,hS,htT⟩:=h.de;have hmax:maxI 0 a.2.2.1=a.2.2.1:=by
  unfold maxI;have:=ha.n.1;by_cases hq:(0:Int)<a.2.2.1
  ·rw[NK hq];rfl
  ·rw[NF hq,NS];omega
 have harm:Ev1 (λk=>CF k IE vJ [inj (.ref 29) (W.wd.getD w none),inj (.int .i64) a.2.2.1,Ck W.c.L]) (W.c.L.set d a.2.2.1):=by
  rw[h.b.wd];refine Ev1.step (λk=>IT k (some d) a.2.2.1 W.c.L) (Ev1.pos rfl (Ev1.const ?_));show some (W.c.L.set d (maxI 0 a.2.2.1))=_;rw[hmax]
 have hOk:OkL (W.c.L.set d a.2.2.1) d:=⟨by rw[NA];exact hJ.dg.L.h,by rw[ai _ _ _ _ hJ.dg.L.h];have:=ha.n.1;omega,by rw[ai _ _ _ _ hJ.dg.L.h];exact ha.n.2⟩
 have hG:WG ⟨W.wd,W.we,W.ws,W.wn,W.wc,W.wr,W.ww,W.wo,W.ej,W.es,⟨W.c.F,W.c.R,W.c.L.set d a.2.2.1,W.c.S,W.c.jd,W.c.jt,W.c.jb,W.c.jr,W.c.jk,W.c.B,W.c.sf⟩⟩ w x j d rho (T+1) (n+2) s said done:=
  ⟨⟨h.b.wd,h.b.we,h.b.ws,h.b.wn,⟨by have:=h.b.nl.1;omega,by omega⟩,h.b.wr,h.b.ww,h.b.wo,h.b.al.lens rfl rfl rfl rfl rfl rfl rfl rfl rfl ⟨rfl,rfl,NA,rfl,rfl,rfl,rfl,rfl,rfl⟩⟩,h.ej,h.es,⟨t,bs,rs,sb,evs,hJ.arm hOk,hS,by omega⟩⟩
 have hst:Ev1 (λk=>CF k kR fj [inj (.ref 29) (W.wd.getD w none),Cl W.c.S]) (false,W.c.S):=iO h;exact⟨_,x,j,s,said,done,Ev1.step step (Ev1.pos rfl (Ev1.neg hwr (Ev1.negD k0 (Ev1.negD k1 (Ev1.negD k2 (Ev1.negD k3 (Ev1.negD k4 (Ev1.posD k5 (Ev1.pos rfl (Ev1.bind harm (Ev1.pos rfl (Ev1.bind hst (Ev1.neg rfl (Ev1.now (outW ⟨W.wd,W.we,W.ws,W.wn,W.wc,W.wr,W.ww,W.wo,W.ej,W.es,⟨W.c.F,W.c.R,W.c.L.set d a.2.2.1,W.c.S,W.c.jd,W.c.jt,W.c.jb,W.c.jr,W.c.jk,W.c.B,W.c.sf⟩⟩))))))))))))))),hG,hR,λh3=>by omega⟩
theorem Jr (b:List Int)(ac:List au)(hl:ac.length<=1000)(hb:6*ac.length<=b.length)(hok:∀a∈ac,AOj a/\(a.1=0->A a.2.1))(w d rho:Nat):∀(dd i:Nat)(W:WC)(x j T n:Nat)(s:ab)(said:List dN)(done:List au),i+dd=ac.length->WG W w x j d rho T n s said done->Rch A s said done->T<=i->n<=2*i ->
  ∃W' x' j' T' n' s' said' done',Ev2 (λk m=>Ni k m b w ac (i:Int) W) (outO w W')/\WG W' w x' j' d rho T' n' s' said' done'/\Rch A s' said' done'/\T'<=1000/\n'<=2000/\((∀a∈ac,a.1<=3)->∀u,Calm W.c d u->u+86*dd<=rho->(s',said')=(ac.drop i).foldl actF (s,said))
 |0,i,W,x,j,T,n,s,said,done,hi,h,hR,hT,hn=>by
  refine⟨W,x,j,T,n,s,said,done,?_,h,hR,by omega,by omega,λ_ _ _ _=>by rw[Oi (by omega)];rfl⟩;exact Ev2.step (λk m=>JD k m b (some w) ac (ac.length:Int) (i:Int) W.wd W.we W.ws W.wn W.wc W.wr W.ww W.wo W.c.F W.c.R W.c.L W.c.S W.ej W.es W.c.jd W.c.jt W.c.jb W.c.jr W.c.jk W.c.B W.c.sf _ rfl) (Ev2.negD (by omega) (Ev2.now _))
 |dd+1,i,W,x,j,T,n,s,said,done,hi,h,hR,hT,hn=>by
  have hlt:i<ac.length:=by omega
  have he:ac.getD (Int.toNat (i:Int)) ((0:Int),((0:Int),(0:Int),(0:Int),(0:Int),(0:Int),(0:Int),(0:Int)),(0:Int),false)=ac[i]:=by rw[NQ];exact bc ac i _ hlt
  have hk:((6*i+5:Nat):Int)=w64 (w64 (6*(i:Int))+5):=by rw[aL (x:=6*(i:Int)) (by omega),aL (by omega)];omega
  have st:=λk m=>JD k m b (some w) ac (ac.length:Int) (i:Int) W.wd W.we W.ws W.wn W.wc W.wr W.ww W.wo W.c.F W.c.R W.c.L W.c.S W.ej W.es W.c.jd W.c.jt W.c.jb W.c.jr W.c.jk W.c.B W.c.sf ((6*i+5:Nat):Int) hk
  obtain⟨W1,x1,j1,s1,said1,done1,g1,g2,g3,g4⟩:=Nq hAR hsm W h hR ac[i] (hok _ (N8 hlt)).1 (hok _ (N8 hlt)).2 (w64 (w64 (b.getD (Int.toNat ((6*i+5:Nat):Int)) 0)*7)) (by omega) (by omega);obtain⟨W',x',j',T',n',s',said',done',h1,h2,h3,h4,h5,h6⟩:=Jr b ac hl hb hok w d rho dd (i+1) W1 x1 j1 (T+1) (n+2) s1 said1 done1 (by omega) g2 g3 (by omega) (by omega);refine⟨W',x',j',T',n',s',said',done',Ev2.step st (Ev2.posD (by omega) (Ev2.pos (aj (by omega) (by omega)) (Ev2.pos (aj (by omega) (by omega)) ?_))),h2,h3,h4,h5,λhall u hu hru=>?_⟩
  ·rw[he];refine Ev2.bind g1 ?_;rw[wnat (by omega)];exact h1
  ·obtain⟨q1,q2⟩:=g4 (hall _ (N8 hlt)) u hu (by omega);rw[h6 hall (u+86) q1 (by omega),q2,Ob hlt,Pf]
end
noncomputable abbrev Li (k:Nat)(rho:Int)(W:WC):=CF k g_wO n_wO [inj I rho,Ca W.wd,Cb W.we,Cc W.ws,Cd W.wn,Ce W.wc,Cf W.wr,Cg W.ww,Ch W.wo,Ci W.c.F,Cj W.c.R,Ck W.c.L,Cl W.c.S,Cm W.ej,Cn W.es,Co W.c.jd,Cp W.c.jt,Cq W.c.jb,Cr W.c.jr,Cs W.c.jk,Ct W.c.B,Cu W.c.sf]
theorem L6 (W:WC)(h:Al W)(hbf:W.c.sf.length=W.c.B.length)(rho:Nat)(hr:rho<=262144):
  ∃W',Ev1 (λk=>Li k (rho:Int) W) (outO W.wd.length W')/\WG W' W.wd.length W.ej.length W.c.jd.length W.c.F.length rho 0 0 s0 [] []/\Calm W'.c W.c.F.length 0:=by
 have hd:=GY (F:=W.c.F) (R:=W.c.R) (L:=W.c.L) (S:=W.c.S) (rho:Int);have hroom:maxI 0 (minI (rho:Int) 262144)=(rho:Int):=by
  unfold maxI minI;rw[NF (show ¬ ((262144:Int)<(rho:Int)) by omega),NS];by_cases hq:(0:Int)<(rho:Int)
  ·rw[NK hq];rfl
  ·rw[NF hq,NS];omega
 rw[hroom]at hd;have eF:(W.c.F++[[]]).getD W.c.F.length []=([]:MF):=bk _ _ _;have hRS:RS ⟨W.c.F++[[]],W.c.R++[(rho:Int)],W.c.L++[-1],W.c.S++[false],W.c.jd,W.c.jt,W.c.jb,W.c.jr,W.c.jk,W.c.B,W.c.sf⟩ W.c.F.length rho 0 [] [] []:=by
  refine⟨by simp,aP _ _ _ h.R.symm,hr,by simp[h.L],aP _ _ _ h.L.symm,by simp[h.S],aP _ _ _ h.S.symm,hbf,?_,?_,?_,?_,⟨none,none,?_,by simp,λg hg=>(by cases hg),λh0=>(h0 rfl).elim,λg hg=>(by cases hg),λ_=>⟨rfl,rfl⟩,λ_ _ hg=>(by cases hg)⟩,λx hx=>(by cases hx),pP,by omega⟩
  ·dsimp only;rw[eF];rfl
  ·dsimp only;rw[eF];exact PY _
  ·dsimp only;rw[eF];intro e he;cases he
  ·dsimp only;rw[eF];exact PY _
  ·dsimp only;rw[eF];rfl
 have hsrc:Src 0 [] [] s0 s0 []:=⟨λ_=>rfl,λh0=>(h0 rfl).elim,inv0,λe he=>(by cases he),rfl,rfl⟩
 obtain⟨c',ho,hJ,hL⟩:=GU hRS h.jt h.jb h.jr h.jk (by omega) W.ej W.es h.es hsrc;have e1:(W.wd++[some W.c.F.length]).getD W.wd.length none=some W.c.F.length:=bk _ _ _;obtain⟨F,R,L,S,jd,jt,jb,jr,jk,B,sf⟩:=c';have hR:R=W.c.R++[(rho:Int)]:=hL.R;subst hR;have e0:jd=W.c.jd++[some W.c.F.length]:=hL.jd;have g1:jt.length=W.c.jt.length+1:=hL.jt;have g2:jb.length=W.c.jb.length+1:=hL.jb;have g3:jr.length=W.c.jr.length+1:=hL.jr;have g4:jk.length=W.c.jk.length+1:=hL.jk;have g5:F.length=(W.c.F++[[]]).length:=hL.F;have g6:L=W.c.L++[-1]:=hL.L;have g7:S=W.c.S++[false]:=hL.S;refine⟨⟨W.wd++[some W.c.F.length],W.we++[some W.ej.length],W.ws++[[]],W.wn++[[]],W.wc++[0],W.wr++[none],W.ww++[zT],W.wo++[[]],W.ej++[some W.c.jd.length],W.es++[s0],⟨F,W.c.R++[(rho:Int)],L,S,jd,jt,jb,jr,jk,B,sf⟩⟩,?_,
  ⟨⟨e1,⟨by simp[h.we],aP _ _ _ h.we.symm⟩,⟨by simp[h.ws],aP _ _ _ h.ws.symm⟩,⟨by simp[h.wn],aP _ _ _ h.wn.symm⟩,⟨by simp,by simp⟩,⟨by simp[h.wr],aP _ _ _ h.wr.symm⟩,by simp[h.ww],⟨by simp[h.wo],aP _ _ _ h.wo.symm⟩,?_⟩,bk _ _ _,⟨by simp[h.es],aP _ _ _ h.es.symm⟩,⟨0,[],[],s0,[],hJ,hsrc,NG _⟩⟩,?_⟩
 ·refine Ev1.step (λk=>f_wO k (rho:Int) W.wd W.we W.ws W.wn W.wc W.wr W.ww W.wo W.c.F W.c.R W.c.L W.c.S W.ej W.es W.c.jd W.c.jt W.c.jb W.c.jr W.c.jk W.c.B W.c.sf) (Ev1.bind hd ?_);dsimp only;rw[e1];refine Ev1.bind ho (Ev1.const ?_);dsimp only;rw[jv W.we _ _ h.we.symm,jv W.wr _ _ h.wr.symm]
 ·constructor
  all_goals dsimp only
  ·simp[h.we]
  ·simp[h.ws]
  ·simp[h.wn]
  ·simp[h.wr]
  ·simp[h.ww]
  ·simp[h.wo]
  ·simp[h.es]
  ·rw[e0,g1,h.jt];simp
  ·rw[e0,g2,h.jb];simp
  ·rw[e0,g3,h.jr];simp
  ·rw[e0,g4,h.jk];simp
  ·rw[g5];simp[h.R]
  ·rw[g5,g6];simp[h.L]
  ·rw[g5,g7];simp[h.S]
 ·refine⟨?_,?_⟩
  ·dsimp only;rw[g6];exact aP _ _ _ h.L.symm
  ·have:=hL.fd eF;dsimp only at this ⊢;rw[this];exact NG _
end Go.Eng.Top
namespace Go.Eng.Top
open Go.RowKit Go.Eng Go.Eng.LVar Go.Eng.LChart Go.Eng.LEnt
set_option maxRecDepth 100000
def KX (ks ks':List aI)(r:ae):Prop:=
 ks'=ks\/(∃o b,fnd r.1 ks=none/\ks'=ks++[(r,o,b)])\/∃j o,j<ks.length/\(ks.getD j d0).2.2=false/\ks'=ks.set j ((ks.getD j d0).1,o,true)
def Tld (ks:List aI)(x:dN):Prop:=x.2.1=7\/x.2.1=8\/x.2.1=10\/x.2.1=12\/askF ks x.1=(x.2,true)
theorem Hf {ks:List aI}{r:ae}(hf:fnd r.1 ks=none)(o:ah):askF (ks++[(r,o,true)]) r=(o,true):=by
 unfold askF;rw[kU,hf];simp only[O8];rw[nt];simp
theorem Jo {s:ab}(h:Inv s)(r:ae):KX s.2.2.2.1 (subF s r).1.2.2.2.1 r/\(mayB r=true->Tld (subF s r).1.2.2.2.1 (r,(subF s r).2)):=by
 unfold subF;by_cases hm:mayB r=false
 ·rw[NI hm];exact⟨.inl rfl,λh=>by rw[hm]at h;cases h⟩
 rw[ND hm];by_cases hk:(askF s.2.2.2.1 r).2=true
 ·rw[NI hk];exact⟨.inl rfl,λ_=>.inr (.inr (.inr (.inr (OU rfl hk))))⟩
 rw[ND hk];have hf:fnd r.1 s.2.2.2.1=none:=by
  rw[wP]at hk;cases hf:fnd r.1 s.2.2.2.1 with
  |none=>rfl
  |some i=>rw[hf]at hk;simp at hk
 by_cases hl:long r/\16<=(s.2.2.1.length:Int)
 ·rw[NI hl];exact⟨.inl rfl,λ_=>.inl rfl⟩
 rw[ND hl,vo hf];by_cases h256:256<=s.2.2.2.1.length
 ·rw[NI h256];exact⟨.inl rfl,λ_=>.inl rfl⟩
 rw[ND h256];dsimp only;by_cases hlo:long r
 ·rw[NI hlo];cases hc:(resF s r).2 with
  |some c=>
   dsimp only;rw[iN hf];exact⟨.inr (.inl ⟨_,_,hf,rfl⟩),λ_=>.inr (.inr (.inr (.inr (Hf hf _))))⟩
  |none=>exact⟨.inr (.inl ⟨_,_,hf,rfl⟩),λ_=>.inr (.inr (.inl rfl))⟩
 ·rw[ND hlo,iN hf];exact⟨.inr (.inl ⟨_,_,hf,rfl⟩),λ_=>.inr (.inr (.inr (.inr (Hf hf _))))⟩
theorem JK {s t:ab}(h:Inv s)(ht:Op s t){i:Nat}(hi:i<s.2.2.1.length)(o:ah)(r:ae):KX s.2.2.2.1 (endF t i o).1.2.2.2.1 r:=by
 unfold endF;dsimp only;have e1:t.2.2.1=s.2.2.1:=by rw[ht.rest]
 have e2:t.2.2.2.1=s.2.2.2.1:=by rw[ht.rest]
 rw[e1,e2,bc s.2.2.1 i zG hi];obtain⟨j,f1,f2⟩:=h.gk _ (N8 hi);obtain⟨hj,_⟩:=eu f1;rw[u7 f1 f2];exact .inr (.inr ⟨j,o,hj,f2,rfl⟩)
theorem Nn {s:ab}(h:Inv s)(e:au):KX s.2.2.2.1 (doF s e).1.2.2.2.1 e.2.1:=by
 unfold doF;split
 ·exact(Jo h e.2.1).1
 split
 ·unfold qo;cases hf:fndG e.2.2.1 s.2.2.1 with
  |none=>exact .inl rfl
  |some i=>
   have hi:=oH hf;dsimp only;split
   ·exact JK h (u4 h.op _).1 hi _ _
   split
   ·have hs:=qp h.op (s.2.2.1.getD i zG).1;cases hc:(nQ s (s.2.2.1.getD i zG).1).2 with
    |none=>exact JK h hs.1 hi _ _
    |some c=>exact .inl rfl
   ·exact .inl rfl
 split
 ·refine .inl ?_;unfold sT;split
  ·rfl
  ·have h0:Op (s.1,s.2.1,s.2.2.1,s.2.2.2.1,w64 (s.2.2.2.2+1)) (s.1,s.2.1,s.2.2.1,s.2.2.2.1,w64 (s.2.2.2.2+1)):=⟨rfl,h.op.rt,h.op.pl,h.op.ps,NG _⟩
   have h1:=mC (nA s.2.1 (w64 (s.2.2.2.2+1))) _ h0;rw[h1.rest]
 ·exact .inl rfl
theorem KX.reqs {ks ks':List aI}{r:ae}(h:KX ks ks' r):ks'.map (·.1)=ks.map (·.1)\/(fnd r.1 ks=none/\ks'.map (·.1)=ks.map (·.1)++[r]):=by
 rcases h with h|⟨o,b,hf,h⟩|⟨j,o,hj,_,h⟩
 ·exact .inl (by rw[h])
 ·exact .inr ⟨hf,by rw[h,Po];rfl⟩
 ·refine .inl ?_;rw[h,Rh,bc _ _ _ hj];dsimp only;rw[show(ks[j]).1=(ks.map (·.1))[j]'(by simpa using hj) by simp,PA]
theorem KX.ask {ks ks':List aI}{r:ae}(h:KX ks ks' r){q:ae}{o:ah}(ha:askF ks q=(o,true))(ho:o.1≠10):askF ks' q=(o,true):=by
 rcases h with h|⟨o',b,hf,h⟩|⟨j,o',hj,ht,h⟩
 ·rw[h];exact ha
 ·rw[h];unfold askF at ha ⊢;rw[kU];cases hq:fnd q.1 ks with
  |none=>rw[hq]at ha;cases ha
  |some i=>
   obtain⟨hi,_⟩:=eu hq;rw[hq]at ha;dsimp only at ha ⊢;rw[bN _ _ _ hi];exact ha
 ·have hk:cg ks'=cg ks:=by rw[h];exact oA _ _ _ hj (by rw[bc _ _ _ hj])
  have hfq:fnd q.1 ks'=fnd q.1 ks:=by unfold fnd;rw[hk]
  unfold askF at ha ⊢;rw[hfq];cases hq:fnd q.1 ks with
  |none=>rw[hq]at ha;cases ha
  |some i=>
   rw[hq]at ha;dsimp only at ha ⊢;rw[h];by_cases hij:j=i
   ·subst hij;rw[ai _ _ _ _ hj];rw[ht]at ha;split at ha
    ·simp only[Od,OE,Ov]at ha;exact(ho (by rw[<- ha.1])).elim
    ·rename_i hne;rw[ND hne];exact ha
   ·rw[getD_set_ne _ _ _ hij];exact ha
theorem KX.told {ks ks':List aI}{r:ae}(h:KX ks ks' r){x:dN}(hx:Tld ks x):Tld ks' x:=by
 by_cases h10:x.2.1=10
 ·exact .inr (.inr (.inl h10))
 rcases hx with hx|hx|hx|hx|hx
 ·exact .inl hx
 ·exact .inr (.inl hx)
 ·exact .inr (.inr (.inl hx))
 ·exact .inr (.inr (.inr (.inl hx)))
 ·exact .inr (.inr (.inr (.inr (h.ask hx h10))))
structure Rok (A:ae->Prop)(s:ab)(said:List dN)(done:List au):Prop where
 inv:Inv s
 run:s=runE s0 done
 ev:∀e∈done,evR e
 req:∀k∈s.2.2.2.1,A k.1
 nod:(cg s.2.2.2.1).Nodup
 told:∀x∈said,Tld s.2.2.2.1 x
theorem CN {key:Int}:∀{l:List Int},fndI key l=none->key ∉ l
 |[],_,h=>by cases h
 |x::l,h,hk=>by
  unfold fndI at h;by_cases hx:x=key
  ·simp[hx]at h
  ·simp only[hx]at h;rcases NO.1 hk with hk|hk
   ·exact hx hk.symm
   ·cases hl:fndI key l with
    |none=>exact CN hl hk
    |some i=>rw[hl]at h;simp at h
theorem Rok.step {A:ae->Prop}{s:ab}{said:List dN}{done:List au}(h:Rok A s said done){e:au}(he:evR e)(ha:e.1=0->A e.2.1):Rok A (doF s e).1 said (done++[e]):=by
 have hk:=Nn h.inv e;have hreq:(∀k∈(doF s e).1.2.2.2.1,A k.1)/\(cg (doF s e).1.2.2.2.1).Nodup:=by
  have hkey:∀l:List aI,cg l=(l.map (·.1)).map (·.1):=λl=>by unfold cg;rw[List.map_map];rfl
  have hmem:∀(l:List aI),(∀q∈l.map (·.1),A q)->∀k∈l,A k.1:=λl h k hk=>h _ (N9.2 ⟨k,hk,rfl⟩)
  have hold:∀q∈s.2.2.2.1.map (·.1),A q:=λq hq=>by obtain⟨k,hk,rfl⟩:=N9.1 hq;exact h.req k hk
  rcases hk.reqs with hr|⟨hf,hr⟩
  ·exact⟨hmem _ (by rw[hr];exact hold),by rw[hkey,hr,<- hkey];exact h.nod⟩
  ·by_cases h0:e.1=0
   ·refine⟨hmem _ (by
     rw[hr];intro q hq;rcases NU.1 hq with hq|hq
     ·exact hold q hq
     ·rw[N5.1 hq];exact ha h0),?_⟩
    rw[hkey,hr,Po,<- hkey,PS];refine⟨h.nod,by simp,λa ha' b hb e'=>?_⟩;simp only[NV,OY,N5]at hb;rw[e',hb]at ha';exact CN hf ha'
   ·-- no request came
    have hne:(doF s e).1.2.2.2.1.map (·.1)=s.2.2.2.1.map (·.1):=by
     rcases hk with hk|⟨o,b,hf2,hk⟩|⟨j,o,hj,ht,hk⟩
     ·rw[hk]
     ·exfalso;have hlen:=congrArg List.length hk;rw[Ny]at hlen;have:(doF s e).1.2.2.2.1.length=s.2.2.2.1.length:=by
       have:=(sA h.inv e (tz he).2).2;unfold doF;rw[ND h0];split
       ·unfold qo;cases hf:fndG e.2.2.1 s.2.2.1 with
        |none=>rfl
        |some i=>
         have hi:=oH hf;have lenE:∀(t:ab) (o:ah),Op s t->(endF t i o).1.2.2.2.1.length=s.2.2.2.1.length:=λt o ht=>by
          unfold endF;dsimp only;have e1:t.2.2.1=s.2.2.1:=by rw[ht.rest]
          have e2:t.2.2.2.1=s.2.2.2.1:=by rw[ht.rest]
          rw[e1,e2,bc s.2.2.1 i zG hi];obtain⟨j,f1,f2⟩:=h.inv.gk _ (N8 hi);rw[u7 f1 f2,NA]
         dsimp only;split
         ·exact lenE _ _ (u4 h.inv.op _).1
         split
         ·have hs:=qp h.inv.op (s.2.2.1.getD i zG).1;cases hc:(nQ s (s.2.2.1.getD i zG).1).2 with
          |none=>exact lenE _ _ hs.1
          |some c=>rfl
         ·rfl
       split
       ·unfold sT;split
        ·rfl
        ·have h0:Op (s.1,s.2.1,s.2.2.1,s.2.2.2.1,w64 (s.2.2.2.2+1)) (s.1,s.2.1,s.2.2.1,s.2.2.2.1,w64 (s.2.2.2.2+1)):=⟨rfl,h.inv.op.rt,h.inv.op.pl,h.inv.op.ps,NG _⟩
         have h1:=mC (nA s.2.1 (w64 (s.2.2.2.2+1))) _ h0;dsimp only;rw[h1.rest]
       ·rfl
      simp only[NC,NL]at hlen;omega
     ·have:=KX.reqs (r:=e.2.1) (.inr (.inr ⟨j,o,hj,ht,hk⟩));rcases this with h1|⟨_,h1⟩
      ·exact h1
      ·have:=congrArg List.length h1;rw[hk]at this;simp at this
    exact⟨hmem _ (by rw[hne];exact hold),by rw[hkey,hne,<- hkey];exact h.nod⟩
 exact⟨(sA h.inv e (tz he).2).1,by rw[qy,<- h.run],λx hx=>(NU.1 hx).elim (h.ev x) (λhx=>by rw[N5.1 hx];exact he),hreq.1,hreq.2,λx hx=>hk.told (h.told x hx)⟩
theorem Rch.ok {A:ae->Prop}(hAR:∀r,A r->mayB r=true/\I64 (rqL r)){s:ab}{said:List dN}{done:List au}(h:Rch A s said done):Rok A s said done:=by
 have evA:∀r,A r->evR (0,r,0,false):=λr hr=>.inl ⟨rfl,(hAR r hr).1,(hAR r hr).2,rfl⟩
 induction h with
 |zero=>exact⟨inv0,rfl,λe he=>(by cases he),λk hk=>(by cases hk),P7,λx hx=>(by cases hx)⟩
 |ask r ha h ih=>
  have h1:=ih.step (evA r ha) (λ_=>ha);refine⟨h1.inv,h1.run,h1.ev,h1.req,h1.nod,λx hx=>?_⟩;rcases NU.1 hx with hx|hx
  ·exact h1.told x hx
  ·rw[N5.1 hx];exact(Jo ih.inv r).2 (hAR r ha).1
 |lost r o ha ho h ih=>
  refine⟨ih.inv,ih.run,ih.ev,ih.req,ih.nod,λx hx=>?_⟩;rcases NU.1 hx with hx|hx
  ·exact ih.told x hx
  ·rw[N5.1 hx];rcases ho with ho|ho
   ·exact .inr (.inl ho)
   ·exact .inr (.inr (.inr (.inl ho)))
 |kept r o ha ho h ih=>
  have h1:=ih.step (evA r ha) (λ_=>ha);refine⟨h1.inv,h1.run,h1.ev,h1.req,h1.nod,λx hx=>?_⟩;rcases NU.1 hx with hx|hx
  ·exact h1.told x hx
  ·rw[N5.1 hx];exact .inr (.inr (.inr (.inl ho)))
 |ev e he h0 h ih=>exact ih.step he (λh=>(h0 h).elim)
def smR (r:ae):Prop:=∀x∈rqL r,0<=x/\x<=8191
theorem yO:∀(l:List Int),(∀x∈l,0<=x/\x<=8191)->(encs l).length<=2*l.length
 |[],_=>by simp[encs]
 |n::l,h=>by
  have h1:=h n (Om ..);have h2:=yO l λx hx=>h x (NW _ hx)
  have h3:=AP 1 (zig n) (by unfold zig;split<;>omega);have h4:encs (n::l)=encs [n]++encs l:=aJ [n] l;rw[h4,Ny,qf,NC];omega
theorem GP {α:Type}(f:α->List Int)(c:Nat):∀(l:List α),(∀x∈l,(encs (f x)).length<=c)->(encs (l.flatMap f)).length<=c*l.length
 |[],_=>by simp[encs]
 |x::l,h=>by
  have h1:=h x (Om ..);have h2:=GP f c l λy hy=>h y (NW _ hy)
  rw[OP,aJ,Ny,NC,Nat.mul_succ];omega
theorem EA {s:ab}(h:Inv s)(hs:∀k∈s.2.2.2.1,smR k.1):(encs (stL s)).length<=16000:=by
 have hst:=h.st;have h0:=h.op.rt.hi;have h1:=h.op.pl;have h2:=h.gl;have h3:=h.kl;have one:∀n:Int,-9223372036854775808<=n/\n<=9223372036854775807->(encs [n]).length<=10:=λn hn=>aG (ns:=[n]) (by simpa[I64]using hn)
 have k1:(encs (s.2.2.2.1.flatMap knL)).length<=20*s.2.2.2.1.length:=GP knL 20 _ λk hk=>by
  have a:=hs k hk;have b:=(h.kr k hk).2;refine Oa (yO (knL k) λx hx=>?_) (by simp[knL,rqL]);unfold knL at hx;rcases NU.1 hx with hx|hx
  ·exact a x hx
  ·obtain⟨⟨b1,b2⟩,⟨b3,b4⟩,_⟩:=b;simp only[N4,OJ,NO,Oc,ON]at hx;rcases hx with hx|hx|hx
   ·omega
   ·omega
   ·rw[hx];split<;>omega
 have k2:(encs (s.2.2.1.flatMap sagL)).length<=10*(11*s.2.2.1.length):=by rw[<- cJ sagL 11 (λ_=>rfl)];exact aG hst.gs
 have k3:(encs (s.2.1.flatMap payL)).length<=10*(8*s.2.1.length):=by rw[<- cJ payL 8 (λ_=>rfl)];exact aG hst.ps
 have k4:(encs (s.1.flatMap acL)).length<=10*(3*s.1.length):=by rw[<- cJ acL 3 (λ_=>rfl)];exact aG hst.ac
 have o1:=one s.2.2.2.2 hst.now;have o2:=one (s.1.length:Int) (by omega);have o3:=one (s.2.1.length:Int) (by omega);have o4:=one (s.2.2.1.length:Int) (by omega);have o5:=one (s.2.2.2.1.length:Int) (by omega);have e:encs (stL s)=encs [s.2.2.2.2]++(encs [(s.1.length:Int)]++(encs (s.1.flatMap acL)++(encs [(s.2.1.length:Int)]++(encs (s.2.1.flatMap payL)++(encs [(s.2.2.1.length:Int)]++(encs (s.2.2.1.flatMap sagL)++(encs [(s.2.2.2.1.length:Int)]++encs (s.2.2.2.1.flatMap knL)))))))):=by
  unfold stL t1 t2 t3;rw[<- aJ,<- aJ,<- aJ,<- aJ,<- aJ,<- aJ,<- aJ,<- aJ];congr 1
 rw[e];simp only[Ny];omega
end Go.Eng.Top

namespace Go.Eng.Top
open Go.RowKit Go.Eng Go.Eng.LVar
set_option maxRecDepth 100000
def AR (r:ae):Prop:=mayB r=true/\I64 (rqL r)/\smR r
theorem CY:∀r,AR r->mayB r=true/\I64 (rqL r):=λr h=>⟨h.1,h.2.1⟩
theorem Ja {A:ae->Prop}(hA:∀r,A r->AR r){s:ab}{said:List dN}{done:List au}(h:Rch A s said done):(encs (stL s)).length<=16000:=by
 have hk:=h.ok (λr hr=>CY r (hA r hr));exact EA hk.inv λk h=>(hA _ (hk.req k h)).2.2
theorem KH {n a1 a2 a3 a4 a5:Int}(hn:0<=n/\n<=8191)(h1:0<=a1/\a1<=255)(h2:0<=a2/\a2<=255)(h3:0<=a3/\a3<=255)(h4:0<=a4/\a4<=255)(h5:0<=a5/\a5<=255):smR (oneR n a1 a2 a3 a4 a5):=by
 simp only[smR,oneR,rqL,NO,Oc,ON,OF,Pg];refine⟨by omega,by omega,?_,by omega,by omega,?_,?_⟩
 ·split
  ·omega
  ·split<;>omega
 ·split<;>omega
 ·split<;>omega
theorem H8 {n a1 a2 a3 a4 a5:Int}(hn:0<=n/\n<=8191)(h1:0<=a1/\a1<=255)(h2:0<=a2/\a2<=255)(h3:0<=a3/\a3<=255)(h4:0<=a4/\a4<=255)(h5:0<=a5/\a5<=255):mayB (oneR n a1 a2 a3 a4 a5)=true:=by
 have ho:0<=a1%8/\a1%8<8:=by omega
 unfold mayB oneR;dsimp only;generalize a1%8=o at ho ⊢;have hl:0<=(if o=2 then a5%4 else 0)/\(if o=2 then a5%4 else 0)<=3/\(0<(if o=2 then a5%4 else 0)->o=2):=by split<;>omega
 have hu:0<=(if o=3 then 1+a5%8 else 0)/\(if o=3 then 1+a5%8 else 0)<=8:=by split<;>omega
 have ham:amtB (1+a4*7)=true:=NK (by omega);rw[ND (by omega),ND (by omega)];split
 ·exact NK (by omega)
 split
 ·rfl
 ·rw[NI (by omega)];exact ham
theorem KJ {n a1 a2 a3 a4 a5:Int}(hn:0<=n/\n<=8191)(h1:0<=a1/\a1<=255)(h2:0<=a2/\a2<=255)(h3:0<=a3/\a3<=255)(h4:0<=a4/\a4<=255)(h5:0<=a5/\a5<=255):AR (oneR n a1 a2 a3 a4 a5):=
 ⟨H8 hn h1 h2 h3 h4 h5,H9 (by omega) h1 h2 h3 h4 h5,KH hn h1 h2 h3 h4 h5⟩
theorem LZ {a0 a1 a2 a3 a4 a5 n:Int}(hn:0<=n/\n<=8191)(h0:0<=a0/\a0<=255)(h1:0<=a1/\a1<=255)(h2:0<=a2/\a2<=255)(h3:0<=a3/\a3<=255)(h4:0<=a4/\a4<=255)(h5:0<=a5/\a5<=255):AOj (oneF a0 a1 a2 a3 a4 a5 n)/\((oneF a0 a1 a2 a3 a4 a5 n).1=0->AR (oneF a0 a1 a2 a3 a4 a5 n).2.1/\(oneF a0 a1 a2 a3 a4 a5 n).2.1.2.1=a1%8):=by
 unfold oneF;split
 ·exact⟨⟨by simp,by dsimp only;omega⟩,λh=>by simp at h⟩
 split
 ·exact⟨⟨by simp,by dsimp only;omega⟩,λh=>by simp at h⟩
 split
 ·exact⟨⟨by simp,by simp⟩,λh=>by simp at h⟩
 split
 ·split
  ·exact⟨⟨by simp,by simp⟩,λh=>by simp at h⟩
  ·exact⟨⟨by simp,by dsimp only;omega⟩,λh=>by simp at h⟩
 ·exact⟨⟨by simp,by simp⟩,λ_=>⟨KJ hn h1 h2 h3 h4 h5,rfl⟩⟩
theorem MV {b:List Int}(hb:Byt b)(hl:b.length<=4000):∀a∈acts b,AOj a/\(a.1=0->AR a.2.1):=by
 intro a ha;obtain⟨i,hi,rfl⟩:=N9.1 ha;have:=QV.1 hi;have h:=LZ (n:=(i:Int)) (by omega) (byt_get hb (6*i)) (byt_get hb (6*i+1)) (byt_get hb (6*i+2)) (byt_get hb (6*i+3)) (byt_get hb (6*i+4)) (byt_get hb (6*i+5));exact⟨h.1,λh0=>(h.2 h0).1⟩
theorem WG.bf {W:WC}{w x j d rho T n:Nat}{s:ab}{said:List dN}{done:List au}(h:WG W w x j d rho T n s said done):W.c.sf.length=W.c.B.length:=by
 obtain⟨t,bs,rs,sb,evs,hJ,_⟩:=h.de;exact hJ.bsf
noncomputable abbrev G6 (k:Nat)(b:List Int)(rho:Int)(W:WC):=CF k g_wR n_wR [inj BB b,inj I rho,Ca W.wd,Cb W.we,Cc W.ws,Cd W.wn,Ce W.wc,Cf W.wr,Cg W.ww,Ch W.wo,Ci W.c.F,Cj W.c.R,Ck W.c.L,Cl W.c.S,Cm W.ej,Cn W.es,Co W.c.jd,Cp W.c.jt,Cq W.c.jb,Cr W.c.jr,Cs W.c.jk,Ct W.c.B,Cu W.c.sf]
theorem EK (W:WC)(h:Al W)(hbf:W.c.sf.length=W.c.B.length)(b:List Int)(hb:Byt b)(hl:b.length<=4000)(rho:Nat)(hr:rho<=262144){A:ae->Prop}(hA:∀r,A r->AR r)(hok:∀a∈acts b,AOj a/\(a.1=0->A a.2.1)):
  ∃W' x' j' T' n' s said done,Ev1 (λk=>G6 k b (rho:Int) W) (outO W.wd.length W')/\WG W' W.wd.length x' j' W.c.F.length rho T' n' s said done/\Rch A s said done/\T'<=1000/\n'<=2000/\((∀a∈acts b,a.1<=3)->86*(acts b).length<=rho->(s,said)=(acts b).foldl actF (s0,[])):=by
 have hal:=Jd b;obtain⟨W0,h0,hG0,hC0⟩:=L6 W h hbf rho hr;obtain⟨W',x',j',T',n',s,said,done,h1,h2,h3,h4,h5,h6⟩:=Jr (A:=A) (λr hr=>CY r (hA r hr)) (λ{s said done} h=>Ja hA h) b (acts b) (by omega) (by omega) hok W.wd.length W.c.F.length rho (acts b).length 0 W0 W.ej.length W.c.jd.length 0 0 s0 [] [] (by omega) hG0 .zero (by omega) (by omega);refine⟨W',x',j',T',n',s,said,done,?_,h2,h3,h4,h5,λq1 q2=>h6 q1 0 hC0 (by omega)⟩;exact Ev1.step (λk=>f_wR k b (rho:Int) W.wd W.we W.ws W.wn W.wc W.wr W.ww W.wo W.c.F W.c.R W.c.L W.c.S W.ej W.es W.c.jd W.c.jt W.c.jb W.c.jr W.c.jk W.c.B W.c.sf) (Ev1.bind h0 (Ev1.bind (Ls b hb (by omega)) h1.diag))
theorem Lb:(acts (allL exL)).all (λa=>decide (a.1<=3))=true:=by decide +kernel
theorem Mp:86*(acts (allL exL)).length<=262144:=by decide +kernel
theorem He (W:WC)(h:Al W)(hbf:W.c.sf.length=W.c.B.length):∃W',Ev1 (λk=>G7 k W) (outT true W')/\Al W'/\W'.c.sf.length=W'.c.B.length:=by
 have hlen:=CZ exL;obtain⟨W',x',j',T',n',s,said,done,h1,h2,_,_,_,h6⟩:=EK W h hbf (allL exL) JJ (by omega) 262144 (by omega) (A:=AR) (λ_ h=>h) (MV JJ (by omega));have hc:=h6 (λa ha=>by have:=OW.1 Lb a ha;simpa using this) Mp;have hs:s=exS.1:=congrArg Prod.fst hc;have hsd:said=exS.2:=congrArg Prod.snd hc;subst hs hsd;obtain⟨v1,v2,v3,v4,v5⟩:=Mo;refine⟨W',?_,h2.b.al,h2.bf⟩;have hst:Ev1 (λk=>CF k gh b5 [inj (.ref 30) (W'.we.getD W.wd.length none),Cn W'.es]) (exS.1,W'.es):=by rw[h2.b.we.2];exact eev h2.es.2
 have h4:Ev2 (λk m=>h_tw k m (some W.wd.length) W'.wd W'.we W'.ws W'.wn W'.wc W'.wr W'.ww W'.wo W'.c.F W'.c.R W'.c.L W'.c.S W'.ej W'.es W'.c.jd W'.c.jt W'.c.jb W'.c.jr W'.c.jk W'.c.B W'.c.sf) (outT true W'):=by
  refine Ev2.step (λk m=>Mf k m (some W.wd.length) W'.wd W'.we W'.ws W'.wn W'.wc W'.wr W'.ww W'.wo W'.c.F W'.c.R W'.c.L W'.c.S W'.ej W'.es W'.c.jd W'.c.jt W'.c.jb W'.c.jr W'.c.jk W'.c.B W'.c.sf) (Ev2.pos rfl (Ev2.bind hst (Ev2.pos rfl (Ev2.pos ?_ (Ev2.pos rfl (Ev2.posD ?_ (Ev2.posD (by rw[v2];rfl) (Ev2.pos (aj (by omega) (by rw[v2];omega)) (Ev2.posD v3 (Ev2.pos (aj (by omega) (by rw[v2];omega)) (Ev2.posD v4 (Ev2.const ?_))))))))))))
  ·show(!(W'.wr.getD W.wd.length none).isSome)=true;rw[h2.b.wr.2];rfl
  ·show((W'.ws.getD W.wd.length []).length:Int)=13;rw[h2.b.ws.2];show(exS.2.length:Int)=13;rw[v1];rfl
  ·rw[v5];rfl
 refine Ev1.step (λk=>f_tw k W.wd W.we W.ws W.wn W.wc W.wr W.ww W.wo W.c.F W.c.R W.c.L W.c.S W.ej W.es W.c.jd W.c.jt W.c.jb W.c.jr W.c.jk W.c.B W.c.sf) (Ev1.bind (C1 exL (by decide)) (Ev1.bind h1 (Ev1.neg rfl (Ev1.pos rfl (Ev1.neg ?_ h4.diag)))));show(!(W'.we.getD W.wd.length none).isSome)=false;rw[h2.b.we.2];rfl
end Go.Eng.Top
namespace Go.Eng.Top
open Go.RowKit Go.Eng Go.Eng.LVar Go.Eng.LChart Go.Eng.LEnt
set_option maxRecDepth 100000
def cAt (k:Int):List En->Int
 |[]=>0
 |e::r=>(if e.1=k then e.2 else 0)+cAt k r
abbrev bal (ac:List Acc)(k:Int):Int:=(acAt ac k).2.1
theorem EJ:∀(es:List En)(ac out:List Acc),(∀e∈es,inA ac e.1)->runF ac es=some out->∀k:Int,0<=k->bal out k=bal ac k+cAt k es
 |[],ac,out,_,h,k,hk=>by cases h;simp[cAt]
 |e::es,ac,out,hin,h,k,hk=>by
  unfold runF at h;split at h
  ·have hi:=hin e (Om ..);have ih:=EJ es _ out (λa ha=>by have:=hin a (NW _ ha);unfold inA at this ⊢;rw[NA];exact this) h k hk;rw[ih];show(acAt _ k).2.1+cAt k es=(acAt ac k).2.1+((if e.1=k then e.2 else 0)+cAt k es);rw[nM ac e.1 k _ hi hk];by_cases hek:k=e.1
   ·rw[NI hek,NI hek.symm,hek];dsimp only;omega
   ·rw[ND hek,ND (Ne.symm hek)];omega
  ·cases h
structure Ex (ac ac':List Acc):Prop where
 len:ac.length<=ac'.length
 cur:∀k:Int,inA ac k->(acAt ac' k).1=(acAt ac k).1
structure Px (ps ps':List ag):Prop where
 len:ps.length<=ps'.length
 ft:∀i,i<ps.length->(ps'.getD i zP).1=(ps.getD i zP).1/\(ps'.getD i zP).2.1=(ps.getD i zP).2.1
theorem Ex.refl (ac:List Acc):Ex ac ac:=⟨NG _,λ_ _=>rfl⟩
theorem Px.refl (ps:List ag):Px ps ps:=⟨NG _,λ_ _=>⟨rfl,rfl⟩⟩
theorem Ex.inA {ac ac':List Acc}(h:Ex ac ac'){k:Int}(hk:LEnt.inA ac k):LEnt.inA ac' k:=⟨hk.1,by have:=h.len;have:=hk.2;omega⟩
theorem Ex.trans {a b c:List Acc}(h:Ex a b)(k:Ex b c):Ex a c:=⟨Oa h.len k.len,λi hi=>(k.cur i (h.inA hi)).trans (h.cur i hi)⟩
theorem Px.trans {a b c:List ag}(h:Px a b)(k:Px b c):Px a c:=⟨Oa h.len k.len,λi hi=>by
 have h1:=h.ft i hi;have h2:=k.ft i (N1 hi h.len);exact⟨h2.1.trans h1.1,h2.2.trans h1.2⟩⟩
theorem vt {ac:List Acc}(h:Rt ac){es:List En}(hn:(gm ac es).2=none):Ex ac (gm ac es).1/\∀k:Int,0<=k->bal (gm ac es).1 k=bal ac k+cAt k es:=by
 obtain⟨q1,q2,q3,q4⟩:=mM h hn;have hin:=λe he=>((sK ac h.curs es 0 0 0 q1).1 e he).1
 have hk:=(pQ es ac _ hin q2).1;exact⟨⟨by omega,λk hk2=>(hk.cur k hk2.1).1⟩,EJ es ac _ hin q2⟩
theorem B7 {ac:List Acc}{n v:Int}(hn:inA ac n):Ex ac (ac.set (Int.toNat n) ((acAt ac n).1,(acAt ac n).2.1,v))/\∀k:Int,0<=k->bal (ac.set (Int.toNat n) ((acAt ac n).1,(acAt ac n).2.1,v)) k=bal ac k:=by
 refine⟨⟨by rw[NA];exact NG _,λk hk=>?_⟩,λk hk=>?_⟩
 ·rw[nM ac n k _ hn hk.1];split
  ·rename_i e;rw[e]
  ·rfl
 ·unfold bal;rw[nM ac n k _ hn hk];split
  ·rename_i e;rw[e]
  ·rfl
theorem B4 {ac:List Acc}{n a:Int}(hn:(fM ac n a).2=none):Ex ac (fM ac n a).1/\∀k:Int,0<=k->bal (fM ac n a).1 k=bal ac k:=by
 unfold fM at hn ⊢;split at hn
 ·rename_i h1;rw[NI h1];split at hn
  ·rename_i h2;rw[NI h2];split at hn
   ·cases hn
   ·rename_i h3;rw[ND h3];exact B7 ⟨by omega,h1.2⟩
  ·cases hn
 ·cases hn
theorem zE {ac:List Acc}{n a:Int}(hn:(relF ac n a).2=none):Ex ac (relF ac n a).1/\∀k:Int,0<=k->bal (relF ac n a).1 k=bal ac k:=by
 unfold relF at hn ⊢;split at hn
 ·rename_i h1;rw[NI h1];split at hn
  ·rename_i h2;rw[NI h2];split at hn
   ·cases hn
   ·rename_i h3;rw[ND h3];exact B7 ⟨by omega,h1.2⟩
  ·cases hn
 ·cases hn
theorem w7 {ac:List Acc}(h:Rt ac){a:Int}{es:List En}(hn:(eG ac a es).2=none):Ex ac (eG ac a es).1/\∀k:Int,0<=k->bal (eG ac a es).1 k=bal ac k+cAt k es:=by
 unfold eG at hn ⊢;cases es with
 |nil=>cases hn
 |cons e r=>
  dsimp only at hn ⊢;have hr:=qC h (n:=e.1) (a:=a);have hb:=zE (ac:=ac) (n:=e.1) (a:=a);generalize relF ac e.1 a=w at hr hb hn;obtain⟨o,g⟩:=w;cases g with
  |some c=>cases hn
  |none=>
   obtain⟨b1,b2⟩:=hb rfl;obtain⟨p1,p2⟩:=vt (hr rfl).1 hn;exact⟨b1.trans p1,λk hk=>by rw[p2 k hk,b2 k hk]⟩
theorem jH {ac ac':List Acc}(h:Ex ac ac'){f t n:Int}(hm:(bJ ac f t n).2=none):bJ ac' f t n=bJ ac f t n:=by
 by_cases hi:inA ac f/\inA ac t
 ·unfold bJ;rw[NI hi,NI (show inA ac' f/\inA ac' t from⟨h.inA hi.1,h.inA hi.2⟩),h.cur f hi.1,h.cur t hi.2]
 ·unfold bJ at hm;rw[ND hi]at hm;cases hm
def pOf (ps:List ag)(r:ae):ag:=ps.getD (Int.toNat r.2.2.1) zP
def effE (ac:List Acc)(ps:List ag)(r:ae):List En:=
 if r.2.1=1 then(bJ ac (numV 0 (acAt ac r.2.2.1).1) r.2.2.1 r.2.2.2.2.1).1
 else if r.2.1=2 then(bJ ac r.2.2.1 r.2.2.2.1 r.2.2.2.2.1).1
 else if r.2.1=4 then(bJ ac (pOf ps r).1 (pOf ps r).2.1 r.2.2.2.2.1).1
 else if r.2.1=6 then back (bJ ac (pOf ps r).1 (pOf ps r).2.1 r.2.2.2.2.1).1
 else[]
structure EOk (ac:List Acc)(ps:List ag)(r:ae):Prop where
 dep:r.2.1=1->inA ac r.2.2.1/\(bJ ac (numV 0 (acAt ac r.2.2.1).1) r.2.2.1 r.2.2.2.2.1).2=none
 tr:r.2.1=2->(bJ ac r.2.2.1 r.2.2.2.1 r.2.2.2.2.1).2=none
 pay:r.2.1=4\/r.2.1=6->(0<=r.2.2.1/\r.2.2.1<(ps.length:Int))/\(bJ ac (pOf ps r).1 (pOf ps r).2.1 r.2.2.2.2.1).2=none
theorem zI {ps ps':List ag}(h:Px ps ps'){r:ae}(hr:0<=r.2.2.1/\r.2.2.1<(ps.length:Int)):(pOf ps' r).1=(pOf ps r).1/\(pOf ps' r).2.1=(pOf ps r).2.1:=h.ft _ (by omega)
theorem oP {ac ac':List Acc}{ps ps':List ag}(h:Ex ac ac')(hp:Px ps ps'){r:ae}(hr:EOk ac ps r):EOk ac' ps' r/\effE ac' ps' r=effE ac ps r:=by
 refine⟨⟨λh1=>?_,λh2=>?_,λh4=>?_⟩,?_⟩
 ·obtain⟨q1,q2⟩:=hr.dep h1;rw[h.cur _ q1,jH h q2];exact⟨h.inA q1,q2⟩
 ·rw[jH h (hr.tr h2)];exact hr.tr h2
 ·obtain⟨q1,q2⟩:=hr.pay h4;obtain⟨e1,e2⟩:=zI hp q1;rw[e1,e2,jH h q2];exact⟨⟨q1.1,by have:=hp.len;omega⟩,q2⟩
 ·unfold effE;split
  ·rename_i h1;obtain⟨q1,q2⟩:=hr.dep h1;rw[h.cur _ q1,jH h q2]
  split
  ·rename_i h2;rw[jH h (hr.tr h2)]
  split
  ·rename_i h4;obtain⟨q1,q2⟩:=hr.pay (.inl h4);obtain⟨e1,e2⟩:=zI hp q1;rw[e1,e2,jH h q2]
  split
  ·rename_i h6;obtain⟨q1,q2⟩:=hr.pay (.inr h6);obtain⟨e1,e2⟩:=zI hp q1;rw[e1,e2,jH h q2]
  ·rfl
structure OpE (s:ab)(r:ae)(w:Out):Prop where
 ex:Ex s.1 w.1.1
 px:Px s.2.1 w.1.2.1
 no:w.2.1≠0->∀k:Int,0<=k->bal w.1.1 k=bal s.1 k
 yes:w.2.1=0->EOk w.1.1 w.1.2.1 r/\∀k:Int,0<=k->bal w.1.1 k=bal s.1 k+cAt k (effE w.1.1 w.1.2.1 r)
theorem cM {s:ab}{r:ae}{c:Int}(hc:c≠0):OpE s r (s,(c,0)):=⟨Ex.refl _,Px.refl _,λ_ _ _=>rfl,λh=>(hc h).elim⟩
theorem fD {e:Option Int}(hc:code e){c:Int}(he:e=some c):c≠0:=by have:=hc c he;omega
theorem BJ {s:ab}{r:ae}{ac:List Acc}{ps:List ag}{x:List aZ×List aI×Int}{o:ah}(h0:o.1=0)(hx:Ex s.1 ac)(hp:Px s.2.1 ps)(hr:EOk s.1 s.2.1 r)(hb:∀k:Int,0<=k->bal ac k=bal s.1 k+cAt k (effE s.1 s.2.1 r)):OpE s r ((ac,ps,x),o):=by
 obtain⟨e1,e2⟩:=oP hx hp hr;exact⟨hx,hp,λh=>(h h0).elim,λ_=>⟨e1,λk hk=>by rw[hb k hk];dsimp only;rw[e2]⟩⟩
theorem BI {s:ab}(h:Rt s.1){r:ae}{f t:Int}(hE:(bJ s.1 f t r.2.2.2.2.1).2=none->EOk s.1 s.2.1 r/\effE s.1 s.2.1 r=(bJ s.1 f t r.2.2.2.2.1).1):OpE s r (vu s f t r.2.2.2.2.1):=by
 unfold vu;have hc:=eB s.1 f t r.2.2.2.2.1;cases hm:(bJ s.1 f t r.2.2.2.2.1).2 with
 |some c=>exact cM (fD hc hm)
 |none=>
  obtain⟨e1,e2⟩:=hE hm;dsimp only;unfold va;have hcp:=jl s.1 (bJ s.1 f t r.2.2.2.2.1).1;cases hp:(gm s.1 (bJ s.1 f t r.2.2.2.2.1).1).2 with
  |some c=>exact cM (fD hcp hp)
  |none=>
   obtain⟨p1,p2⟩:=vt h hp;exact BJ rfl p1 (Px.refl _) e1 (by rw[e2];exact p2)
theorem H0 (op:Int)(p:ag)(n:Int):(dW op p n).1.1=p.1/\(dW op p n).1.2.1=p.2.1:=by
 unfold dW;split
 ·dsimp only;split<;>exact⟨rfl,rfl⟩
 split
 ·exact⟨rfl,rfl⟩
 split<;>exact⟨rfl,rfl⟩
theorem LP {ps:List ag}{i:Nat}{q:ag}(h:(q.1=(ps.getD i zP).1)/\q.2.1=(ps.getD i zP).2.1):Px ps (ps.set i q):=by
 refine⟨by rw[NA];exact NG _,λj hj=>?_⟩;by_cases hij:i=j
 ·subst hij;rw[ai _ _ _ _ hj];exact h
 ·rw[getD_set_ne _ _ _ hij];exact⟨rfl,rfl⟩
theorem sJ {s:ab}{op:Int}{r:ae}(hn:(bM s op r).2.2=none):(0<=r.2.2.1/\r.2.2.1<(s.2.1.length:Int))/\(bM s op r).1=pOf s.2.1 r/\Px s.2.1 (s.2.1.set (Int.toNat r.2.2.1) (bM s op r).2.1):=by
 unfold bM at hn ⊢;split at hn
 ·cases hn
 ·rename_i h1;rw[ND h1];refine⟨by omega,rfl,LP ?_⟩;dsimp only at hn ⊢;unfold lP at hn ⊢;split at hn
  ·cases hn
  ·rename_i h2;split at hn
   ·rename_i h3;rw[ND h2,NI h3];exact H0 _ _ _
   ·cases hn
theorem E9 {s:ab}(h:Op s s)(r:ae)(h7:r.2.1≠7):OpE s r (opsF s r):=by
 have nil:∀{ac:List Acc} {ps:List ag},r.2.1≠1->r.2.1≠2->r.2.1≠4->r.2.1≠6->EOk ac ps r/\effE ac ps r=[]:=λ{ac ps} n1 n2 n4 n6=>by
  refine⟨⟨λe=>(n1 e).elim,λe=>(n2 e).elim,λe=>(e.elim n4 n6).elim⟩,?_⟩;unfold effE;rw[ND n1,ND n2,ND n4,ND n6]
 have mk0:∀{ac:List Acc} {ps:List ag} {x:List aZ×List aI×Int} {o:ah},r.2.1≠1->r.2.1≠2->r.2.1≠4->r.2.1≠6->o.1=0->Ex s.1 ac->Px s.2.1 ps->(∀k:Int,0<=k->bal ac k=bal s.1 k)->OpE s r ((ac,ps,x),o):=λn1 n2 n4 n6 ho hx hp hb=>by
  obtain⟨e1,e2⟩:=nil (ac:=s.1) (ps:=s.2.1) n1 n2 n4 n6;exact BJ ho hx hp e1 (λk hk=>by rw[hb k hk,e2];simp[cAt])
 unfold opsF;by_cases h0:r.2.1=0
 ·rw[NI h0];unfold zJ;split
  ·exact cM (by omega)
  ·refine mk0 (by omega) (by omega) (by omega) (by omega) rfl ⟨by rw[Ny];omega,λk hk=>?_⟩ (Px.refl _) (λk hk=>?_)
   ·unfold acAt;rw[bN _ _ _ (by have:=hk.2;have:=hk.1;omega)]
   ·unfold bal acAt;by_cases hl:Int.toNat k<s.1.length
    ·rw[bN _ _ _ hl]
    ·rw[NP,NP,N6 (by omega)];rw[Pc (l:=s.1) (by omega)];cases hq:Int.toNat k-s.1.length with
     |zero=>rfl
     |succ n=>rfl
 rw[ND h0];by_cases h1:r.2.1=1
 ·rw[NI h1];unfold depF;split
  ·rename_i hc;refine BI h.rt (λhm=>⟨⟨λ_=>⟨⟨by omega,hc.2⟩,hm⟩,λe=>by omega,λe=>by omega⟩,?_⟩);unfold effE;rw[NI h1]
  ·exact cM (by omega)
 rw[ND h1];by_cases h2:r.2.1=2
 ·rw[NI h2];unfold trF;split
  ·refine BI h.rt (λhm=>⟨⟨λe=>by omega,λ_=>hm,λe=>by omega⟩,?_⟩);unfold effE;rw[ND (by omega),NI h2]
  ·exact cM (by omega)
 rw[ND h2];by_cases h3:r.2.1=3
 ·rw[NI h3];unfold A4;split
  ·split
   ·exact cM (by omega)
   ·split
    ·exact cM (by omega)
    ·have hc:=sD s.1 r.2.2.1 r.2.2.2.2.1;cases hh:(fM s.1 r.2.2.1 r.2.2.2.2.1).2 with
     |some c=>exact cM (fD hc hh)
     |none=>
      obtain⟨b1,b2⟩:=B4 hh;refine mk0 (by omega) (by omega) (by omega) (by omega) rfl b1 ⟨by rw[Ny];omega,λi hi=>?_⟩ b2;rw[bN _ _ _ hi];exact⟨rfl,rfl⟩
  ·exact cM (by omega)
 rw[ND h3];by_cases h4:r.2.1=4
 ·rw[NI h4];unfold capF;have hcb:=(kZ h 4 r).1;cases hn:(bM s 4 r).2.2 with
  |some c=>exact cM (fD hcb hn)
  |none=>
   obtain⟨q1,q2,q3⟩:=sJ hn;dsimp only;rw[q2];have hc:=eB s.1 (pOf s.2.1 r).1 (pOf s.2.1 r).2.1 r.2.2.2.2.1;cases hm:(bJ s.1 (pOf s.2.1 r).1 (pOf s.2.1 r).2.1 r.2.2.2.2.1).2 with
   |some c=>exact cM (fD hc hm)
   |none=>
    dsimp only;unfold payF;have hcs:=oR s.1 r.2.2.2.2.1 (bJ s.1 (pOf s.2.1 r).1 (pOf s.2.1 r).2.1 r.2.2.2.2.1).1;cases hs:(eG s.1 r.2.2.2.2.1 (bJ s.1 (pOf s.2.1 r).1 (pOf s.2.1 r).2.1 r.2.2.2.2.1).1).2 with
    |some c=>exact cM (fD hcs hs)
    |none=>
     obtain⟨b1,b2⟩:=w7 h.rt hs;refine BJ rfl b1 q3 ⟨λe=>by omega,λe=>by omega,λ_=>⟨q1,hm⟩⟩ ?_;unfold effE;rw[ND (by omega),ND (by omega),NI h4];exact b2
 rw[ND h4];by_cases h5:r.2.1=5
 ·rw[NI h5];unfold zf;have hcb:=(kZ h 5 r).1;cases hn:(bM s 5 r).2.2 with
  |some c=>exact cM (fD hcb hn)
  |none=>
   obtain⟨q1,q2,q3⟩:=sJ hn;dsimp only;unfold payF;have hcs:=qg s.1 (bM s 5 r).1.1 (zU (bM s 5 r).1);cases hs:(relF s.1 (bM s 5 r).1.1 (zU (bM s 5 r).1)).2 with
   |some c=>exact cM (fD hcs hs)
   |none=>
    obtain⟨b1,b2⟩:=zE hs;exact mk0 (by omega) (by omega) (by omega) (by omega) rfl b1 q3 b2
 rw[ND h5];by_cases h6:r.2.1=6
 ·rw[NI h6];unfold refF;have hcb:=(kZ h 6 r).1;cases hn:(bM s 6 r).2.2 with
  |some c=>exact cM (fD hcb hn)
  |none=>
   obtain⟨q1,q2,q3⟩:=sJ hn;dsimp only;rw[q2];unfold oS;dsimp only;have hc:=eB s.1 (pOf s.2.1 r).1 (pOf s.2.1 r).2.1 r.2.2.2.2.1;cases hm:(bJ s.1 (pOf s.2.1 r).1 (pOf s.2.1 r).2.1 r.2.2.2.2.1).2 with
   |some c=>exact cM (fD hc hm)
   |none=>
    dsimp only;unfold payF;have hcs:=jl s.1 (back (bJ s.1 (pOf s.2.1 r).1 (pOf s.2.1 r).2.1 r.2.2.2.2.1).1);cases hs:(gm s.1 (back (bJ s.1 (pOf s.2.1 r).1 (pOf s.2.1 r).2.1 r.2.2.2.2.1).1)).2 with
    |some c=>exact cM (fD hcs hs)
    |none=>
     obtain⟨b1,b2⟩:=vt h.rt hs;refine BJ rfl b1 q3 ⟨λe=>by omega,λe=>by omega,λ_=>⟨q1,hm⟩⟩ ?_;unfold effE;rw[ND (by omega),ND (by omega),ND (by omega),NI h6];exact b2
 rw[ND h6,ND h7];exact cM (by omega)
def kE (ac:List Acc)(ps:List ag)(k:Int)(kn:aI):Int:=if kn.2.2=true/\kn.2.1.1=0 then cAt k (effE ac ps kn.1)else 0
def tot (ac:List Acc)(ps:List ag)(k:Int):List aI->Int
 |[]=>0
 |kn::l=>kE ac ps k kn+tot ac ps k l
theorem zj (ac:List Acc)(ps:List ag)(k:Int):∀a b,tot ac ps k (a++b)=tot ac ps k a+tot ac ps k b
 |[],b=>by simp[tot]
 |x::a,b=>by
  show kE ac ps k x+tot ac ps k (a++b)=(kE ac ps k x+tot ac ps k a)+tot ac ps k b;rw[zj ac ps k a b];omega
theorem Ep (ac:List Acc)(ps:List ag)(k:Int)(x:aI):∀(l:List aI)(j:Nat),j<l.length->tot ac ps k (l.set j x)=tot ac ps k l-kE ac ps k (l.getD j d0)+kE ac ps k x
 |[],_,h=>by simp at h
 |y::l,0,_=>by
  show kE ac ps k x+tot ac ps k l=(kE ac ps k y+tot ac ps k l)-kE ac ps k y+kE ac ps k x;omega
 |y::l,j+1,h=>by
  have ih:=Ep ac ps k x l j (by simpa using h);show kE ac ps k y+tot ac ps k (l.set j x)=(kE ac ps k y+tot ac ps k l)-kE ac ps k (l.getD j d0)+kE ac ps k x;rw[ih];omega
structure EffI (s:ab):Prop where
 ok:∀kn∈s.2.2.2.1,kn.2.2=true->kn.2.1.1=0->EOk s.1 s.2.1 kn.1
 bal:∀k:Int,0<=k->bal s.1 k=tot s.1 s.2.1 k s.2.2.2.1
 sag:∀g∈s.2.2.1,g.1.2.1=2/\∃i,fnd g.1.1 s.2.2.2.1=some i/\(s.2.2.2.1.getD i d0).1=g.1
theorem Mc {ac ac':List Acc}{ps ps':List ag}(h:Ex ac ac')(hp:Px ps ps')(k:Int){kn:aI}(hk:kn.2.2=true->kn.2.1.1=0->EOk ac ps kn.1):kE ac' ps' k kn=kE ac ps k kn:=by
 unfold kE;split
 ·rename_i h1;rw[(oP h hp (hk h1.1 h1.2)).2]
 ·rfl
theorem u5 {ac ac':List Acc}{ps ps':List ag}(h:Ex ac ac')(hp:Px ps ps')(k:Int):∀(l:List aI),(∀kn∈l,kn.2.2=true->kn.2.1.1=0->EOk ac ps kn.1)->tot ac' ps' k l=tot ac ps k l
 |[],_=>rfl
 |x::l,hl=>by
  show kE ac' ps' k x+tot ac' ps' k l=kE ac ps k x+tot ac ps k l;rw[Mc h hp k (hl x (Om ..)),u5 h hp k l λkn hkn=>hl kn (NW _ hkn)]
theorem GQ {s:ab}(h:EffI s){ac:List Acc}{ps:List ag}(hx:Ex s.1 ac)(hp:Px s.2.1 ps)(hb:∀k:Int,0<=k->bal ac k=bal s.1 k)(now:Int):EffI (ac,ps,s.2.2.1,s.2.2.2.1,now):=
 ⟨λkn hk h1 h2=>(oP hx hp (h.ok kn hk h1 h2)).1,λk hk=>by
  have:=h.bal k hk;dsimp only;rw[u5 hx hp k _ h.ok];rw[<- this];exact hb k hk,h.sag⟩
theorem Ki {gs:List aZ}{ks:List aI}(kn:aI)(h:∀g∈gs,g.1.2.1=2/\∃i,fnd g.1.1 ks=some i/\(ks.getD i d0).1=g.1):∀g∈gs,g.1.2.1=2/\∃i,fnd g.1.1 (ks++[kn])=some i/\((ks++[kn]).getD i d0).1=g.1:=by
 intro g hg;obtain⟨h0,i,h1,h2⟩:=h g hg;obtain⟨h3,_⟩:=eu h1;exact⟨h0,i,by rw[kU,h1],by rw[bN _ _ _ h3];exact h2⟩
theorem AQ {s:ab}(h:EffI s){ac:List Acc}{ps:List ag}(hx:Ex s.1 ac)(hp:Px s.2.1 ps){r:ae}{o:ah}{b:Bool}(hno:¬ (b=true/\o.1=0)->∀k:Int,0<=k->bal ac k=bal s.1 k)(hyes:b=true/\o.1=0->EOk ac ps r/\∀k:Int,0<=k->bal ac k=bal s.1 k+cAt k (effE ac ps r))(now:Int):EffI (ac,ps,s.2.2.1,s.2.2.2.1++[(r,o,b)],now):=by
 refine⟨λkn hk h1 h2=>?_,λk hk=>?_,Ki _ h.sag⟩
 ·dsimp only at hk ⊢;rcases NU.1 hk with hk|hk
  ·exact(oP hx hp (h.ok kn hk h1 h2)).1
  ·rw[N5.1 hk]at h1 h2 ⊢;exact(hyes ⟨h1,h2⟩).1
 ·dsimp only;rw[zj,u5 hx hp k _ h.ok];have hb:=h.bal k hk;show Top.bal ac k=tot s.1 s.2.1 k s.2.2.2.1+(kE ac ps k (r,o,b)+0);rw[<- hb];unfold kE;dsimp only;by_cases hq:b=true/\o.1=0
  ·rw[NI hq,(hyes hq).2 k hk];omega
  ·rw[ND hq,hno hq k hk];omega
theorem Kp {s:ab}(r:ae)(hn:(resF s r).2=none):∃ac,(resF s r).1=(ac,s.2)/\Ex s.1 ac/\∀k:Int,0<=k->bal ac k=bal s.1 k:=by
 unfold resF at hn ⊢;split at hn
 ·rename_i h1;rw[NI h1];cases hm:(bJ s.1 r.2.2.1 r.2.2.2.1 r.2.2.2.2.1).2 with
  |some c=>rw[hm]at hn;cases hn
  |none=>
   rw[hm]at hn;dsimp only at hn ⊢;unfold mB at hn ⊢;cases hh:(fM s.1 r.2.2.1 r.2.2.2.2.1).2 with
   |some c=>rw[hh]at hn;cases hn
   |none=>exact⟨_,rfl,B4 hh⟩
 ·cases hn
theorem Kb {s:ab}(hi:Inv s)(h:EffI s)(r:ae)(hI:I64 (rqL r))(h7:r.2.1≠7):EffI (subF s r).1:=by
 unfold subF;by_cases hm:mayB r=false
 ·rw[NI hm];exact h
 rw[ND hm];by_cases hk:(askF s.2.2.2.1 r).2=true
 ·rw[NI hk];exact h
 rw[ND hk];have hf:fnd r.1 s.2.2.2.1=none:=by
  rw[wP]at hk;cases hf:fnd r.1 s.2.2.2.1 with
  |none=>rfl
  |some i=>rw[hf]at hk;simp at hk
 by_cases hl:long r/\16<=(s.2.2.1.length:Int)
 ·rw[NI hl];exact h
 rw[ND hl,vo hf];by_cases h256:256<=s.2.2.2.1.length
 ·rw[NI h256];exact h
 rw[ND h256];dsimp only;by_cases hlo:long r
 ·rw[NI hlo];have hcr:=(Bv hi.op r).2;cases hc:(resF s r).2 with
  |some c=>
   dsimp only;rw[iN hf];exact AQ h (Ex.refl _) (Px.refl _) (λ_ _ _=>rfl) (λq=>(fD hcr hc q.2).elim) _
  |none=>
   obtain⟨ac,e,hx,hb⟩:=Kp r hc;dsimp only;rw[e];have h1:=AQ h hx (Px.refl s.2.1) (r:=r) (o:=(0,0)) (b:=false) (λ_=>hb) (λq=>by simp at q) s.2.2.2.2;refine⟨h1.ok,h1.bal,λg hg=>?_⟩;rcases NU.1 hg with hg|hg
   ·exact h1.sag g hg
   ·rw[N5.1 hg];refine⟨hlo.2,s.2.2.2.1.length,?_,by dsimp only;rw[nt]⟩;dsimp only;rw[kU,hf];simp
 ·rw[ND hlo,iN hf];have ho:=E9 hi.op r h7;have hrest:=(tX hi.op r (λh3=>by
   have hmt:mayB r=true:=by cases hq:mayB r with|true=>rfl|false=>exact(hm hq).elim
   exact⟨hI,(ou hmt).2 h3,(ou hmt).1⟩) (zO hm)).1.rest
  have e1:(opsF s r).1.2.2.1=s.2.2.1:=by rw[hrest]
  have e2:(opsF s r).1.2.2.2.2=s.2.2.2.2:=by rw[hrest]
  dsimp only;rw[e1,e2];exact AQ h ho.ex ho.px (λq=>ho.no (λe=>q ⟨rfl,e⟩)) (λq=>ho.yes q.2) _
theorem AO {s:ab}(hi:Inv s)(h:EffI s){ac:List Acc}(hx:Ex s.1 ac){i:Nat}(hil:i<s.2.2.1.length){o:ah}(hno:o.1≠0->∀k:Int,0<=k->bal ac k=bal s.1 k)(hyes:o.1=0->EOk ac s.2.1 (s.2.2.1[i]).1/\∀k:Int,0<=k->bal ac k=bal s.1 k+cAt k (effE ac s.2.1 (s.2.2.1[i]).1)):EffI (endF (ac,s.2) i o).1:=by
 unfold endF;dsimp only;rw[bc s.2.2.1 i zG hil];obtain⟨_,j,f1,f2⟩:=h.sag _ (N8 hil);obtain⟨j2,g1,g2⟩:=hi.gk _ (N8 hil);rw[f1]at g1;cases g1;obtain⟨hj,_⟩:=eu f1;rw[u7 f1 g2];have hko:cg (s.2.2.2.1.set j ((s.2.2.2.1.getD j d0).1,o,true))=cg s.2.2.2.1:=oA _ _ _ hj (by rw[bc _ _ _ hj]);refine⟨λkn hk h1 h2=>?_,λk hk=>?_,λg hg=>?_⟩
 ·dsimp only at hk ⊢;rcases OD hk with hk|hk
  ·exact(oP hx (Px.refl _) (h.ok kn hk h1 h2)).1
  ·subst hk;dsimp only at h2 ⊢;rw[f2];exact(hyes h2).1
 ·dsimp only;rw[Ep _ _ _ _ _ _ hj,u5 hx (Px.refl _) k _ h.ok,<- h.bal k hk];have e1:kE ac s.2.1 k (s.2.2.2.1.getD j d0)=0:=by
   unfold kE;rw[ND (λq=>by rw[g2]at q;cases q.1)]
  rw[e1];unfold kE;dsimp only;by_cases hq:o.1=0
  ·rw[NI ⟨rfl,hq⟩,(hyes hq).2 k hk,f2];omega
  ·rw[ND (λq=>hq q.2),hno hq k hk];omega
 ·dsimp only at hg ⊢;have hg2:g∈s.2.2.1:=by
   rcases NU.1 hg with hg|hg
   ·exact Pa hg
   ·exact Ql hg
  obtain⟨h0,i2,h1,h2⟩:=h.sag g hg2;obtain⟨h3,_⟩:=eu h1;refine⟨h0,i2,by unfold fnd at h1 ⊢;rw[hko];exact h1,?_⟩;by_cases hij:j=i2
  ·subst hij;rw[ai _ _ _ _ hj];exact h2
  ·rw[getD_set_ne _ _ _ hij];exact h2
theorem zF {s:ab}(h:EffI s){i:Nat}(hil:i<s.2.2.1.length){g:aZ}(hg:g.1=(s.2.2.1[i]).1):EffI (putG s i g).1:=by
 refine⟨h.ok,h.bal,λx hx=>?_⟩;unfold putG at hx ⊢;dsimp only at hx ⊢;rcases OD hx with hx|hx
 ·exact h.sag x hx
 ·subst hx;rw[hg];exact h.sag _ (N8 hil)
theorem KU (g:aZ)(ok:Bool):(legF g ok).1=g.1:=by
 unfold legF;split
 ·split
  ·rfl
  ·split<;>rfl
 ·rfl
theorem Bg (g:aZ)(c:Int):(sS g c).1=g.1:=by
 unfold sS;split<;>rfl
theorem Hz {s:ab}(hi:Inv s)(h:EffI s)(key:Int)(ok:Bool):EffI (qo s key ok).1:=by
 unfold qo;cases hf:fndG key s.2.2.1 with
 |none=>exact h
 |some i=>
  have hil:=oH hf;dsimp only;rw[bc s.2.2.1 i zG hil];have hgr:=(hi.gr _ (N8 hil)).2;have hop:=(h.sag _ (N8 hil)).1;split
  ·rename_i h1;have hne:(s.2.2.1[i]).2.2.2.2≠0:=by have:=hgr.2.2;omega
   unfold C8 mB;cases hr:(relF s.1 (s.2.2.1[i]).1.2.2.1 (s.2.2.1[i]).1.2.2.2.2.1).2 with
   |some c=>exact AO hi h (Ex.refl _) hil (λ_ _ _=>rfl) (λq=>(hne q).elim)
   |none=>
    obtain⟨b1,b2⟩:=zE hr;exact AO hi h b1 hil (λ_=>b2) (λq=>(hne q).elim)
  split
  ·unfold nQ;cases hm:(bJ s.1 (s.2.2.1[i]).1.2.2.1 (s.2.2.1[i]).1.2.2.2.1 (s.2.2.1[i]).1.2.2.2.2.1).2 with
   |some c=>exact zF h hil (Bg _ _)
   |none=>
    dsimp only;unfold mB;cases hs:(eG s.1 (s.2.2.1[i]).1.2.2.2.2.1 (bJ s.1 (s.2.2.1[i]).1.2.2.1 (s.2.2.1[i]).1.2.2.2.1 (s.2.2.1[i]).1.2.2.2.2.1).1).2 with
    |some c=>exact zF h hil (Bg _ _)
    |none=>
     obtain⟨b1,b2⟩:=w7 hi.op.rt hs;have e0:EOk s.1 s.2.1 (s.2.2.1[i]).1:=⟨λe=>by omega,λ_=>hm,λe=>by omega⟩
     have e1:=oP b1 (Px.refl s.2.1) e0;refine AO hi h b1 hil (λq=>(q rfl).elim) (λ_=>⟨e1.1,λk hk=>?_⟩);rw[e1.2,b2 k hk];unfold effE;rw[ND (by omega),NI hop]
  ·exact zF h hil (KU _ _)
theorem wW:∀(l:List Int)(s:ab),Op s s->Ex s.1 (sR l s).1/\Px s.2.1 (sR l s).2.1/\(∀k:Int,0<=k->bal (sR l s).1 k=bal s.1 k)
 |[],s,_=>⟨Ex.refl _,Px.refl _,λ_ _=>rfl⟩
 |q::l,s,h=>by
  have h1:=(tX h (0,5,q,0,0,0,0) (λe=>by simp at e) (λe=>by simp at e)).1;have h2:=E9 h (0,5,q,0,0,0,0) (by simp);obtain⟨i1,i2,i3⟩:=wW l _ h1.self;refine⟨h2.ex.trans i1,h2.px.trans i2,λk hk=>?_⟩;show bal (sR l (opsF s (0,5,q,0,0,0,0)).1).1 k=_;rw[i3 k hk];by_cases ho:(opsF s (0,5,q,0,0,0,0)).2.1=0
  ·rw[(h2.yes ho).2 k hk];simp[effE,cAt]
  ·exact h2.no ho k hk
theorem Hw {s:ab}(hi:Inv s)(h:EffI s):EffI (sT s):=by
 unfold sT;split
 ·exact h
 ·have h0:Op (s.1,s.2.1,s.2.2.1,s.2.2.2.1,w64 (s.2.2.2.2+1)) (s.1,s.2.1,s.2.2.1,s.2.2.2.1,w64 (s.2.2.2.2+1)):=⟨rfl,hi.op.rt,hi.op.pl,hi.op.ps,NG _⟩
  have h1:=mC (nA s.2.1 (w64 (s.2.2.2.2+1))) _ h0;obtain⟨e1,e2,e3⟩:=wW (nA s.2.1 (w64 (s.2.2.2.2+1))) _ h0;have hr:=h1.rest;generalize sR (nA s.2.1 (w64 (s.2.2.2.2+1))) (s.1,s.2.1,s.2.2.1,s.2.2.2.1,w64 (s.2.2.2.2+1))=t at h1 e1 e2 e3 hr;obtain⟨a,p,x⟩:=t;have hr:x=(s.2.2.1,s.2.2.2.1,w64 (s.2.2.2.2+1)):=hr;subst hr;exact GQ h e1 e2 e3 _
theorem CR {s:ab}(hi:Inv s)(h:EffI s)(e:au)(he:evR e)(h7:e.1=0->e.2.1.2.1≠7):EffI (doF s e).1:=by
 unfold doF;split
 ·rename_i h0;exact Kb hi h _ (tz he).2 (h7 h0)
 split
 ·exact Hz hi h _ _
 split
 ·exact Hw hi h
 ·exact h
theorem eff0:EffI s0:=by
 refine⟨λkn hk=>(by cases hk),λk hk=>?_,λg hg=>(by cases hg)⟩;have ha:∀a∈s0.1,a.2.1=0:=by decide
 show(acAt s0.1 k).2.1=0;unfold acAt;rw[NP];cases hq:s0.1[Int.toNat k]? with
 |none=>rfl
 |some a=>exact ha a (NX hq)
def AE (r:ae):Prop:=AR r/\r.2.1≠7
theorem Kt {s:ab}{said:List dN}{done:List au}(h:Rch AE s said done):EffI s:=by
 have hAR:∀r,AE r->mayB r=true/\I64 (rqL r):=λr hr=>CY r hr.1
 have evA:∀r,AE r->evR (0,r,0,false):=λr hr=>.inl ⟨rfl,(hAR r hr).1,(hAR r hr).2,rfl⟩
 induction h with
 |zero=>exact eff0
 |ask r ha h ih=>exact CR (h.ok hAR).inv ih _ (evA r ha) (λ_=>ha.2)
 |lost r o ha ho h ih=>exact ih
 |kept r o ha ho h ih=>exact CR (h.ok hAR).inv ih _ (evA r ha) (λ_=>ha.2)
 |ev e he h0 h ih=>exact CR (h.ok hAR).inv ih _ he (λq=>(h0 q).elim)
theorem KP (g:aZ)(hm:mayB g.1=true)(h:sagR g):∃n:Int,(0<=n/\n<=18)/\Ev1 (λk=>CF k Ah l5 [inj bn g]) n:=by
 have hl:=BP hm;obtain⟨h1,h2,h3⟩:=h;by_cases c0:g.2.1=0
 ·have e1:w64 (g.1.2.2.2.2.2.1-g.2.2.1)=g.1.2.2.2.2.2.1-g.2.2.1:=aL (by omega);have e2:maxI 0 (g.1.2.2.2.2.2.1-g.2.2.1)=g.1.2.2.2.2.2.1-g.2.2.1:=by
   unfold maxI;by_cases hq:(0:Int)<g.1.2.2.2.2.2.1-g.2.2.1
   ·rw[NK hq];rfl
   ·rw[NF hq,NS];omega
  refine⟨(g.1.2.2.2.2.2.1-g.2.2.1)*4-g.2.2.2.1+2,by omega,Ev1.step (λk=>sd k g) (Ev1.posD c0 (Ev1.const ?_))⟩;rw[e1,e2,aL (x:=(g.1.2.2.2.2.2.1-g.2.2.1)*4) (by omega),aL (x:=(g.1.2.2.2.2.2.1-g.2.2.1)*4-g.2.2.2.1) (by omega),aL (by omega)]
 ·have c1:g.2.1=1:=by omega
  exact⟨1,by omega,Ev1.step (λk=>sd k g) (Ev1.negD c0 (Ev1.posD c1 (Ev1.now _)))⟩
theorem G8 (l : List aZ) (hl : l.length ≤ 16) (h : ∀ g ∈ l, mayB g.1 = true ∧ sagR g) : ∀ (d i : Nat) (n : Int), i + d = l.length → 0 ≤ n ∧ n ≤ 18 * i → ∃ m : Int, (0 ≤ m ∧ m ≤ 288) ∧ Ev2 (fun k m => fR k m n l (l.length : Int) (i : Int)) m
  | 0, i, n, hi, hn => ⟨n, by omega, Ev2.step (fun k m => kO k m n l (l.length : Int) (i : Int)) (Ev2.negD (by omega) (Ev2.now _))⟩
  | d + 1, i, n, hi, hn => by
    have hlt : i < l.length := by omega
    obtain ⟨q, hq, hev⟩ := KP l[i] (h _ (N8 hlt)).1 (h _ (N8 hlt)).2
    obtain ⟨m, hm, ih⟩ := G8 l hl h d (i + 1) (n + q) (by omega) (by omega)
    refine ⟨m, hm, Ev2.step (fun k m => kO k m n l (l.length : Int) (i : Int)) (Ev2.posD (by omega) (Ev2.pos (aj (by omega) (by omega)) ?_))⟩
    rw [gG l i hlt]
    refine Ev2.bind hev ?_
    rw [aL (x := n + q) (by omega), wnat (by omega)]
    exact ih
theorem Le (M:Int)(hM:M<=288):∀(d:Nat)(n:Nat)(s:ab)(out:List au),Int.toNat (M-n)<=d->Inv s->out.length<=n->n<=288 ->
  ∃es out',(∀e∈es,evR e/\e.1≠0)/\Ev2 (λk m=>jL k m [] [] M (n:Int) s.1 s.2.1 s.2.2.1 s.2.2.2.1 s.2.2.2.2 0 out) (runE s es,out'):=by
 intro d
 induction d with
 |zero=>
  intro n s out hd hs ho hn;exact⟨[],out,λe he=>(by cases he),Ev2.step (λk m=>nj k m [] [] M (n:Int) s.1 s.2.1 s.2.2.1 s.2.2.2.1 s.2.2.2.2 0 out _ rfl) (Ev2.negD (by omega) (Ev2.now _))⟩
 |succ d ih=>
  intro n s out hd hs ho hn;have st:=λk m=>nj k m [] [] M (n:Int) s.1 s.2.1 s.2.2.1 s.2.2.2.1 s.2.2.2.2 0 out _ rfl
  by_cases h1:(n:Int)<M
  ·by_cases h2:0<(s.2.2.1.length:Int)
   ·have hlt:0<s.2.2.1.length:=by omega
    have hg:=hs.gr _ (N8 hlt);have hkey:0<=(s.2.2.1[0]).1.1/\(s.2.2.1[0]).1.1<1073741824:=wU hs (N9.2 ⟨_,N8 hlt,rfl⟩);have heR:evR (1,zR,(s.2.2.1[0]).1.1,true):=.inr (.inl ⟨rfl,rfl,by dsimp only;omega,by dsimp only;omega⟩);obtain⟨es,out',q1,q2⟩:=ih (n+1) (doF s (1,zR,(s.2.2.1[0]).1.1,true)).1 (out++[((1,zR,(s.2.2.1[0]).1.1,true):au)]) (by omega) (sA hs _ (tz heR).2).1 (by rw[Ny];simp only[NC,NL];omega) (by omega);refine⟨(1,zR,(s.2.2.1[0]).1.1,true)::es,out',λe he=>?_,Ev2.step st (Ev2.posD h1 (Ev2.posD h2 ?_))⟩
    ·rcases NO.1 he with he|he
     ·rw[he];exact⟨heR,by simp⟩
     ·exact q1 e he
    have he0:s.2.2.1.getD (Int.toNat 0) (((0:Int),(0:Int),(0:Int),(0:Int),(0:Int),(0:Int),(0:Int)),(0:Int),(0:Int),(0:Int),(0:Int))=s.2.2.1[0]:=gG s.2.2.1 0 hlt;have h4:Ev3 (λk m1 m=>fO k m1 m [] [] M (n:Int) 0 true s.1 s.2.1 s.2.2.1 s.2.2.2.1 s.2.2.2.2 0 out) (runE s ((1,zR,(s.2.2.1[0]).1.1,true)::es),out'):=by
     refine Ev3.step (λk m1 m=>rJ k m1 m [] [] M (n:Int) 0 true s.1 s.2.1 s.2.2.1 s.2.2.2.1 s.2.2.2.2 0 out (1,zR,(s.2.2.1[0]).1.1,true) (by rw[he0])) (Ev3.pos (aj (by omega) h2) (Ev3.bind (GW hs _) (Ev3.posD ?_ ?_)))
     ·simp only[NC,NL];omega
     ·rw[wnat (by omega)];exact Ev2.drop q2
    have h3:Ev3 (λk m1 m=>fP k m1 m [] [] M (n:Int) 0 true s.1 s.2.1 s.2.2.1 s.2.2.2.1 s.2.2.2.2 0 out) (runE s ((1,zR,(s.2.2.1[0]).1.1,true)::es),out'):=
     Ev3.step (λk m1 m=>rK k m1 m [] [] M (n:Int) 0 true s.1 s.2.1 s.2.2.1 s.2.2.2.1 s.2.2.2.2 0 out _ rfl _ rfl) (Ev3.negD (by simp) (Ev2.drop h4.diag))
    have h2':Ev3 (λk m1 m=>fQ k m1 m [] [] M (n:Int) 0 true s.1 s.2.1 s.2.2.1 s.2.2.2.1 s.2.2.2.2 0 out) (runE s ((1,zR,(s.2.2.1[0]).1.1,true)::es),out'):=
     Ev3.step (λk m1 m=>rL k m1 m [] [] M (n:Int) 0 true s.1 s.2.1 s.2.2.1 s.2.2.2.1 s.2.2.2.2 0 out) (Ev3.negD (by omega) (Ev2.drop h3.diag))
    have h1':Ev3 (λk m1 m=>jK k m1 m [] [] M (n:Int) s.1 s.2.1 s.2.2.1 s.2.2.2.1 s.2.2.2.2 0 out) (runE s ((1,zR,(s.2.2.1[0]).1.1,true)::es),out'):=
     Ev3.step (λk m1 m=>rM k m1 m [] [] M (n:Int) s.1 s.2.1 s.2.2.1 s.2.2.2.1 s.2.2.2.2 0 out _ rfl _ rfl _ rfl) (Ev3.negD (by simp) (Ev2.drop h2'.diag))
    exact h1'.diag
   ·exact⟨[],out,λe he=>(by cases he),Ev2.step st (Ev2.posD h1 (Ev2.negD h2 (Ev2.now _)))⟩
  ·exact⟨[],out,λe he=>(by cases he),Ev2.step st (Ev2.negD h1 (Ev2.now _))⟩
theorem IX {s:ab}(hs:Inv s):∃es,(∀e∈es,evR e/\e.1≠0)/\Ev1 (λk=>CF k Ar l8 [inj aD s]) (runE s es):=by
 obtain⟨M,hM,hb⟩:=G8 s.2.2.1 hs.gl hs.gr s.2.2.1.length 0 0 (by omega) (by omega);obtain⟨es,out',q1,q2⟩:=Le M hM.2 (Int.toNat (M-0)) 0 s [] (NG _) hs (NG _) (by omega);refine⟨es,q1,Ev1.step (λk=>AN k s) (Ev1.bind (Ev1.step (λk=>wA k s) hb.diag) (Ev1.bind (Ev1.step (λk=>AM k s [] [] M) q2.diag) (Ev1.now _)))⟩
theorem Kk {s:ab}(hi:Inv s)(h:EffI s):∀(es:List au),(∀e∈es,evR e/\e.1≠0)->Inv (runE s es)/\EffI (runE s es):=by
 intro es
 induction es generalizing s with
 |nil=>intro _;exact⟨hi,h⟩
 |cons e es ih=>
  intro hes;obtain⟨h1,h2⟩:=hes e (Om ..);exact ih (sA hi e (tz h1).2).1 (CR hi h e h1 (λq=>(h2 q).elim)) λx hx=>hes x (NW _ hx)
end Go.Eng.Top
namespace Go.Eng.Top
open Go.RowKit Go.Eng Go.Eng.LVar Go.Eng.LChart Go.Eng.LEnt
set_option maxRecDepth 100000
theorem JX (a b:Int):w64 (w64 a+b)=w64 (a+b):=by
 show IntKind.i64.wrap (IntKind.i64.wrap a+b)=IntKind.i64.wrap (a+b);rw[uY,uY,uY];omega
theorem vK {ac:List Acc}(hl:9<=ac.length)(hc:Curs ac){f t n:Int}:∀e∈(bJ ac f t n).1,inA ac e.1:=by
 intro e he;unfold bJ at he;split at he
 ·rename_i hi;have c1:=hc.at hi.1;have c2:=hc.at hi.2;split at he
  ·cases he
  ·split at he
   ·simp only[NO,Oc,ON]at he;rcases he with rfl|rfl
    ·exact hi.1
    ·exact hi.2
   ·split at he
    ·cases he
    ·split at he
     ·cases he
     ·simp only[NO,Oc,ON]at he;rcases he with rfl|rfl|rfl|rfl
      ·exact hi.1
      ·unfold inA;dsimp only;omega
      ·unfold inA;dsimp only;omega
      ·exact hi.2
 ·cases he
theorem Ln {ac:List Acc}{es:List En}(h:∀e∈es,inA ac e.1):∀e∈back es,inA ac e.1:=by
 intro e he;unfold back at he;obtain⟨x,hx,rfl⟩:=N9.1 (List.mem_reverse.1 he);exact h x hx
def upd (has:List Int)(e:En):List Int:=has.set (Int.toNat e.1) (w64 (has.getD (Int.toNat e.1) 0+e.2))
theorem J2 {has:List Int}{e:En}(he:0<=e.1/\e.1<(has.length:Int)){k:Nat}(hk:k<has.length){x:Int}(hx:has.getD k 0=w64 x):(upd has e).getD k 0=w64 (x+if e.1=(k:Int)then e.2 else 0):=by
 obtain⟨n,hn⟩:=Oj he.1;unfold upd;rw[hn,NQ];by_cases hnk:n=k
 ·subst hnk;rw[ai _ _ _ _ hk,hx,JX,NI rfl]
 ·rw[getD_set_ne _ _ _ hnk,hx,ND (by omega),Int.add_zero]
theorem Bf:∀(es:List En)(has:List Int),(∀e∈es,0<=e.1/\e.1<(has.length:Int))->(es.foldl upd has).length=has.length/\∀(k:Nat)(x:Int),k<has.length->has.getD k 0=w64 x->(es.foldl upd has).getD k 0=w64 (x+cAt (k:Int) es)
 |[],has,_=>⟨rfl,λk x hk hx=>by simp[cAt];exact hx⟩
 |e::es,has,h=>by
  have hl:(upd has e).length=has.length:=by unfold upd;rw[NA]
  have he:=h e (Om ..);obtain⟨q1,q2⟩:=Bf es (upd has e) (λx hx=>by rw[hl];exact h x (NW _ hx));refine⟨by rw[Pf,q1,hl],λk x hk hx=>?_⟩;rw[Pf,q2 k _ (by rw[hl];exact hk) (J2 he hk hx)];show w64 (x+(if e.1=(k:Int)then e.2 else 0)+cAt (k:Int) es)=w64 (x+((if e.1=(k:Int)then e.2 else 0)+cAt (k:Int) es));rw[Int.add_assoc]
section
variable (W:WC)(t:ab)(ks:List aI)
noncomputable abbrev hE1 (k m:Nat)(i:Int)(has:List Int):=bF k m ks (ks.length:Int) i t.1 t.2.1 t.2.2.1 t.2.2.2.1 t.2.2.2.2 has W.wd W.we W.ws W.wn W.wc W.wr W.ww W.wo W.c.F W.c.R W.c.L W.c.S W.ej W.es W.c.jd W.c.jt W.c.jb W.c.jr W.c.jk W.c.B W.c.sf
theorem in6 (i:Nat)(hi:i<=1000)(es:List En)(hl:es.length<=100)(R:R2):∀(d p:Nat)(has:List Int),p+d=es.length->(∀e∈es,0<=e.1/\e.1<(has.length:Int))->Ev2 (λk m=>hE1 W t ks k m ((i+1:Nat):Int) ((es.drop p).foldl upd has)) R ->
  Ev3 (λk m1 m=>da k m1 m ks (ks.length:Int) (i:Int) es (es.length:Int) (p:Int) t.1 t.2.1 t.2.2.1 t.2.2.2.1 t.2.2.2.2 has W.wd W.we W.ws W.wn W.wc W.wr W.ww W.wo W.c.F W.c.R W.c.L W.c.S W.ej W.es W.c.jd W.c.jt W.c.jb W.c.jr W.c.jk W.c.B W.c.sf) R/\Ev3 (λk m1 m=>c9 k m1 m ks (ks.length:Int) (i:Int) (es.length:Int) (p:Int) t.1 t.2.1 t.2.2.1 t.2.2.2.1 t.2.2.2.2 has es W.wd W.we W.ws W.wn W.wc W.wr W.ww W.wo W.c.F W.c.R W.c.L W.c.S W.ej W.es W.c.jd W.c.jt W.c.jb W.c.jr W.c.jk W.c.B W.c.sf) R
 |0,p,has,h,hin,hR=>by
  rw[Oi (by omega),List.foldl_nil,<- wnat (by omega)]at hR;exact⟨Ev3.step (λk m1 m=>gH k m1 m ks (ks.length:Int) (i:Int) es (es.length:Int) (p:Int) t.1 t.2.1 t.2.2.1 t.2.2.2.1 t.2.2.2.2 has W.wd W.we W.ws W.wn W.wc W.wr W.ww W.wo W.c.F W.c.R W.c.L W.c.S W.ej W.es W.c.jd W.c.jt W.c.jb W.c.jr W.c.jk W.c.B W.c.sf _ rfl _ rfl) (Ev3.negD (by omega) (Ev2.drop hR)),Ev3.step (λk m1 m=>gF k m1 m ks (ks.length:Int) (i:Int) (es.length:Int) (p:Int) t.1 t.2.1 t.2.2.1 t.2.2.2.1 t.2.2.2.2 has es W.wd W.we W.ws W.wn W.wc W.wr W.ww W.wo W.c.F W.c.R W.c.L W.c.S W.ej W.es W.c.jd W.c.jt W.c.jb W.c.jr W.c.jk W.c.B W.c.sf _ rfl _ rfl) (Ev3.negD (by omega) (Ev2.drop hR))⟩
 |d+1,p,has,h,hin,hR=>by
  have hlt:p<es.length:=by omega
  have he:es.getD (Int.toNat (p:Int)) ((0:Int),(0:Int))=es[p]:=by rw[NQ];exact bc es p _ hlt
  have hr:=hin _ (N8 hlt);rw[Ob hlt,Pf]at hR;obtain⟨i6,i7⟩:=in6 i hi es hl R d (p+1) (upd has es[p]) (by omega) (λe hm=>by unfold upd;rw[NA];exact hin e hm) hR;unfold upd at i6 i7;rw[<- wnat (by omega)]at i6 i7;have hb:inb (es[p]).1 has.length=true:=aj hr.1 hr.2;exact⟨Ev3.step (λk m1 m=>gH k m1 m ks (ks.length:Int) (i:Int) es (es.length:Int) (p:Int) t.1 t.2.1 t.2.2.1 t.2.2.2.1 t.2.2.2.2 has W.wd W.we W.ws W.wn W.wc W.wr W.ww W.wo W.c.F W.c.R W.c.L W.c.S W.ej W.es W.c.jd W.c.jt W.c.jb W.c.jr W.c.jk W.c.B W.c.sf es[p] he.symm _ rfl) (Ev3.posD (by omega) (Ev3.pos (aj (by omega) (by omega)) (Ev3.pos hb (Ev3.pos hb i6)))),
   Ev3.step (λk m1 m=>gF k m1 m ks (ks.length:Int) (i:Int) (es.length:Int) (p:Int) t.1 t.2.1 t.2.2.1 t.2.2.2.1 t.2.2.2.2 has es W.wd W.we W.ws W.wn W.wc W.wr W.ww W.wo W.c.F W.c.R W.c.L W.c.S W.ej W.es W.c.jd W.c.jt W.c.jb W.c.jr W.c.jk W.c.B W.c.sf es[p] he.symm _ rfl) (Ev3.posD (by omega) (Ev3.pos (aj (by omega) (by omega)) (Ev3.pos hb (Ev3.pos hb i7))))⟩
theorem MA (has : List Int) (hl : has.length = t.1.length) (hl2 : t.1.length ≤ 1000) (h : ∀ k, k < t.1.length → (t.1.getD k (0, 0, 0)).2.1 = has.getD k 0) : ∀ (d i : Nat), i + d = t.1.length → Ev2 (fun k m => db k m t.1 (t.1.length : Int) (i : Int) has W.wd W.we W.ws W.wn W.wc W.wr W.ww W.wo W.c.F W.c.R W.c.L W.c.S W.ej W.es W.c.jd W.c.jt W.c.jb W.c.jr W.c.jk W.c.B W.c.sf) (outT true W)
  | 0, i, hi => Ev2.step (fun k m => gI k m t.1 (t.1.length : Int) (i : Int) has W.wd W.we W.ws W.wn W.wc W.wr W.ww W.wo W.c.F W.c.R W.c.L W.c.S W.ej W.es W.c.jd W.c.jt W.c.jb W.c.jr W.c.jk W.c.B W.c.sf _ rfl) (Ev2.negD (by omega) (Ev2.now _))
  | d + 1, i, hi => by
    have ih := MA has hl hl2 h d (i + 1) (by omega)
    rw [← wnat (by omega)] at ih
    refine Ev2.step (fun k m => gI k m t.1 (t.1.length : Int) (i : Int) has W.wd W.we W.ws W.wn W.wc W.wr W.ww W.wo W.c.F W.c.R W.c.L W.c.S W.ej W.es W.c.jd W.c.jt W.c.jb W.c.jr W.c.jk W.c.B W.c.sf i (NQ i).symm) (Ev2.posD (by omega) (Ev2.pos (aj (by omega) (by omega)) (Ev2.pos (aj (by omega) (by omega)) (Ev2.neg ?_ ih))))
    rw [NK (h i (by omega))]; rfl
end
theorem FG {ac:List Acc}{ps:List ag}{k:Int}{ks:List aI}{i:Nat}(hi:i<ks.length):tot ac ps k (ks.take (i+1))=tot ac ps k (ks.take i)+kE ac ps k ks[i]:=by
 rw[PK hi,zj];show _+(kE ac ps k ks[i]+0)=_;omega
theorem Ka (W:WC){t:ab}(hi:Inv t)(h:EffI t):∀(d i:Nat)(has:List Int),i+d=t.2.2.2.1.length->has.length=t.1.length->(∀k:Nat,k<t.1.length->has.getD k 0=w64 (tot t.1 t.2.1 (k:Int) (t.2.2.2.1.take i))) ->
  Ev2 (λk m=>hE1 W t t.2.2.2.1 k m (i:Int) has) (outT true W)
 |0,i,has,hd,hl,hh=>by
  have hlen:=hi.op.rt.hi;have hc:=MA W t has hl (by omega) (λk hk=>by
   rw[hh k hk,O0 (by omega)];have hb:=h.bal (k:Int) (by omega);have hk2:=hi.op.rt.bal (k:Int) (by omega);unfold bal at hb;rw[<- hb];unfold okM at hk2;rw[aL (by omega)];unfold acAt;rw[NQ]) t.1.length 0 (by omega)
  exact Ev2.step (λk m=>gJ k m t.2.2.2.1 (t.2.2.2.1.length:Int) (i:Int) t.1 t.2.1 t.2.2.1 t.2.2.2.1 t.2.2.2.2 has W.wd W.we W.ws W.wn W.wc W.wr W.ww W.wo W.c.F W.c.R W.c.L W.c.S W.ej W.es W.c.jd W.c.jt W.c.jb W.c.jr W.c.jk W.c.B W.c.sf _ rfl _ rfl) (Ev2.negD (by omega) (Ev1.drop hc.diag))
 |d+1,i,has,hd,hl,hh=>by
  have hlt:i<t.2.2.2.1.length:=by omega
  have hkl:=hi.kl;have hlo:=hi.op.rt.lo;have he:t.2.2.2.1.getD (Int.toNat (i:Int)) (((0:Int),(0:Int),(0:Int),(0:Int),(0:Int),(0:Int),(0:Int)),((0:Int),(0:Int)),false)=t.2.2.2.1[i]:=getK _ _ hlt;have hok:=h.ok _ (N8 hlt);have skip:kE t.1 t.2.1=kE t.1 t.2.1:=rfl;have st:=λk m=>gJ k m t.2.2.2.1 (t.2.2.2.1.length:Int) (i:Int) t.1 t.2.1 t.2.2.1 t.2.2.2.1 t.2.2.2.2 has W.wd W.we W.ws W.wn W.wc W.wr W.ww W.wo W.c.F W.c.R W.c.L W.c.S W.ej W.es W.c.jd W.c.jt W.c.jb W.c.jr W.c.jk W.c.B W.c.sf ((i+1:Nat):Int) (wnat (by omega)).symm t.2.2.2.1[i] he.symm
  have same:¬ ((t.2.2.2.1[i]).2.2=true/\(t.2.2.2.1[i]).2.1.1=0)->Ev2 (λk m=>hE1 W t t.2.2.2.1 k m ((i+1:Nat):Int) has) (outT true W):=λhn=>
   Ka W hi h d (i+1) has (by omega) hl (λk hk=>by rw[FG hlt,hh k hk];unfold kE;rw[ND hn,Int.add_zero])
  generalize hkn:t.2.2.2.1[i]=kn at hok same st;refine Ev2.step st (Ev2.posD (by omega) (Ev2.pos (aj (by omega) (by omega)) ?_));by_cases c1:kn.2.2=true
  rotate_left
  ·have c1':kn.2.2=false:=by cases hq:kn.2.2 with|true=>exact(c1 hq).elim|false=>rfl
   exact Ev2.pos (by rw[c1'];rfl) (same (λq=>c1 q.1))
  refine Ev2.neg (by rw[c1];rfl) ?_;by_cases c2:kn.2.1.1=0
  rotate_left
  ·exact Ev2.pos (by rw[NF c2];rfl) (same (λq=>c2 q.2))
  refine Ev2.neg (by rw[NK c2];rfl) ?_;have hE:=hok c1 c2;have hin:∀e∈effE t.1 t.2.1 kn.1,inA t.1 e.1:=by
   unfold effE;split
   ·exact vK hlo hi.op.rt.curs
   split
   ·exact vK hlo hi.op.rt.curs
   split
   ·exact vK hlo hi.op.rt.curs
   split
   ·exact Ln (vK hlo hi.op.rt.curs)
   ·intro e he;cases he
  have hin2:∀e∈effE t.1 t.2.1 kn.1,0<=e.1/\e.1<(has.length:Int):=λe he=>by rw[hl];exact hin e he
  obtain⟨q1,q2⟩:=Bf (effE t.1 t.2.1 kn.1) has hin2;have next:=Ka W hi h d (i+1) ((effE t.1 t.2.1 kn.1).foldl upd has) (by omega) (by rw[q1,hl]) (λk hk=>by
   rw[q2 k _ (by omega) (hh k hk),FG hlt,hkn];unfold kE;rw[NI ⟨c1,c2⟩])
  have hmv:∀f u n:Int,(bJ t.1 f u n).1.length<=4:=λf u n=>by
   rcases oq t.1 f u n with⟨c,e⟩|⟨v,r,e,hr⟩
   ·rw[e];simp
   ·rw[e];simp only[NC];omega
  have hlen4:(effE t.1 t.2.1 kn.1).length<=4:=by
   unfold effE;split
   ·exact hmv _ _ _
   split
   ·exact hmv _ _ _
   split
   ·exact hmv _ _ _
   split
   ·unfold back;rw[Q6,OC];exact hmv _ _ _
   ·exact PY _
  obtain⟨h6,h7⟩:=in6 W t t.2.2.2.1 i (by omega) (effE t.1 t.2.1 kn.1) (by omega) (outT true W) (effE t.1 t.2.1 kn.1).length 0 has (by omega) hin2 (by rw[Pm];exact next);have h4:Ev3 (λk m1 m=>bS k m1 m (effE t.1 t.2.1 kn.1) t.2.2.2.1 (t.2.2.2.1.length:Int) (i:Int) t.1 t.2.1 t.2.2.1 t.2.2.2.1 t.2.2.2.2 has W.wd W.we W.ws W.wn W.wc W.wr W.ww W.wo W.c.F W.c.R W.c.L W.c.S W.ej W.es W.c.jd W.c.jt W.c.jb W.c.jr W.c.jk W.c.B W.c.sf) (outT true W):=
   Ev3.step (λk m1 m=>me k m1 m (effE t.1 t.2.1 kn.1) t.2.2.2.1 (t.2.2.2.1.length:Int) (i:Int) t.1 t.2.1 t.2.2.1 t.2.2.2.1 t.2.2.2.2 has W.wd W.we W.ws W.wn W.wc W.wr W.ww W.wo W.c.F W.c.R W.c.L W.c.S W.ej W.es W.c.jd W.c.jt W.c.jb W.c.jr W.c.jk W.c.B W.c.sf) (Ev2.drop h6.diag)
  have h5:Ev3 (λk m1 m=>eW k m1 m t.2.2.2.1 (t.2.2.2.1.length:Int) (i:Int) t.1 t.2.1 t.2.2.1 t.2.2.2.1 t.2.2.2.2 has (effE t.1 t.2.1 kn.1) W.wd W.we W.ws W.wn W.wc W.wr W.ww W.wo W.c.F W.c.R W.c.L W.c.S W.ej W.es W.c.jd W.c.jt W.c.jb W.c.jr W.c.jk W.c.B W.c.sf) (outT true W):=
   Ev3.step (λk m1 m=>mc k m1 m t.2.2.2.1 (t.2.2.2.1.length:Int) (i:Int) t.1 t.2.1 t.2.2.1 t.2.2.2.1 t.2.2.2.2 has (effE t.1 t.2.1 kn.1) W.wd W.we W.ws W.wn W.wc W.wr W.ww W.wo W.c.F W.c.R W.c.L W.c.S W.ej W.es W.c.jd W.c.jt W.c.jb W.c.jr W.c.jk W.c.B W.c.sf) (Ev2.drop h7.diag)
  have h2:Ev3 (λk m1 m=>eZ k m1 m t.2.2.2.1 (t.2.2.2.1.length:Int) (i:Int) t.1 t.2.1 t.2.2.1 t.2.2.2.1 t.2.2.2.2 has kn.1.1 kn.1.2.1 kn.1.2.2.1 kn.1.2.2.2.1 kn.1.2.2.2.2.1 kn.1.2.2.2.2.2.1 kn.1.2.2.2.2.2.2 W.wd W.we W.ws W.wn W.wc W.wr W.ww W.wo W.c.F W.c.R W.c.L W.c.S W.ej W.es W.c.jd W.c.jt W.c.jb W.c.jr W.c.jk W.c.B W.c.sf) (outT true W):=by
   refine Ev3.step (λk m1 m=>mf k m1 m t.2.2.2.1 (t.2.2.2.1.length:Int) (i:Int) t.1 t.2.1 t.2.2.1 t.2.2.2.1 t.2.2.2.2 has kn.1.1 kn.1.2.1 kn.1.2.2.1 kn.1.2.2.2.1 kn.1.2.2.2.2.1 kn.1.2.2.2.2.2.1 kn.1.2.2.2.2.2.2 W.wd W.we W.ws W.wn W.wc W.wr W.ww W.wo W.c.F W.c.R W.c.L W.c.S W.ej W.es W.c.jd W.c.jt W.c.jb W.c.jr W.c.jk W.c.B W.c.sf (pOf t.2.1 kn.1) rfl) ?_;have d4:=Ev2.drop h4.diag;have d5:=Ev2.drop h5.diag;unfold effE at d4 d5;have hcu:=hi.op.rt.curs;by_cases o1:kn.1.2.1=1
   ·rw[NI o1]at d4;obtain⟨g1,_⟩:=hE.dep o1;refine Ev3.posD o1 (Ev3.pos (aj g1.1 g1.2) (Ev3.bind (ko 0 (acAt t.1 kn.1.2.2.1).1) (Ev3.bind (jI t.1 hcu _ _ _) d4)))
   rw[ND o1]at d4 d5;refine Ev3.negD o1 ?_;by_cases o2:kn.1.2.1=2
   ·rw[NI o2]at d4;exact Ev3.posD o2 (Ev3.bind (jI t.1 hcu _ _ _) d4)
   rw[ND o2]at d4 d5;refine Ev3.negD o2 ?_;by_cases o4:kn.1.2.1=4
   ·rw[NI o4]at d4;obtain⟨g1,_⟩:=hE.pay (.inl o4);exact Ev3.posD o4 (Ev3.pos (aj g1.1 g1.2) (Ev3.pos (aj g1.1 g1.2) (Ev3.bind (jI t.1 hcu _ _ _) d4)))
   rw[ND o4]at d4 d5;refine Ev3.negD o4 ?_;by_cases o6:kn.1.2.1=6
   ·rw[NI o6]at d5;obtain⟨g1,_⟩:=hE.pay (.inr o6);have:=hmv (pOf t.2.1 kn.1).1 (pOf t.2.1 kn.1).2.1 kn.1.2.2.2.2.1;exact Ev3.posD o6 (Ev3.pos (aj g1.1 g1.2) (Ev3.pos (aj g1.1 g1.2) (Ev3.bind (jI t.1 hcu _ _ _) (Ev3.bind (Hc _ (by omega)) d5))))
   rw[ND o6]at d4;exact Ev3.negD o6 d4
  exact h2.diag
noncomputable abbrev hE0 (k m:Nat)(room i:Int)(all:List Int)(W:WC):=cX k m room i all W.wd W.we W.ws W.wn W.wc W.wr W.ww W.wo W.c.F W.c.R W.c.L W.c.S W.ej W.es W.c.jd W.c.jt W.c.jb W.c.jr W.c.jk W.c.B W.c.sf
theorem K6 (W:WC)(room:Int):∀(d i:Nat)(all:List Int),i+d=all.length/6->all.length<=4000->Byt all->(∀j,j<i->all.getD (6*j+1) 0%8≠7) ->
  ∃all',all'.length=all.length/\Byt all'/\(∀j,j<all.length/6->all'.getD (6*j+1) 0%8≠7)/\∀R,Ev2 (λk m=>hE0 k m room ((6*(all.length/6):Nat):Int) all' W) R->Ev2 (λk m=>hE0 k m room ((6*i:Nat):Int) all W) R
 |0,i,all,hd,hl,hb,hj=>⟨all,rfl,hb,λj hjl=>hj j (by omega),λR h=>by rw[show i=all.length/6 by omega];exact h⟩
 |d+1,i,all,hd,hl,hb,hj=>by
  have e1:w64 (((6*i:Nat):Int)+6)=((6*(i+1):Nat):Int):=by rw[aL (by omega)];omega
  have e2:w64 (((6*i:Nat):Int)+1)=((6*i+1:Nat):Int):=by rw[aL (by omega)];omega
  have st:=λk m=>ja k m room ((6*i:Nat):Int) all W.wd W.we W.ws W.wn W.wc W.wr W.ww W.wo W.c.F W.c.R W.c.L W.c.S W.ej W.es W.c.jd W.c.jt W.c.jb W.c.jr W.c.jk W.c.B W.c.sf ((6*(i+1):Nat):Int) e1.symm ((6*i+1:Nat):Int) e2.symm
  have hx:=byt_get hb (6*i+1);have hin:inb ((6*i+1:Nat):Int) all.length=true:=aj (by omega) (by omega);by_cases h7:all.getD (6*i+1) 0%8=7
  ·have hlen:(all.set (6*i+1) 1).length=all.length:=NA;obtain⟨all',q1,q2,q3,q4⟩:=K6 W room d (i+1) (all.set (6*i+1) 1) (by omega) (by omega) (λx hx=>by
    rcases OD hx with hx|hx
    ·exact hb x hx
    ·omega) (λj hj2=>by
    by_cases hji:j=i
    ·subst hji;rw[ai _ _ _ _ (by omega)];omega
    ·rw[getD_set_ne _ _ _ (by omega)];exact hj j (by omega))
   rw[hlen]at q1 q3 q4;refine⟨all',q1,q2,q3,λR h=>Ev2.step st (Ev2.posD (by omega) (Ev2.pos hin (Ev2.posD ?_ (Ev2.pos hin ?_))))⟩
   ·rw[NQ,tm hx.1];exact h7
   ·rw[NQ];exact q4 R h
  ·obtain⟨all',q1,q2,q3,q4⟩:=K6 W room d (i+1) all (by omega) hl hb (λj hj2=>by
    by_cases hji:j=i
    ·subst hji;exact h7
    ·exact hj j (by omega))
   refine⟨all',q1,q2,q3,λR h=>Ev2.step st (Ev2.posD (by omega) (Ev2.pos hin (Ev2.negD ?_ (q4 R h))))⟩;rw[NQ,tm hx.1];exact h7
theorem MW {b:List Int}(hb:Byt b)(hl:b.length<=4000)(h7:∀j,j<b.length/6->b.getD (6*j+1) 0%8≠7):∀a∈acts b,AOj a/\(a.1=0->AE a.2.1):=by
 intro a ha;obtain⟨i,hi,rfl⟩:=N9.1 ha;have hil:=QV.1 hi;have h:=LZ (n:=(i:Int)) (by omega) (byt_get hb (6*i)) (byt_get hb (6*i+1)) (byt_get hb (6*i+2)) (byt_get hb (6*i+3)) (byt_get hb (6*i+4)) (byt_get hb (6*i+5));exact⟨h.1,λh0=>⟨(h.2 h0).1,λe=>h7 i hil ((h.2 h0).2.symm.trans e)⟩⟩
noncomputable abbrev MH (k:Nat)(b:List Int)(room:Int)(W:WC):=CF k kQ ku [inj BB b,inj (.int .u16) room,Ca W.wd,Cb W.we,Cc W.ws,Cd W.wn,Ce W.wc,Cf W.wr,Cg W.ww,Ch W.wo,Ci W.c.F,Cj W.c.R,Ck W.c.L,Cl W.c.S,Cm W.ej,Cn W.es,Co W.c.jd,Cp W.c.jt,Cq W.c.jb,Cr W.c.jr,Cs W.c.jk,Ct W.c.B,Cu W.c.sf]
set_option maxHeartbeats 2000000 in
theorem topEffect (b:List Int)(hb:Byt b)(hbl:b.length<=211106232532000)(room:Int)(hroom:0<=room/\room<=65535)(W:WC)(h:Al W)(hbf:W.c.sf.length=W.c.B.length):∃W',Ev1 (λk=>MH k b room W) (outT true W'):=by
 have hlen:=CZ b;obtain⟨W1,ha,hA1,hB1⟩:=He W h hbf;obtain⟨rho,hrho⟩:=Oj hroom.1;have hr64:w64 room=(rho:Int):=by rw[aL (by omega)];exact hrho
 obtain⟨all',q1,q2,q3,q4⟩:=K6 W1 room ((allL b).length/6) 0 (allL b) (by omega) (by omega) (C0 hb) (λj hj=>by omega);obtain⟨W2,x,j,T,n,s,said,done,hx,hG,hR,hT,hn,_⟩:=EK W1 hA1 hB1 all' q2 (by omega) rho (by omega) (A:=AE) (λ_ h=>h.1) (MW q2 (by omega) (by rw[q1];exact q3));have hi:=(hR.ok (λr hr=>CY r hr.1)).inv;have hst:Ev1 (λk=>CF k gh b5 [inj (.ref 30) (W2.we.getD W1.wd.length none),Cn W2.es]) (s,W2.es):=by rw[hG.b.we.2];exact eev hG.es.2
 obtain⟨es,he,hdr⟩:=IX hi;obtain⟨ti,te⟩:=Kk hi (Kt hR) es he;have htl:=ti.op.rt.hi;have hsum:=Ka W2 ti te (runE s es).2.2.2.1.length 0 (List.replicate (Int.toNat ((runE s es).1.length:Int)) (0:Int)) (by omega) (by rw[List.length_replicate,NQ]) (λk hk=>by
  rw[List.take_zero,NQ,NP,QP,NI hk];rfl)
 have e1:w64 (((6*((allL b).length/6):Nat):Int)+6)=((6*((allL b).length/6)+6:Nat):Int):=by rw[aL (by omega)];omega
 refine⟨W2,Ev1.step (λk=>sc k b room W.wd W.we W.ws W.wn W.wc W.wr W.ww W.wo W.c.F W.c.R W.c.L W.c.S W.ej W.es W.c.jd W.c.jt W.c.jb W.c.jr W.c.jk W.c.B W.c.sf) (Ev1.bind ha (Ev1.neg rfl (Ev1.bind (C1 b hbl) (Ev2.diag (f:=λk m=>hE0 k m room 0 (allL b) W1) (q4 _ ?_)))))⟩;refine Ev2.step (λk m=>ja k m room ((6*((allL b).length/6):Nat):Int) all' W1.wd W1.we W1.ws W1.wn W1.wc W1.wr W1.ww W1.wo W1.c.F W1.c.R W1.c.L W1.c.S W1.ej W1.es W1.c.jd W1.c.jt W1.c.jb W1.c.jr W1.c.jk W1.c.B W1.c.sf _ e1.symm _ rfl) (Ev2.negD (by omega) ?_);rw[hr64];refine Ev2.bind hx (Ev2.pos rfl (Ev2.bind hst (Ev2.bind hdr (Ev2.pos ?_ (Ev1.drop hsum.diag)))));rw[NK rfl,NK (show(0:Int)<=((runE s es).1.length:Int) by omega),NK (show((runE s es).1.length:Int)*8<=140737488355328 by omega)];rfl
end Go.Eng.Top
namespace Go.Proofs.YtbbnmhmfdbcmhaaGreatDoorW.As
open Go.RowKit Go.Extern.Stop Go.Stop Go.Extern Go.Proofs
theorem dM {w W:World}(h:Below w.heap.size w W)(o:Obj):Below w.heap.size w (W.alloc o):=h.alloc h.size o
theorem Hb {w W:World}{g j:Nat}{v:Value}(h:Below w.heap.size w W)(hg:w.heap.size<=g):Below w.heap.size w (W.setCell ⟨g,j,none⟩ v):=h.setCell hg _
def GH (w:World):Prop:=w.cell? ⟨0,0,none⟩=some (.iface 240 (.agg #[.pointer (some ⟨1,34,none⟩)]))
theorem GH.lt {w:World}(h:GH w):0<w.heap.size:=by
 unfold GH at h;rcases Nat.eq_zero_or_pos w.heap.size with h0|h1
 ·simp[World.cell?,h0]at h
 ·exact h1
theorem GH.below {B:Nat}{w w':World}(h:GH w)(hb:Below B w w')(hB:w.heap.size<=B):GH w':=by
 have hlt:=h.lt;unfold GH at *;rw[<- h];exact hb.cell (p:=⟨0,0,none⟩) (by show 0<B;omega)
theorem GH.step {w w':World}(h:GH w)(hb:Below w.heap.size w w'):GH w':=h.below hb (Nat.le_refl _)
theorem MP (t:Value)(w:World):
  Calls Tryz.prog 73 #[.nilIface,t] w λe w'=>e=.returned (.bool false)/\w'=w:=by
 go_enter Tryz.func73,Tryz.ntmps73
 go_wp2
 go_ret
 exact⟨rfl,rfl⟩
theorem Ee (t:Addr)(w:World):(ReflectliteValue.unpack (.iface 154 (.pointer (some t)))).run Tryz.prog w
  = .ok (.agg #[.pointer (some ⟨1,154,none⟩),.pointer (some ⟨w.heap.size,0,none⟩),.int .u64 150]) (w.alloc (.cells #[.pointer (some t)] 154)):=by kernel_rfl
theorem Lv (a : Addr) (w : World) : (ReflectliteValue.methodAny (ReflectliteValue.valueError "reflectlite.Value.Type" 0) (fun t _ _ _ => ReflectliteType.toType t) #[.agg #[.pointer (some ⟨1, 154, none⟩), .pointer (some a), .int .u64 150]]).run Tryz.prog w
  = .ok (.iface 240 (.agg #[.pointer (some ⟨1,154,none⟩)])) w:=by kernel_rfl
theorem zb (h : Value) (w : World) : (Go.method 437 240 (.agg #[h]) "Kind").run Tryz.prog w = .ok (206, h) w := by kernel_rfl
theorem Lx (w:World):((ReflectliteType.abiMethod λt=>(λa:Nat=>Value.int IntKind.u8 (a:Int)) <$> Rtype.kind t) #[.pointer (some ⟨1,154,none⟩)]).run Tryz.prog w=.ok (.int .u8 22) w:=by kernel_rfl
theorem Ly (w:World):((ReflectliteType.abiMethod λt=>(λa:Nat=>Value.int IntKind.u8 (a:Int)) <$> Rtype.kind t) #[.pointer (some ⟨1,46,none⟩)]).run Tryz.prog w=.ok (.int .u8 2) w:=by kernel_rfl
theorem rlm (z:Sem Value)(f:TypeId->Addr->Nat->Nat->Sem Value)(v:Value):
  ReflectliteValue.method z f #[v]=(do match <- ReflectliteValue.parts v with|none=>z|some (t,a,fl)=>f t a fl (fl%32)):=rfl
theorem Eg (a:Addr)(w:World):(ReflectliteValue.parts (.agg #[.pointer (some ⟨1,154,none⟩),.pointer (some a),.int .u64 150])).run Tryz.prog w=.ok (some (154,a,150)) w:=by kernel_rfl
theorem JV (a p:Addr)(W:World)(ha:W.cell? a=some (.pointer (some p))):
  (ReflectliteValue.method (ReflectliteValue.valueError "reflectlite.Value.IsNil" 0) ReflectliteValue.isNil #[.agg #[.pointer (some ⟨1, 154, none⟩), .pointer (some a), .int .u64 150]]).run Tryz.prog W = .ok (.bool false) W := by
 rw[rlm];simp only[Sem.run_bind,Eg,Result.andThen];simp[ReflectliteValue.isNil,loadVar,isAgg,underlying,Tryz.underlying154,ha,Result.andThen]
theorem zc (h : Value) (w : World) : (Go.method 437 240 (.agg #[h]) "Elem").run Tryz.prog w = .ok (222, .agg #[h]) w := by kernel_rfl
theorem nO (h : Value) (w : World) : (Go.method 437 240 (.agg #[h]) "Implements").run Tryz.prog w = .ok (223, .agg #[h]) w := by kernel_rfl
theorem lY (h : Value) (w : World) : (Go.method 437 240 (.agg #[h]) "AssignableTo").run Tryz.prog w = .ok (220, .agg #[h]) w := by kernel_rfl
theorem Lz (w:World):(ReflectliteType.method ReflectliteType.elem #[.agg #[.pointer (some ⟨1,154,none⟩)]]).run Tryz.prog w=.ok (.iface 240 (.agg #[.pointer (some ⟨1,46,none⟩)])) w:=by kernel_rfl
theorem wS (w : World) : (ReflectliteType.relation "Implements" ReflectliteType.implements_ #[.agg #[.pointer (some ⟨1, 46, none⟩)], .iface 240 (.agg #[.pointer (some ⟨1, 34, none⟩)])]).run Tryz.prog w = .ok (.bool true) w := by kernel_rfl
theorem Hk (v:Value)(w:World):(ReflectliteType.typeOf #[.iface 46 v]).run Tryz.prog w=.ok (.iface 240 (.agg #[.pointer (some ⟨1,46,none⟩)])) w:=by kernel_rfl
theorem wT (w : World) : (ReflectliteType.relation "AssignableTo" ReflectliteType.assignableTo #[.agg #[.pointer (some ⟨1, 46, none⟩)], .iface 240 (.agg #[.pointer (some ⟨1, 46, none⟩)])]).run Tryz.prog w = .ok (.bool true) w := by kernel_rfl
theorem Ef (c:Int)(w:World):(ReflectliteValue.unpack (.iface 46 (.int .i64 c))).run Tryz.prog w
  = .ok (.agg #[.pointer (some ⟨1,46,none⟩),.pointer (some ⟨w.heap.size,0,none⟩),.int .u64 130]) (w.alloc (.cells #[.int .i64 c] 46)):=by kernel_rfl
theorem Hm (w:World):(Rtype.elem? 154).run Tryz.prog w=.ok (some 46) w:=by kernel_rfl
theorem xmkE (p:Addr)(w:World):(ReflectliteValue.mk 46 p ReflectliteValue.flagAddr).run Tryz.prog w=.ok (.agg #[.pointer (some ⟨1,46,none⟩),.pointer (some p),.int .u64 386]) w:=by kernel_rfl
theorem JW (a p:Addr)(W:World)(ha:W.cell? a=some (.pointer (some p))):
  (ReflectliteValue.method (ReflectliteValue.valueError "reflectlite.Value.Elem" 0) ReflectliteValue.elem #[.agg #[.pointer (some ⟨1, 154, none⟩), .pointer (some a), .int .u64 150]]).run Tryz.prog W
   = .ok (.agg #[.pointer (some ⟨1,46,none⟩),.pointer (some p),.int .u64 386]) W:=by
 rw[rlm];simp only[Sem.run_bind,Eg,Result.andThen];simp[ReflectliteValue.elem,loadVar,isAgg,underlying,Tryz.underlying154,ha,Result.andThen,Hm,xmkE]
theorem rls (v x:Value):ReflectliteValue.set #[v,x]=(do
  let (some (dst,a,fl),some (src,b,_)):=(<- ReflectliteValue.parts v,<- ReflectliteValue.parts x)
   | unsupported (.noEntry "extern/(internal/reflectlite.Value).Set.zeroValue")
  if fl / ReflectliteValue.flagAddr % 2 == 0 then unsupported (.noEntry "extern/(internal/reflectlite.Value).Set.unaddressable")
  let val <- loadVar src b
  if <- Rtype.directlyAssignable dst src then storeVar dst a val
  else if <- Rtype.implements dst src then
   if(<- Rtype.kind src)==20 then
    match val with
    | .nilIface => unsupported (.noEntry "extern/reflectlite: a nil value of one interface type handed on as a value of another")
    |_=>storeVar dst a val
   else storeVar dst a (.iface src val)
  else panicString ("reflectlite.Set: value of type " ++ (<- Rtype.spelt src) ++ " is not assignable to type " ++ (<- Rtype.spelt dst))
  pure (.tuple #[])):=rfl
theorem Hl (a:Addr)(w:World):(ReflectliteValue.parts (.agg #[.pointer (some ⟨1,46,none⟩),.pointer (some a),.int .u64 386])).run Tryz.prog w=.ok (some (46,a,386)) w:=by kernel_rfl
theorem JT (a:Addr)(w:World):(ReflectliteValue.parts (.agg #[.pointer (some ⟨1,46,none⟩),.pointer (some a),.int .u64 130])).run Tryz.prog w=.ok (some (46,a,130)) w:=by kernel_rfl
theorem Hn (w:World):(Rtype.directlyAssignable 46 46).run Tryz.prog w=.ok true w:=by kernel_rfl
theorem M5 (ta b:Addr)(c:Int)(old:Value)(W:World)(hb:W.cell? b=some (.int .i64 c))(ht:W.cell? ta=some old)(hf:W.frozen? ta=false):
  (ReflectliteValue.set #[.agg #[.pointer (some ⟨1,46,none⟩),.pointer (some ta),.int .u64 386],.agg #[.pointer (some ⟨1,46,none⟩),.pointer (some b),.int .u64 130]]).run Tryz.prog W
   = .ok (.tuple #[]) (W.setCell ta (.int .i64 c)):=by
 rw[rls];simp only[Sem.run_bind,Hl,JT,Result.andThen];simp[ReflectliteValue.flagAddr,loadVar,isAgg,underlying,Tryz.underlying46,hb,Result.andThen,Hn,storeVar,Value.cells,storeCells,Addr.add];rw[run_store Tryz.prog W ta _ _ (by rfl)];simp[ht,hf]
def oT (w:World)(t:Addr)(c:Int):World:=((((w.alloc (.cells #[.pointer (some t)] 154)).alloc (.cells #[.pointer (some ⟨1,154,none⟩),.pointer (some ⟨w.heap.size,0,none⟩),.int .u64 150] 195)).alloc (.cells #[.pointer (some ⟨1,154,none⟩),.pointer (some ⟨w.heap.size,0,none⟩),.int .u64 150] 195)).alloc (.cells #[.int .i64 c] 46)).setCell t (.int .i64 c)
set_option maxHeartbeats 4000000 in
theorem MQ (c:Int)(t:Addr)(old:Value)(w:World)(hg:GH w)(ht0:w.cell? t=some old)(hf0:w.frozen? t=false):
  Calls Tryz.prog 73 #[.iface 46 (.int .i64 c),.iface 154 (.pointer (some t))] w λev w'=>ev=.returned (.bool true)/\w'=oT w t c:=by
 unfold GH at hg;unfold oT;have h6:=@run_callFunc_extern Tryz.prog 106 _ (fun args=>ReflectliteValue.unpack (args.getD 0 (.tuple #[]))) Tryz.func106 (by kernel_rfl) (by kernel_rfl) (by kernel_rfl) (by kernel_rfl);have h7 := @run_callFunc_extern Tryz.prog 107 _ (ReflectliteValue.methodAny (ReflectliteValue.valueError "reflectlite.Value.Type" 0) (fun t _ _ _ => ReflectliteType.toType t)) Tryz.func107 (by kernel_rfl) (by kernel_rfl) (by kernel_rfl) (by kernel_rfl)
 have h8 := @run_callFunc_extern Tryz.prog 108 _ (ReflectliteValue.method (ReflectliteValue.valueError "reflectlite.Value.IsNil" 0) ReflectliteValue.isNil) Tryz.func108 (by kernel_rfl) (by kernel_rfl) (by kernel_rfl) (by kernel_rfl)
 have h27:=@run_callFunc_extern Tryz.prog 206 _ (ReflectliteType.abiMethod fun t=>do pure (.int .u8 (<- Rtype.kind t))) Tryz.func206 (by kernel_rfl) (by kernel_rfl) (by kernel_rfl) (by kernel_rfl);have h37:=@run_callFunc_extern Tryz.prog 222 _ (ReflectliteType.method ReflectliteType.elem) Tryz.func222 (by kernel_rfl) (by kernel_rfl) (by kernel_rfl) (by kernel_rfl);have h38 := @run_callFunc_extern Tryz.prog 223 _ (ReflectliteType.relation "Implements" ReflectliteType.implements_) Tryz.func223 (by kernel_rfl) (by kernel_rfl) (by kernel_rfl) (by kernel_rfl)
 have h10:=@run_callFunc_extern Tryz.prog 141 _ ReflectliteType.typeOf Tryz.func141 (by kernel_rfl) (by kernel_rfl) (by kernel_rfl) (by kernel_rfl);have h35 := @run_callFunc_extern Tryz.prog 220 _ (ReflectliteType.relation "AssignableTo" ReflectliteType.assignableTo) Tryz.func220 (by kernel_rfl) (by kernel_rfl) (by kernel_rfl) (by kernel_rfl)
 have h11 := @run_callFunc_extern Tryz.prog 142 _ (ReflectliteValue.method (ReflectliteValue.valueError "reflectlite.Value.Elem" 0) ReflectliteValue.elem) Tryz.func142 (by kernel_rfl) (by kernel_rfl) (by kernel_rfl) (by kernel_rfl)
 have h12:=@run_callFunc_extern Tryz.prog 143 _ ReflectliteValue.set Tryz.func143 (by kernel_rfl) (by kernel_rfl) (by kernel_rfl) (by kernel_rfl);have tO:=Hk;have mA:=lY;have a25:=wT;have v25:=Ef;have f6:=Ee;have f7:=Lv;have mK:=zb;have mE:=zc;have mI:=nO;have k27:=Lx;have k25:=Ly;have e27:=Lz;have i25:=wS;have n8:=JV ⟨w.heap.size,0,none⟩ t ((w.alloc (.cells #[.pointer (some t)] 154)).alloc (.cells #[.pointer (some ⟨1,154,none⟩),.pointer (some ⟨w.heap.size,0,none⟩),.int .u64 150] 195)) (by simp);have hlt:0<w.heap.size:=by
  rcases Nat.eq_zero_or_pos w.heap.size with h0|h
  ·simp[World.cell?,h0]at hg
  ·exact h
 have hg2:((w.alloc (.cells #[.pointer (some t)] 154)).alloc (.cells #[.pointer (some ⟨1,154,none⟩),.pointer (some ⟨w.heap.size,0,none⟩),.int .u64 150] 195)).cell? ⟨0,0,none⟩=some (.iface 240 (.agg #[.pointer (some ⟨1,34,none⟩)])):=by
  rw[World.cell?_alloc_lt _ _ ⟨0,0,none⟩ (by simp),World.cell?_alloc_lt _ _ ⟨0,0,none⟩ hlt];exact hg
 have htl:t.block<w.heap.size:=by
  rcases Nat.lt_or_ge t.block w.heap.size with h|h
  ·exact h
  ·simp[World.cell?,Array.getElem?_eq_none h]at ht0
 have el:=JW ⟨w.heap.size,0,none⟩ t (((w.alloc (.cells #[.pointer (some t)] 154)).alloc (.cells #[.pointer (some ⟨1,154,none⟩),.pointer (some ⟨w.heap.size,0,none⟩),.int .u64 150] 195)).alloc (.cells #[.pointer (some ⟨1,154,none⟩),.pointer (some ⟨w.heap.size,0,none⟩),.int .u64 150] 195)) (by rw[World.cell?_alloc_lt _ _ ⟨w.heap.size,0,none⟩ (by simp;omega)];simp);have st:=M5 t ⟨w.heap.size+1+1+1,0,none⟩ c old ((((w.alloc (.cells #[.pointer (some t)] 154)).alloc (.cells #[.pointer (some ⟨1,154,none⟩),.pointer (some ⟨w.heap.size,0,none⟩),.int .u64 150] 195)).alloc (.cells #[.pointer (some ⟨1,154,none⟩),.pointer (some ⟨w.heap.size,0,none⟩),.int .u64 150] 195)).alloc (.cells #[.int .i64 c] 46))
  (by rw[World.cell?_alloc_at _ _ _ _ (by simp)];rfl)
  (by rw[World.cell?_alloc_lt _ _ t (by simp;omega),World.cell?_alloc_lt _ _ t (by simp;omega),World.cell?_alloc_lt _ _ t (by simp;omega),World.cell?_alloc_lt _ _ t htl];exact ht0)
  (by rw[World.frozen?_alloc_old _ _ t (by simp;omega),World.frozen?_alloc_old _ _ t (by simp;omega),World.frozen?_alloc_old _ _ t (by simp;omega),World.frozen?_alloc_old _ _ t (Nat.ne_of_lt htl)];exact hf0)
 go_enter Tryz.func73,Tryz.ntmps73
 go_wp2
 refine wp_loop_rounds 1 ?_;rw[rounds_succ]
 go_wp2
 go_ret
 exact⟨rfl,rfl⟩
theorem number_nil (w:World):Calls Tryz.prog 36 #[.nilIface] w λe w'=>e=.returned (.int .i64 0)/\Below w.heap.size w w':=by
 go_enter Tryz.func36,Tryz.ntmps36
 go_wp2_with (go_at_call 73;refine(MP _ _).mono ?_;rintro e w' ⟨rfl,rfl⟩)
 go_ret
 exact⟨rfl,dM (Below.refl _ _) _⟩
theorem number_some (c:Int)(w:World)(hg:GH w):Calls Tryz.prog 36 #[.iface 46 (.int .i64 c)] w λe w'=>e=.returned (.int .i64 c)/\Below w.heap.size w w':=by
 have hg1:GH (w.alloc (.cells #[.int .i64 0] 46)):=hg.step (dM (Below.refl _ _) _);have hb:Below w.heap.size w (oT (w.alloc (.cells #[.int .i64 0] 46)) ⟨w.heap.size,0,none⟩ c):=by
  unfold oT;refine Hb ?_ (Nat.le_refl _);exact dM (dM (dM (dM (dM (Below.refl _ _) _) _) _) _) _
 have hc:(oT (w.alloc (.cells #[.int .i64 0] 46)) ⟨w.heap.size,0,none⟩ c).cell? ⟨w.heap.size,0,none⟩=some (.int .i64 c):=by
  unfold oT;exact World.cell?_setCell_same _ _ _ (u:=.int .i64 0) (by
   rw[World.cell?_alloc_lt _ _ _ (by simp;omega),World.cell?_alloc_lt _ _ _ (by simp;omega),World.cell?_alloc_lt _ _ _ (by simp;omega),World.cell?_alloc_lt _ _ _ (by simp),World.cell?_alloc_at _ _ _ _ (by simp)];rfl)
 go_enter Tryz.func36,Tryz.ntmps36
 go_wp2_with (go_at_call 73;refine(MQ c ⟨w.heap.size,0,none⟩ (.int .i64 0) _ hg1 (by simp) (by simp)).mono ?_;rintro e w' ⟨rfl,rfl⟩)
 go_ret
 exact⟨rfl,hb⟩
end Go.Proofs.YtbbnmhmfdbcmhaaGreatDoorW.As
namespace Go.Proofs.YtbbnmhmfdbcmhaaGreatDoorW.Laid
open Go.ChangeShapes Go.WideShapes Go.RowKit Go.Proofs.YtbbnmhmfdbcmhaaGreatDoor Go.Proofs.YtbbnmhmfdbcmhaaGreatDoorW
theorem et0 : Tryz.prog.globalNamed "errors.errorType" = some 0 := by kernel_rfl
theorem rt0 : (Tryz.prog.cutTypes.find? (·.1 == "internal/reflectlite.rtype")).map (·.2) = some 240 := by kernel_rfl
theorem L4:((List.range 337).filter λt=>Tryz.prog.rowNamed t [101,114,114,111,114])=[34]:=by kernel_rfl
theorem size:Tryz.prog.types.size=337:=by kernel_rfl
theorem handle_of_laid {W : World} (h : laidMetH Tryz.prog [("errors.errorType", Rows.laid_errors_errorType)] W) : As.GH W := by
 have h' : laidMet Tryz.prog [] W /\ handlesMet Tryz.prog [("errors.errorType", Rows.laid_errors_errorType)] W := h
 obtain⟨name,u,ty,e1,e2,e3,e4,e5⟩:=h'.2 _ (List.mem_singleton.2 rfl);have en:name=[101,114,114,111,114]:=(Option.some.inj e1).symm;subst en;obtain rfl:=Option.some.inj (rt0.symm.trans e2);have hm:ty∈(List.range 337).filter λt=>Tryz.prog.rowNamed t [101,114,114,111,114]:=List.mem_filter.2 ⟨List.mem_range.2 (by rw[<- size];exact e3),e4⟩
 rw[L4]at hm;obtain rfl:=List.mem_singleton.1 hm;have hh:typeHandle Tryz.prog 34=.pointer (some ⟨1,34,none⟩):=by kernel_rfl
 rw[hh]at e5;unfold As.GH;simpa using World.var?_cell et0 e5 0
noncomputable def laidWorld (os:Os):World:=
 let w0:=World.holding Tryz.prog os ⟨#[],#[],[]⟩
 { w0 with heap:=w0.heap.modify 0 fun
   |.cells _ t frozen=>.cells #[.iface 240 (.agg #[.pointer (some ⟨1,34,none⟩)])] t frozen
   |o=>o }
theorem laidWorld_met (os : Os) (args : Array Value) : laidMetH Tryz.prog [("errors.errorType", Rows.laid_errors_errorType)] ((laidWorld os).forCall (fun _ _ => 0) ⟨#[], args, []⟩).memory :=
 laidMetH_of_parts (laidMet_nil _ _) (by kernel_rfl)
end Go.Proofs.YtbbnmhmfdbcmhaaGreatDoorW.Laid
