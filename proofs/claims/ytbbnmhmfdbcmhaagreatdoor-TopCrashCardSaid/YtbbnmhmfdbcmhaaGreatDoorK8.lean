/- Definitions and lemmas for the law TopCrash: what the program's functions come to. Conditions: as each lemma says. -/
import Derived.Test.YtbbnmhmfdbcmhaaGreatDoorK7
import Derived.Test.YtbbnmhmfdbcmhaaGreatDoorK6
import Derived.Test.YtbbnmhmfdbcmhaaGreatDoorK4
import Derived.Test.YtbbnmhmfdbcmhaaGreatDoorProg
import Derived.StillTailTactics
import Derived.Below
import Derived.WalkKit
import Derived.LaidEql
import Derived.Stop.Asserts
import Derived.RowKitTokens
import Derived.Test.YtbbnmhmfdbcmhaaGreatDoorRows
import Derived.ChangeSame
import Derived.ChangeVars
import Derived.JoinedOf
import Derived.RowKit
import Derived.LaidLaws
import Derived.LaidHandle
import Derived.Stop.Joined
set_option linter.all false
set_option linter.unusedVariables false
set_option linter.unusedSimpArgs false
set_option linter.deprecated false
namespace Go.Eng.Top
open Go.RowKit Go.Eng Go.Eng.LVar Go.Eng.LCrc Go.Eng.LFrm
set_option maxRecDepth 100000
theorem EA {x:Nat}{l:List Nat}(h:nodN (x::l)=true):x ∉ l/\nodN l=true:=by
 have h:(!l.contains x&&nodN l)=true:=h;rw[M0]at h;refine⟨λhx=>?_,h.2⟩;have h1:=h.1;rw[show l.contains x=true from N1.2 hx]at h1;cases h1
theorem mi {x:Int}{l:List Int}(h:nodI (x::l)=true):x ∉ l/\nodI l=true:=by
 have h:(!l.contains x&&nodI l)=true:=h;rw[M0]at h;refine⟨λhx=>?_,h.2⟩;have h1:=h.1;rw[show l.contains x=true from N1.2 hx]at h1;cases h1
theorem sZ:∀{l:List Int},nodI l=true->l.Nodup
 |[],_=>Pq
 |x::l,h=>OE.2 ⟨(mi h).1,sZ (mi h).2⟩
theorem AS (keep:Int):∀(M:MF)(B:List (List Int))(sf:List Int),sf.length=B.length->nodN (M.map λe=>e.2.getD 0)=true ->
  (∀e∈M,∃g,e.2=some g/\g<B.length/\(B.getD g []).length<=1000000/\0<=sf.getD g 0/\sf.getD g 0<=((B.getD g []).length:Int)) ->
  ∃B' sf',za keep M B sf=some (B',sf')/\B'.length=B.length/\sf'.length=sf.length /\
   (∀e∈M,∀g,e.2=some g->∃q:Nat,sf.getD g 0<=(q:Int)/\q<=(B.getD g []).length/\B'.getD g []=(B.getD g []).take q/\sf'.getD g 0=(q:Int)) /\
   (∀g,(∀e∈M,e.2≠some g)->B'.getD g []=B.getD g []/\sf'.getD g 0=sf.getD g 0)
 |[],B,sf,_,_,_=>⟨B,sf,rfl,rfl,rfl,λe he=>(by cases he),λ_ _=>⟨rfl,rfl⟩⟩
 |e::M,B,sf,hl,hn,h=>by
  obtain⟨g,eg,h1,h2,h3,h4⟩:=h e (NI ..);obtain⟨s,hs⟩:=ND h3;obtain⟨n1,n2⟩:=EA hn;have hne:∀x∈M,x.2≠some g:=λx hx e2=>n1 (Nt.2 ⟨x,hx,by dsimp only;rw[e2,eg]⟩)
  obtain⟨q,k1,k2,k3,_⟩:=Go.Proofs.Due.keptN_eq keep (B.getD g []).length s (by omega) (by omega);have ek:lO keep ((B.getD g []).length:Int) (sf.getD g 0)=(q:Int):=by rw[hs];exact k1
  obtain⟨B',sf',r1,r2,r3,r4,r5⟩:=AS keep M (B.set g ((B.getD g []).take q)) (sf.set g (q:Int)) (by rw[MQ,MQ];exact hl) n2 (λx hx=>by
   obtain⟨g2,e2,p1,p2,p3,p4⟩:=h x (Nf _ hx);have hne2:g≠g2:=λe3=>hne x hx (by rw[e3];exact e2)
   refine⟨g2,e2,by rw[MQ];exact p1,?_⟩;rw[getD_set_ne _ _ _ hne2,getD_set_ne _ _ _ hne2];exact⟨p2,p3,p4⟩)
  refine⟨B',sf',?_,by rw[r2,MQ],by rw[r3,MQ],λx hx g2 e2=>?_,λg2 h5=>?_⟩
  ·unfold za;rw[eg];simp only[];rw[ek,Na];have c:(Nat.blt g B.length&&(Nat.blt g sf.length&&(Nat.ble (B.getD g []).length 1000000&&(decide (0<=sf.getD g 0)&&decide (sf.getD g 0<=((B.getD g []).length:Int))))))=true:=by
    rw[show Nat.blt g B.length=true from NG h1,show Nat.blt g sf.length=true from NG (by omega),NG h2,MY h3,MY h4];rfl
   rw[c,MU];exact r1
  ·rcases M5.1 hx with hx|hx
   ·rw[hx,eg]at e2;cases e2;obtain⟨r6,r7⟩:=r5 g hne;refine⟨q,by rw[hs];omega,k3,?_,?_⟩
    ·rw[r6,ai _ _ _ _ h1]
    ·rw[r7,ai _ _ _ _ (by omega)]
   ·have hne2:g≠g2:=λe3=>hne x hx (by rw[e3];exact e2)
    obtain⟨q2,p1,p2,p3,p4⟩:=r4 x hx g2 e2;rw[getD_set_ne _ _ _ hne2]at p1 p2 p3;exact⟨q2,p1,p2,p3,p4⟩
  ·have hne2:g≠g2:=λe3=>h5 e (NI ..) (by rw[eg,e3])
   obtain⟨r6,r7⟩:=r5 g2 (λx hx=>h5 x (Nf _ hx));rw[getD_set_ne _ _ _ hne2]at r6 r7;exact⟨r6,r7⟩
structure RS (c:DC)(d rho t:Nat)(bs:List Int)(rs:List (List Int))(p:List Int):Prop where
 hd:d<c.F.length
 hR:c.R.getD d 0=(rho:Int)
 rhl:rho<=262144
 hL:d<c.L.length
 left:c.L.getD d 0=-1
 hS:d<c.S.length
 live:c.S.getD d false=false
 bsf:c.sf.length=c.B.length
 nk:nodI ((c.F.getD d []).map (·.1))=true
 l3:(c.F.getD d []).length<=3
 all:∀e∈c.F.getD d [],∃g,e.2=some g/\g<c.B.length/\(c.B.getD g []).length<=1000000
 sum:sumL c.B (c.F.getD d [])<=rho
 files:∃b r,(c.F.getD d []).filter (fZ t)=Mof t b r/\(b=none ↔ t=0)/\(∀g,b=some g->g<c.B.length/\c.B.getD g []=fr (encs [(t:Int)]++bs)/\c.sf.getD g 0=((c.B.getD g []).length:Int)) /\
  (t≠0->(encs [(t:Int)]++bs).length<=16384/\Byt bs)/\(∀h,r=some h->h<c.B.length/\c.B.getD h []=frs rs++p/\c.sf.getD h 0=((frs rs++p).length:Int))/\(r=none->rs=[]/\p=[])/\(∀g h,b=some g->r=some h->g≠h)
 rcs:∀x∈rs,Byt x/\x.length<=80
 pok:torn p
 tb:t<=1000001
theorem yS {B B':List (List Int)}:∀(M:MF),(∀e∈M,(B'.getD (e.2.getD 0) []).length<=(B.getD (e.2.getD 0) []).length)->sumL B' M<=sumL B M
 |[],_=>MW _
 |e::M,h=>by
  have h1:=h e (NI ..);have h2:=yS M λx hx=>h x (Nf _ hx)
  unfold sumL;omega
theorem zi {t:Nat}{b r:Option Nat}:(∀g,b=some g->∃e∈Mof t b r,e.2=some g)/\(∀g,r=some g->∃e∈Mof t b r,e.2=some g):=by
 cases b<;>cases r<;>refine⟨λg hg=>?_,λg hg=>?_⟩<;>cases hg<;>simp[Mof]
theorem D8 {c:DC}{d rho t:Nat}{bs:List Int}{rs:List (List Int)}{p:List Int}(h:DSt c d rho t bs rs p)(keep:Int):
  ∃B' sf' rs' p',Ev1 (λk=>CF k ky gO [inj (.ref 29) (some d),inj (.int .i64) keep,Ci c.F,Ck c.L,Cl c.S,Ct c.B,Cu c.sf]) (c.F,c.L.set d (-1),c.S.set d false,B',sf') /\
   (rs'=rs\/∃e,p=fr e/\rs'=rs++[e])/\∀jd jt jb jr jk,RS ⟨c.F,c.R,c.L.set d (-1),c.S.set d false,jd,jt,jb,jr,jk,B',sf'⟩ d rho t bs rs' p':=by
 obtain⟨B',sf',r1,r2,r3,r4,_⟩:=AS keep (c.F.getD d []) c.B c.sf h.bsf h.ni h.all;have hev:Ev1 (λk=>CF k ky gO [inj (.ref 29) (some d),inj (.int .i64) keep,Ci c.F,Ck c.L,Cl c.S,Ct c.B,Cu c.sf]) (c.F,c.L.set d (-1),c.S.set d false,B',sf'):=by
  refine Ev1.step (λk=>(rfl:CF (k+1) ky gO [inj (.ref 29) (some d),inj (.int .i64) keep,Ci c.F,Ck c.L,Cl c.S,Ct c.B,Cu c.sf]=D9 (some d) keep c.F c.L c.S c.B c.sf)) (Ev1.const ?_);show(bif nodN ((c.F.getD d []).map (λe=>e.2.getD 0))&&Nat.blt d c.S.length&&Nat.blt d c.L.length then(match za keep (c.F.getD d []) c.B c.sf with
   |some p=>some (c.F,c.L.set d (-1),c.S.set d false,p.1,p.2)
   |none=>none)else none)=_
  rw[h.ni,show Nat.blt d c.S.length=true from NG h.hS,show Nat.blt d c.L.length=true from NG h.hL,r1];rfl
 obtain⟨b,r,hF,hf⟩:=h.files;have hmem:∀e,e∈Mof t b r->e∈c.F.getD d []:=λe he=>by rw[<- hF]at he;exact(OV.1 he).1
 have hb:∀g,b=some g->g<B'.length/\B'.getD g []=fr (encs [(t:Int)]++bs)/\sf'.getD g 0=((B'.getD g []).length:Int):=λg hg=>by
  obtain⟨e,he,e2⟩:=zi (t:=t) (r:=r) |>.1 g hg;obtain⟨q1,q2,q3⟩:=hf.bok g hg;obtain⟨q,p1,p2,p3,p4⟩:=r4 e (hmem e he) g e2;have:q=(c.B.getD g []).length:=by omega
  rw[this,Pw]at p3;rw[p3,q2,p4,this,q2,r2];exact⟨q1,rfl,rfl⟩
 have hall:∀e∈c.F.getD d [],∃g,e.2=some g/\g<B'.length/\(B'.getD g []).length<=1000000:=λe he=>by
  obtain⟨g,e2,q1,q2,_⟩:=h.all e he;obtain⟨q,p1,p2,p3,p4⟩:=r4 e he g e2;refine⟨g,e2,by omega,?_⟩;rw[p3,NR];omega
 have hsum:sumL B' (c.F.getD d [])<=rho:=Ns (yS _ λe he=>by
  obtain⟨g,e2,q1,q2,_⟩:=h.all e he;obtain⟨q,p1,p2,p3,p4⟩:=r4 e he g e2;rw[e2];simp only[M4];rw[p3,NR];omega) h.sum
 have mk:∀(rs':List (List Int)) (p':List Int),(∀h0,r=some h0->B'.getD h0 []=frs rs'++p'/\sf'.getD h0 0=((frs rs'++p').length:Int))->(r=none->rs'=[]/\p'=[])->(∀x∈rs',Byt x/\x.length<=80)->torn p' ->
   ∀jd jt jb jr jk,RS ⟨c.F,c.R,c.L.set d (-1),c.S.set d false,jd,jt,jb,jr,jk,B',sf'⟩ d rho t bs rs' p':=λrs' p' k1 k2 k3 k4 jd jt jb jr jk=>
  ⟨h.hd,h.hR,h.rhl,by dsimp only;rw[MQ];exact h.hL,ai _ _ _ _ h.hL,by dsimp only;rw[MQ];exact h.hS,ai _ _ _ _ h.hS,by dsimp only;rw[r2,r3];exact h.bsf,h.nk,h.l3,hall,hsum,
   ⟨b,r,hF,hf.bz,hb,hf.bl,λh0 hh=>⟨by dsimp only;rw[r2];exact(hf.rok h0 hh).1,k1 h0 hh⟩,k2,hf.ne⟩,k3,k4,h.tb⟩
 cases hr:r with
 |none=>
  obtain⟨z1,z2⟩:=hf.rz hr;exact⟨B',sf',rs,[],hev,.inl rfl,mk rs [] (λh0 hh=>by rw[hr]at hh;cases hh) (λ_=>⟨z1,rfl⟩) h.rcs pc⟩
 |some g=>
  obtain⟨e,he,e2⟩:=zi (t:=t) (b:=b) |>.2 g hr;obtain⟨q1,q2,q3⟩:=hf.rok g hr;obtain⟨q,p1,p2,p3,p4⟩:=r4 e (hmem e he) g e2;rw[q2]at p2 p3;rw[q3]at p1;have et:(frs rs++p).take q=frs rs++p.take (q-(frs rs).length):=by
   rw[List.take_append,Ou (by omega)]
  rw[et]at p3;rw[MN]at p2;have el:((frs rs++p.take (q-(frs rs).length)).length:Int)=(q:Int):=by rw[MN,NR];omega
  have fin:∀rs' p',frs rs++p.take (q-(frs rs).length)=frs rs'++p'->(∀h0,r=some h0->B'.getD h0 []=frs rs'++p'/\sf'.getD h0 0=((frs rs'++p').length:Int)):=λrs' p' e0 h0 hh=>by
   rw[hr]at hh;cases hh;rw[<- e0,p3,p4,el];exact⟨rfl,rfl⟩
  have nn:∀(rs':List (List Int)) (p':List Int),r=none->rs'=[]/\p'=[]:=λ_ _ hh=>by rw[hr]at hh;cases hh
  rcases h.pok with hp|⟨e0,hp,hb1,hb2⟩
  ·exact⟨B',sf',rs,[],hev,.inl rfl,mk rs [] (fin rs [] (by rw[hp];simp)) (nn _ _) h.rcs pc⟩
  ·have hfl:=iN e0;by_cases hq:(fr e0).length<=q-(frs rs).length
   ·refine⟨B',sf',rs++[e0],[],hev,.inr ⟨e0,hp,rfl⟩,mk _ [] (fin (rs++[e0]) [] ?_) (nn _ _) (λx hx=>?_) pc⟩
    ·rw[hp,Ou hq,pz,NJ]
    ·rcases Nb.1 hx with hx|hx
     ·exact h.rcs x hx
     ·rw[Nq.1 hx];exact⟨hb1,hb2⟩
   ·exact⟨B',sf',rs,(fr e0).take (q-(frs rs).length),hev,.inl rfl,mk rs _ (fin rs _ (by rw[hp])) (nn _ _) h.rcs (GU hb1 (by omega) _ (by omega))⟩
theorem mC:∀(M:MF)(n:Int),nodI (M.map (·.1))=true->ct M n=M.filter λe=>!decide (e.1=n)
 |[],_,_=>rfl
 |e::r,n,h=>by
  obtain⟨h1,h2⟩:=mi h;unfold ct;by_cases he:e.1=n
  ·rw[MY he,MU,Ol,MY he];symm;refine PL.2 λx hx=>?_
   rw[MT];· rfl
   intro hx2;exact h1 (Nt.2 ⟨x,hx,hx2.trans he.symm⟩)
  ·rw[MT he,M7,Ol,MT he,mC r n h2];rfl
theorem nI:∀(M:MF)(n:Int),(∀e∈M,∃g,e.2=some g)->n∈M.map (·.1)->∃g,aM none M n=some g/\(n,some g)∈M
 |[],n,_,h=>by cases h
 |e::r,n,ha,h=>by
  obtain⟨g,hg⟩:=ha e (NI ..);by_cases he:e.1=n
  ·refine⟨g,by unfold aM;rw[MY he,MU,hg],?_⟩;rw[<- he,<- hg];exact NI ..
  ·rcases M5.1 (show n∈e.1::r.map (·.1) from h)with h|h
   ·exact(he h.symm).elim
   ·obtain⟨g2,h1,h2⟩:=nI r n (λx hx=>ha x (Nf _ hx)) h;exact⟨g2,by unfold aM;rw[MT he,M7];exact h1,Nf _ h2⟩
theorem qd (f:Int×Option Nat->Bool):∀(M:MF),nodI (M.map (·.1))=true->nodI ((M.filter f).map (·.1))=true
 |[],_=>rfl
 |e::r,h=>by
  obtain⟨h1,h2⟩:=mi h;have ih:=qd f r h2;rw[Ol];split
  ·show(!((r.filter f).map (·.1)).contains e.1&&nodI ((r.filter f).map (·.1)))=true;rw[ih,Oi];cases hc:((r.filter f).map (·.1)).contains e.1 with
   |false=>rfl
   |true=>
    obtain⟨x,hx,hx2⟩:=Nt.1 (N1.1 hc);exact(h1 (Nt.2 ⟨x,(OV.1 hx).1,hx2⟩)).elim
  ·exact ih
theorem K8 {F:List MF}{L:List Int}{S:List Bool}{d:Nat}(hd:d<F.length)(hl:L.getD d 0=-1)(hs:S.getD d false=false){M:MF}(hM:F.getD d []=M){name:Int}{g:Nat}(hg:aM none M name=some g):
  Ev1 (λk=>CF k gm cR [inj (.ref 29) (some d),inj (.int .i64) name,Ci F,Ck L,Cl S]) (none,F.set d (ct M name),L,S):=
 Ed (R:=List.replicate d 0++[262144]) ⟨hd,by rw[show d=(List.replicate d (0:Int)).length by simp];simpa using bj (List.replicate d (0:Int)) 262144 0,hl,hs⟩ hM hg
section
variable {L:List Int} {S:List Bool} {d j t:Nat} {jd:List (Option Nat)} {jt:List Int} {jb:List (List Int)} {jr:List (List (List Int))} {jk:List Bool} {B:List (List Int)} {sf:List Int} {M:MF} {N:List Int}
noncomputable abbrev hOp3 (k m d j:Nat)(N:List Int)(i:Int)(F:List MF)(L:List Int)(S:List Bool)(jd:List (Option Nat))(jt:List Int)(jb:List (List Int))(jr:List (List (List Int)))(jk:List Bool)(B:List (List Int))(sf:List Int):=tx k m (some d) j N (N.length:Int) i F L S jd jt jb jr jk B sf
theorem zf (hN:N.Nodup)(hNl:N.length<=3)(hM:nodI (M.map (·.1))=true)(hMa:∀e∈M,∃g,e.2=some g)(hNM:∀n∈N,n∈M.map (·.1))(hl:L.getD d 0=-1)(hs:S.getD d false=false)(hjt:jt.getD j 0=(t:Int))(ht:t<=1000001):∀(dd i:Nat)(F:List MF),i+dd=N.length->d<F.length->F.getD d []=M.filter (λe=>fZ t e || (N.drop i).contains e.1) ->
  ∃F',F'.length=F.length/\F'.getD d []=M.filter (fZ t)/\∀R,Ev2 (λk m=>hOp3 k m d j N (N.length:Int) F' L S jd jt jb jr jk B sf) R->Ev2 (λk m=>hOp3 k m d j N (i:Int) F L S jd jt jb jr jk B sf) R
 |0,i,F,hi,hd,hF=>by
  refine⟨F,rfl,?_,λR h=>by rw[show i=N.length by omega];exact h⟩;rw[hF,NB (by omega)];simp
 |dd+1,i,F,hi,hd,hF=>by
  have hlt:i<N.length:=by omega
  have he:N.getD (Int.toNat (i:Int)) 0=N[i]:=by rw[Na];exact ba N i _ hlt
  have hdr:N.drop i=N[i]::N.drop (i+1):=Nr hlt;have hnin:N[i] ∉ N.drop (i+1):=by
   have:(N.drop i).Nodup:=hN.sublist (List.drop_sublist _ _);rw[hdr]at this;exact(OE.1 this).1
  have e3:w64 (2+jt.getD j 0)=((2+t:Nat):Int):=by rw[hjt,bM (by omega) (by omega)];omega
  have st:=λF k m=>Bq k m (some d) j N (N.length:Int) (i:Int) F L S jd jt jb jr jk B sf N[i] he.symm ((i+1:Nat):Int) (wnat (by omega)).symm ((2+t:Nat):Int) e3.symm
  by_cases hk:N[i]=0\/N[i]=((2+t:Nat):Int)
  ·have hF2:F.getD d []=M.filter (λe=>fZ t e || (N.drop (i+1)).contains e.1):=by
    rw[hF];refine P3 λe _=>?_
    rw[hdr,N2];by_cases h0:e.1=N[i]
    ·have:fZ t e=true:=by
      unfold fZ;rw[h0];rcases hk with hk|hk<;>rw[hk]
      ·rw[MY rfl];rfl
      ·rw[MY (show((2+t:Nat):Int)=((2+t:Nat):Int) from rfl),Qt]
     rw[this];rfl
    ·rw[N0 h0,Qj]
   obtain⟨F',f1,f2,f3⟩:=zf hN hNl hM hMa hNM hl hs hjt ht dd (i+1) F (by omega) hd hF2;refine⟨F',f1,f2,λR h=>Ev2.step (st F) (Ev2.posD (by omega) (Ev2.pos (ak (by omega) (by omega)) ?_))⟩;rcases hk with hk|hk
   ·exact Ev2.neg (by rw[MY hk];rfl) (f3 R h)
   ·by_cases h0:N[i]=0
    ·exact Ev2.neg (by rw[MY h0];rfl) (f3 R h)
    ·exact Ev2.pos (by rw[MT h0];rfl) (Ev2.neg (by rw[MY hk];rfl) (f3 R h))
  ·have h0:¬ N[i]=0:=λh=>hk (.inl h)
   have h2:¬ N[i]=((2+t:Nat):Int):=λh=>hk (.inr h)
   have hin:N[i]∈(F.getD d []).map (·.1):=by
    obtain⟨e,he1,he2⟩:=Nt.1 (hNM _ (NF hlt));refine Nt.2 ⟨e,?_,he2⟩;rw[hF];refine OV.2 ⟨he1,?_⟩;rw[hdr,N2,Pp.2 he2];simp
   have hMi:∀e∈F.getD d [],∃g,e.2=some g:=λe he1=>by rw[hF]at he1;exact hMa e (OV.1 he1).1
   obtain⟨g,hg,_⟩:=nI _ _ hMi hin;have hnod:nodI ((F.getD d []).map (·.1))=true:=by rw[hF];exact qd _ _ hM
   have hF2:(F.set d (ct (F.getD d []) N[i])).getD d []=M.filter (λe=>fZ t e || (N.drop (i+1)).contains e.1):=by
    rw[ai _ _ _ _ hd,mC _ _ hnod,hF,List.filter_filter];refine P3 λe _=>?_
    rw[hdr,N2];by_cases h3:e.1=N[i]
    ·have k0:fZ t e=false:=by unfold fZ;rw[h3,MT h0,MT h2];rfl
     have c0:(N.drop (i+1)).contains e.1=false:=by
      cases hc:(N.drop (i+1)).contains e.1 with
      |false=>rfl
      |true=>rw[h3]at hc;exact(hnin (N1.1 hc)).elim
     rw[k0,c0,MY h3];rfl
    ·rw[MT h3,N0 h3];simp
   obtain⟨F',f1,f2,f3⟩:=zf hN hNl hM hMa hNM hl hs hjt ht dd (i+1) (F.set d (ct (F.getD d []) N[i])) (by omega) (by rw[MQ];exact hd) hF2;refine⟨F',by rw[f1,MQ],f2,λR h=>Ev2.step (st F) (Ev2.posD (by omega) (Ev2.pos (ak (by omega) (by omega)) (Ev2.pos (by rw[MT h0];rfl) (Ev2.pos (by rw[MT h2];rfl) (Ev2.bind (K8 hd hl hs rfl hg) (Ev2.neg rfl (f3 R h)))))))⟩
end
end Go.Eng.Top
namespace Go.Eng.Top
open Go.RowKit Go.Eng Go.Eng.LVar Go.Eng.LCrc Go.Eng.LFrm
set_option maxRecDepth 100000
theorem LL {F:List MF}{L:List Int}{S:List Bool}{B:List (List Int)}{sf:List Int}{d:Nat}(hL:d<L.length)(hl:L.getD d 0=-1)(hS:d<S.length)(hs:S.getD d false=false){name n:Int}{g:Nat}(hg:aM none (F.getD d []) name=some g)(hB:g<B.length)(hf:g<sf.length)(hb:(B.getD g []).length<=1000000)(h0:0<=n)(h1:n<=((B.getD g []).length:Int)):
  Ev1 (λk=>CF k BE uO [inj (.ref 29) (some d),inj (.int .i64) name,inj (.int .i64) n,Ci F,Ck L,Cl S,Ct B,Cu sf]) (none,F,L,S,B.set g ((B.getD g []).take (Int.toNat n)),sf.set g n):=by
 refine Ev1.step (λk=>(rfl:CF (k+1) BE uO [inj (.ref 29) (some d),inj (.int .i64) name,inj (.int .i64) n,Ci F,Ck L,Cl S,Ct B,Cu sf]=cutX (some d) name n F L S B sf)) (Ev1.const ?_);show(match aM none (F.getD d []) name with
  |some g=>bif Nat.blt d S.length&&(Nat.blt d L.length&&(!(S.getD d false)&&(decide (L.getD d 0=-1)&&(Nat.blt g B.length&&(Nat.blt g sf.length&&(Nat.ble (B.getD g []).length 1000000&&(decide (0<=n)&&decide (n<=((B.getD g []).length:Int)))))))))then
    some (none,F,L,S,B.set g ((B.getD g []).take (Int.toNat n)),sf.set g n)else none
  |none=>none)=_
 rw[hg];simp only[];rw[show Nat.blt d S.length=true from NG hS,show Nat.blt d L.length=true from NG hL,hs,MY hl,show Nat.blt g B.length=true from NG hB,show Nat.blt g sf.length=true from NG hf,NG hb,MY h0,MY h1];rfl
theorem pK {B:List (List Int)}(f:Int×Option Nat->Bool):∀(M:MF),sumL B (M.filter f)<=sumL B M
 |[]=>MW _
 |e::M=>by
  have ih:=pK (B:=B) f M;rw[Ol];split
  ·unfold sumL;omega
  ·exact Ns ih (by show sumL B M<=(B.getD (e.2.getD 0) []).length+sumL B M;omega)
noncomputable abbrev LX (k d:Nat)(c:DC):=CF k g_jO n_jO [inj (.ref 29) (some d),Ci c.F,Ck c.L,Cl c.S,Co c.jd,Cp c.jt,Cq c.jb,Cr c.jr,Cs c.jk,Ct c.B,Cu c.sf]
abbrev Ho (j:Nat)(c:DC):R10:=(some j,none,c.F,c.L,c.S,c.jd,c.jt,c.jb,c.jr,c.jk,c.B,c.sf)
structure Iy (c c':DC)(d:Nat):Prop where
 F:c'.F.length=c.F.length
 R:c'.R=c.R
 L:c'.L=c.L
 S:c'.S=c.S
 fd:c.F.getD d []=[]->c'.F.getD d []=[]
 jd:c'.jd=c.jd++[some d]
 jt:c'.jt.length=c.jt.length+1
 jb:c'.jb.length=c.jb.length+1
 jr:c'.jr.length=c.jr.length+1
 jk:c'.jk.length=c.jk.length+1
theorem Kf {c:DC}{d rho t:Nat}{bs:List Int}{rs:List (List Int)}{p:List Int}(h:RS c d rho t bs rs p)(ht:c.jt.length=c.jd.length)(hb:c.jb.length=c.jd.length)(hr:c.jr.length=c.jd.length)(hk:c.jk.length=c.jd.length)(htb:t<=1000000):
  ∃c',Ev1 (λk=>LX k d c) (Ho c.jd.length c')/\JG c' c.jd.length d rho t bs rs/\(t≠0->c'.jb.getD c.jd.length []=bs)/\Iy c c' d:=by
 obtain⟨b,r,hF,hbz,hbok,hbl,hrok,hrz,hne⟩:=h.files;have hsum:=h.sum;have hrho:=h.rhl;have hM:=h.nk;have hall:∀e∈c.F.getD d [],∃g,e.2=some g:=λe he=>by obtain⟨g,q,_⟩:=h.all e he;exact⟨g,q⟩
 have hnn:=EG (F:=c.F) (d:=d) (c.F.getD d []) rfl h.l3 h.nk;have hperm:=Go.Proofs.Due.sortI_perm ((c.F.getD d []).map (·.1));have hNl:(gE ((c.F.getD d []).map (·.1))).length<=3:=by rw[hperm.length_eq,NW];exact h.l3
 have hNd:(gE ((c.F.getD d []).map (·.1))).Nodup:=hperm.nodup_iff.2 (sZ hM);have hNM:∀n∈gE ((c.F.getD d []).map (·.1)),n∈(c.F.getD d []).map (·.1):=λn hn=>hperm.mem_iff.1 hn
 have hF0:c.F.getD d []=(c.F.getD d []).filter (λe=>fZ t e || ((gE ((c.F.getD d []).map (·.1))).drop 0).contains e.1):=by
  symm;refine PL.2 λe he=>?_
  rw[OJ,N1.2 (hperm.mem_iff.2 (Nt.2 ⟨e,he,rfl⟩)),Qt]
 generalize gE ((c.F.getD d []).map (·.1))=N at hnn hNl hNd hNM hF0;have hz:(c.jr++[[]]).set c.jd.length rs=c.jr++[rs]:=iW c.jr [] rs hr.symm;have hsfB:=h.bsf
 -- from the files' names on
 have main:∀(tt:Int) (bb:List Int),tt=(t:Int)->(t≠0->bb=bs)->∃c',Ev2 (λk m=>xf k m (some d) c.jd.length c.F c.L c.S (c.jd++[some d]) (c.jt++[tt]) (c.jb++[bb]) (c.jr++[[]]) (c.jk++[false]) c.B c.sf) (Ho c.jd.length c')/\JG c' c.jd.length d rho t bs rs/\(t≠0->c'.jb.getD c.jd.length []=bs)/\Iy c c' d:=by
  intro tt bb htt hbb;have hjt:(c.jt++[tt]).getD c.jd.length 0=(t:Int):=by rw[aP c.jt tt 0 ht.symm,htt]
  have e3:w64 (2+(c.jt++[tt]).getD c.jd.length 0)=((2+t:Nat):Int):=by rw[hjt,bM (by omega) (by omega)];omega
  obtain⟨F',f1,f2,f3⟩:=zf (L:=c.L) (S:=c.S) (jd:=c.jd++[some d]) (jb:=c.jb++[bb]) (jr:=c.jr++[[]]) (jk:=c.jk++[false]) (B:=c.B) (sf:=c.sf) hNd hNl hM hall hNM h.left h.live hjt (by omega) N.length 0 c.F (by omega) h.hd hF0;rw[hF]at f2;have hsub:sumL c.B (Mof t b r)<=rho:=by
   rw[<- hF];exact Ns (pK _ _) hsum
  have jg:∀(B2:List (List Int)) (sf2:List Int),B2.length=c.B.length->sf2.length=c.sf.length->sumL B2 (Mof t b r)<=rho->(∀g,b=some g->B2.getD g []=c.B.getD g []/\sf2.getD g 0=c.sf.getD g 0)->(∀g,r=some g->B2.getD g []=frs rs/\sf2.getD g 0=((frs rs).length:Int)) ->
    JG ⟨F',c.R,c.L,c.S,c.jd++[some d],c.jt++[tt],c.jb++[bb],c.jr++[rs],c.jk++[false],B2,sf2⟩ c.jd.length d rho t bs rs/\(t≠0->(c.jb++[bb]).getD c.jd.length []=bs)/\Iy c ⟨F',c.R,c.L,c.S,c.jd++[some d],c.jt++[tt],c.jb++[bb],c.jr++[rs],c.jk++[false],B2,sf2⟩ d:=by
   intro B2 sf2 k1 k2 k3 k4 k5;refine⟨⟨⟨by rw[f1];exact h.hd,h.hR,hrho,⟨h.hL,by dsimp only;rw[h.left];omega,by dsimp only;rw[h.left];omega⟩,h.hS,h.live⟩,bj _ _ _,⟨by simp[ht],hjt⟩,by simp[hb],⟨by simp[hr],aP _ _ _ hr.symm⟩,⟨by simp[hk],aP _ _ _ hk.symm⟩,by dsimp only;rw[k1,k2];exact hsfB,⟨b,r,f2,⟨hbz,λg hg=>?_,hbl,λg hg=>?_,λhn=>⟨(hrz hn).1,rfl⟩,hne⟩⟩,by dsimp only;rw[f2];exact k3,h.rcs,htb⟩,λh0=>by rw[aP _ _ _ hb.symm];exact hbb h0,⟨f1,rfl,rfl,rfl,λh0=>by dsimp only;rw[f2,<- hF,h0];rfl,rfl,by simp,by simp,by simp,by simp⟩⟩
   ·obtain⟨q1,q2,q3⟩:=hbok g hg;dsimp only;rw[(k4 g hg).1,(k4 g hg).2,k1];exact⟨q1,q2,q3⟩
   ·dsimp only;rw[(k5 g hg).1,(k5 g hg).2,k1,NJ];exact⟨(hrok g hg).1,rfl,rfl⟩
  have st:=λk m=>Bq k m (some d) c.jd.length N (N.length:Int) (N.length:Int) F' c.L c.S (c.jd++[some d]) (c.jt++[tt]) (c.jb++[bb]) (c.jr++[[]]) (c.jk++[false]) c.B c.sf _ rfl _ rfl ((2+t:Nat):Int) e3.symm
  have wrap:∀R,Ev2 (λk m=>hOp3 k m d c.jd.length N (N.length:Int) F' c.L c.S (c.jd++[some d]) (c.jt++[tt]) (c.jb++[bb]) (c.jr++[[]]) (c.jk++[false]) c.B c.sf) R ->
    Ev2 (λk m=>xf k m (some d) c.jd.length c.F c.L c.S (c.jd++[some d]) (c.jt++[tt]) (c.jb++[bb]) (c.jr++[[]]) (c.jk++[false]) c.B c.sf) R:=λR hR=>
   Ev2.step (λk m=>HJ k m (some d) c.jd.length c.F c.L c.S (c.jd++[some d]) (c.jt++[tt]) (c.jb++[bb]) (c.jr++[[]]) (c.jk++[false]) c.B c.sf) (Ev2.bind hnn (Ev1.drop (f3 R hR).diag))
  cases hrc:r with
  |none=>
   obtain⟨z1,z2⟩:=hrz hrc;have hj:=jg c.B c.sf rfl rfl hsub (λ_ _=>⟨rfl,rfl⟩) (λg hg=>by rw[hrc]at hg;cases hg);have hg:aM none (Mof t b r) ((2+t:Nat):Int)=none:=by rw[uR,hrc]
   refine⟨_,wrap _ (Ev2.step st (Ev2.negD (by omega) (Ev2.bind (pV f2 hg) (Ev2.bind JD (Ev2.neg rfl (Ev2.const ?_)))))),hj⟩;rw[z1]at hz ⊢;dsimp only;rw[hz]
  |some g=>
   obtain⟨q1,q2,q3⟩:=hrok g hrc;have hg:aM none (Mof t b r) ((2+t:Nat):Int)=some g:=by rw[uR,hrc]
   have hlen:(c.B.getD g []).length<=rho:=Ns (iG (B:=c.B) (t:=t) (b:=b) (r:=r) |>.2 g hrc) hsub;have hsc:=G3 rs p h.pok (λx hx=>⟨(h.rcs x hx).1,by have:=(h.rcs x hx).2;omega⟩) (by rw[<- q2];omega) (by have:=BF rs;rw[q2,MN]at hlen;omega);rw[<- q2]at hsc;by_cases hcut:((frs rs).length:Int)<((c.B.getD g []).length:Int)
   ·have hc:=LL (F:=F') (B:=c.B) (sf:=c.sf) (name:=((2+t:Nat):Int)) (n:=((frs rs).length:Int)) h.hL h.left h.hS h.live (by rw[f2];exact hg) q1 (by omega) (by omega) (by omega) (by omega);rw[Na,q2,List.take_left]at hc;have hsub2:sumL (c.B.set g (frs rs)) (Mof t b r)<=rho:=Ns (yS _ λe _=>by
     by_cases he:e.2.getD 0=g
     ·rw[he,ai _ _ _ _ q1];omega
     ·rw[getD_set_ne _ _ _ (Ne.symm he)];exact MW _) hsub
    have hj:=jg (c.B.set g (frs rs)) (c.sf.set g ((frs rs).length:Int)) MQ MQ hsub2 (λg2 hg2=>by
     have:=hne g2 g hg2 hrc;rw[getD_set_ne _ _ _ (Ne.symm this),getD_set_ne _ _ _ (Ne.symm this)];exact⟨rfl,rfl⟩) (λg2 hg2=>by
     rw[hrc]at hg2;cases hg2;rw[ai _ _ _ _ q1,ai _ _ _ _ (by omega)];exact⟨rfl,rfl⟩)
    refine⟨_,wrap _ (Ev2.step st (Ev2.negD (by omega) (Ev2.bind (jV f2 hg (by omega)) (Ev2.bind hsc (Ev2.pos rfl (Ev2.posD hcut (Ev2.bind hc (Ev2.neg rfl (Ev2.const ?_))))))))),hj⟩;dsimp only;rw[hz]
   ·have hp:p=[]:=by
     rw[q2,MN]at hcut;exact N7.1 (by omega)
    rw[hp,NJ]at q2 q3;have hj:=jg c.B c.sf rfl rfl hsub (λ_ _=>⟨rfl,rfl⟩) (λg2 hg2=>by rw[hrc]at hg2;cases hg2;exact⟨q2,q3⟩);refine⟨_,wrap _ (Ev2.step st (Ev2.negD (by omega) (Ev2.bind (jV f2 hg (by omega)) (Ev2.bind hsc (Ev2.pos rfl (Ev2.negD hcut (Ev2.const ?_))))))),hj⟩;dsimp only;rw[hz]
 have bmem:∀g,b=some g->aM none (c.F.getD d []) 0=some g:=λg hg=>by
  obtain⟨e,he,e2⟩:=zi (t:=t) (r:=r) |>.1 g hg;have hin:(0,some g)∈c.F.getD d []:=by
   have:(0,some g)∈Mof t b r:=by rw[hg];cases r<;>simp[Mof]
   rw[<- hF]at this;exact(OV.1 this).1
  obtain⟨g2,k1,k2⟩:=nI _ 0 hall (Nt.2 ⟨_,hin,rfl⟩);have hk:(0,some g2)∈Mof t b r:=by
   rw[<- hF];refine OV.2 ⟨k2,?_⟩;unfold fZ;rw[MY rfl];rfl
  have:g2=g:=by
   rw[hg]at hk;cases r with
   |none=>simp[Mof]at hk;exact hk
   |some h0=>
    simp only[Mof,M5,Nu,N6,NM,MO]at hk;rcases hk with hk|hk
    ·exact hk.2
    ·have:=ne0 t;omega
  rw[<- this];exact k1
 have st0:=λk=>f_jO k (some d) c.F c.L c.S c.jd c.jt c.jb c.jr c.jk c.B c.sf _ rfl _ rfl _ rfl _ rfl
 cases hbc:b with
 |none=>
  have t0:t=0:=hbz.1 hbc;obtain⟨c',m1,m2⟩:=main 0 [] (by omega) (λh0=>(h0 t0).elim);have hno:aM none (c.F.getD d []) 0=none:=by
   cases hq:aM none (c.F.getD d []) 0 with
   |none=>rfl
   |some g=>
    have hin:(0:Int)∈(c.F.getD d []).map (·.1):=by
     have key:∀(M:MF),aM none M 0=some g->(0:Int)∈M.map (·.1):=by
      intro M
      induction M with
      |nil=>intro h;cases h
      |cons e M ih=>
       intro h;unfold aM at h;by_cases he:e.1=0
       ·rw[Nc,he];exact NI ..
       ·rw[MT he,M7]at h;exact Nf _ (ih h)
     exact key _ hq
    obtain⟨e,he1,he2⟩:=Nt.1 hin;have:e∈Mof t b r:=by
     rw[<- hF];refine OV.2 ⟨he1,?_⟩;unfold fZ;rw[MY he2];rfl
    rw[hbc]at this;cases r with
    |none=>simp[Mof]at this
    |some h0=>
     simp only[Mof,Nq]at this;rw[this]at he2;have:=ne0 t;dsimp only at he2;omega
  exact⟨c',Ev1.step st0 (Ev1.bind (pV rfl hno) (Ev1.neg rfl m1.diag)),m2⟩
 |some g=>
  have t0:t≠0:=λh0=>by have:=hbz.2 h0;rw[hbc]at this;cases this
  obtain⟨q1,q2,q3⟩:=hbok g hbc;obtain⟨l1,l2⟩:=hbl t0;obtain⟨c',m1,m2⟩:=main (t:Int) bs rfl (λ_=>rfl);obtain⟨g2,e2,_,hl6⟩:∃g2,g=g2/\g2<c.B.length/\(c.B.getD g2 []).length<=1000000:=⟨g,rfl,q1,by rw[q2,iN];omega⟩
  subst e2;have hI:I64 [(t:Int)]:=by simp[I64];omega
  have hbyt:Byt (encs [(t:Int)]++bs):=Byt.append (mV _) l2;have hone:=Ew (fr (encs [(t:Int)]++bs)) (BH hbyt) (by rw[iN];omega);have hrec:=A7 (encs [(t:Int)]++bs) [] l1;rw[NJ]at hrec;rw[hrec,<- q2]at hone;simp only[ans1]at hone;have hvg:Ev1 (λk=>CF k Fo nz [inj BB (encs [(t:Int)]++bs)]) ((t:Int),bs,true):=by
   have:=yL (n:=(t:Int)) (by omega) bs (by rw[MN]at l1;omega);rw[pC];exact this
  have h2:Ev2 (λk m=>Fe k m (some d) c.jd.length (t:Int) bs c.F c.L c.S (c.jd++[some d]) (c.jt++[0]) (c.jb++[[]]) (c.jr++[[]]) (c.jk++[false]) c.B c.sf) (Ho c.jd.length c'):=by
   refine Ev2.step (λk m=>HI k m (some d) c.jd.length (t:Int) bs c.F c.L c.S (c.jd++[some d]) (c.jt++[0]) (c.jb++[[]]) (c.jr++[[]]) (c.jk++[false]) c.B c.sf) (Ev2.posD (by rw[MN]at l1;omega) ?_);rw[iW c.jt 0 (t:Int) ht.symm,iW c.jb [] bs hb.symm];exact Ev1.drop m1.diag
  have h1:Ev2 (λk m=>h_jO k m (some d) c.jd.length (encs [(t:Int)]++bs) c.F c.L c.S (c.jd++[some d]) (c.jt++[0]) (c.jb++[[]]) (c.jr++[[]]) (c.jk++[false]) c.B c.sf) (Ho c.jd.length c'):=
   Ev2.step (λk m=>Lv k m (some d) c.jd.length (encs [(t:Int)]++bs) c.F c.L c.S (c.jd++[some d]) (c.jt++[0]) (c.jb++[[]]) (c.jr++[[]]) (c.jk++[false]) c.B c.sf) (Ev2.bind hvg (Ev2.neg rfl (Ev2.negD (by omega) (Ev1.drop h2.diag))))
  refine⟨c',Ev1.step st0 (Ev1.bind (jV rfl (bmem g hbc) hl6) (Ev1.pos rfl (Ev1.bind hone (Ev1.neg rfl (Ev1.neg ?_ h1.diag))))),m2⟩;have:6+((encs [(t:Int)]++bs).length:Int)=((c.B.getD g []).length:Int):=by rw[q2,iN];omega
  dsimp only;rw[MY this];rfl
theorem KE {j:Nat}{jb:List (List Int)}{bs:List Int}(h:jb.getD j []=bs)(hl:bs.length<=1000000):Ev1 (λk=>CF k FA qj [inj (.ref 99) (some j),Cq jb]) (bs,jb):=
 Ev1.step (λk=>FX k (some j) jb bs h.symm) (Ev1.pos rfl (Ev1.posD (by omega) (Ev1.now _)))
theorem Ek {j : Nat} {jr : List (List (List Int))} {rs : List (List Int)} (h : jr.getD j [] = rs) (hl : rs.length ≤ 100000) (hr : ∀ x ∈ rs, x.length ≤ 80) : ∀ (dd i : Nat), i + dd = rs.length → Ev2 (fun k m => gY k m (some j) j (rs.length : Int) (i : Int) (rs.take i) jr) (rs, jr)
  | 0, i, hi => Ev2.step (fun k m => lB k m (some j) j (rs.length : Int) (i : Int) (rs.take i) jr _ rfl _ rfl) (Ev2.negD (by omega) (by rw [Ou (by omega)]; exact Ev2.now _))
  | dd + 1, i, hi => by
    have hlt : i < rs.length := by omega
    have he : rs.getD (Int.toNat (i : Int)) [] = rs[i] := by rw [Na]; exact ba rs i _ hlt
    have := hr _ (NF hlt)
    have ih := Ek h hl hr dd (i + 1) (by omega)
    rw [Pz hlt, ← wnat (by omega)] at ih
    refine Ev2.step (fun k m => lB k m (some j) j (rs.length : Int) (i : Int) (rs.take i) jr rs h.symm rs[i] he.symm) (Ev2.posD (by omega) (Ev2.pos (ak (by omega) (by omega)) ?_))
    have hc1 : (rs[i]).length * 1 ≤ 211106232532992 := by omega
    refine Ev2.posD hc1 ?_
    have hc : ((rs.take i).length + [rs[i]].length) * 24 ≤ 211106232532992 := by rw [NR]; simp only [MR, M3]; omega
    exact Ev2.posD hc ih
theorem Hc {j:Nat}{jr:List (List (List Int))}{rs:List (List Int)}(h:jr.getD j []=rs)(hl:rs.length<=100000)(hr:∀x∈rs,x.length<=80):Ev1 (λk=>CF k xA j9 [inj (.ref 99) (some j),Cr jr]) (rs,jr):=by
 refine Ev1.step (λk=>x9 k (some j) jr) (Ev1.pos rfl ?_);simp only[M4];rw[h];exact(Ek h hl hr rs.length 0 (by omega)).diag
def runE (s:ab)(es:List aD):ab:=es.foldl (λs e=>(doF s e).1) s
theorem pS (s:ab)(es:List aD)(e:aD):runE s (es++[e])=(doF (runE s es) e).1:=by unfold runE;rw[List.foldl_append];rfl
theorem D4 {s:ab}{es:List aD}{i:Nat}(h:i<es.length):runE s (es.take (i+1))=(doF (runE s (es.take i)) es[i]).1:=by rw[Pz h,pS]
theorem yh {e:aD}(h:evR e):I64 (evL e)/\I64 (rqL e.2.1):=by
 obtain⟨w,r,key,ok⟩:=e;rcases h with⟨h1,h2,h3,h4⟩|⟨h1,h2,h3,h4⟩|h
 ·have h1:w=0:=h1;cases h1;exact⟨aY.2 ⟨by simp,by simpa using h3⟩,h3⟩
 ·have h1:w=1:=h1;have h2:r=(0,0,0,0,0,0,0):=h2;cases h1;cases h2;have h3:0<=key:=h3;have h4:key<=4611686018427387904:=h4;refine⟨aY.2 ⟨by simp,?_⟩,by simp[rqL,I64]⟩;simp only[show ¬ ((1:Int)=0) by omega,NT,Oq];refine aY.2 ⟨by omega,?_⟩;cases ok<;>simp[I64]
 ·cases h;exact⟨by simp[evL,I64],by simp[rqL,I64]⟩
theorem uA {s:ab}(hs:Inv s):∀(es:List aD),(∀e∈es,evR e)->Inv (runE s es)
 |[],_=>hs
 |e::es,h=>uA (tE hs e (yh (h e (NI ..))).2).1 es λx hx=>h x (Nf _ hx)
abbrev encE (e:aD):List Int:=encs (evL e)
abbrev zT0:ab:=([],[],[],[],0)
theorem AU {d x:Nat}{sb:ab}{evs:List aD}(hsb:Inv sb)(hev:∀e∈evs,evR e)(hl:evs.length<=100000)(ej:List (Option Nat))(c:DC):∀(dd i:Nat)(es:List ab),i+dd=evs.length->x<es.length->es.getD x zT0=runE sb (evs.take i) ->
  Ev2 (λk m=>Bs k m (some d) x (evs.map encE) (evs.length:Int) (i:Int) c.F c.L c.S ej es c.jd c.jt c.jb c.jr c.jk c.B c.sf) (some x,none,c.F,c.L,c.S,ej,es.set x (runE sb evs),c.jd,c.jt,c.jb,c.jr,c.jk,c.B,c.sf)
 |0,i,es,hi,hx,hes=>by
  rw[Ou (by omega)]at hes;refine Ev2.step (λk m=>Br k m (some d) x (evs.map encE) (evs.length:Int) (i:Int) c.F c.L c.S ej es c.jd c.jt c.jb c.jr c.jk c.B c.sf) (Ev2.negD (by omega) (Ev2.const ?_));rw[AJ es x zT0 hx hes]
 |dd+1,i,es,hi,hx,hes=>by
  have hlt:i<evs.length:=by omega
  have he:(evs.map encE).getD (Int.toNat (i:Int)) []=encE evs[i]:=by rw[Na,ba _ i _ (by rw[NW];exact hlt),P7]
  have hr:=hev _ (NF hlt);have hinv:Inv (runE sb (evs.take i)):=uA hsb _ λe h=>hev e (OA h)
  have ih:=AU (d:=d) hsb hev hl ej c dd (i+1) (es.set x (runE sb (evs.take (i+1)))) (by omega) (by rw[MQ];exact hx) (ai _ _ _ _ hx);rw[Qy,D4 hlt,<- wnat (by omega)]at ih;refine Ev2.step (λk m=>Br k m (some d) x (evs.map encE) (evs.length:Int) (i:Int) c.F c.L c.S ej es c.jd c.jt c.jb c.jr c.jk c.B c.sf) (Ev2.posD (by omega) (Ev2.pos (ak (by omega) (by rw[NW];omega)) ?_));rw[he,hes];exact Ev2.bind (Hf _ hr) (Ev2.neg rfl (Ev2.bind (Gh hinv evs[i]) ih))
structure Src (t:Nat)(bs:List Int)(rs:List (List Int))(s sb:ab)(evs:List aD):Prop where
 b0:t=0->sb=s0
 b1:t≠0->bs=encs (stL sb)
 inv:Inv sb
 ev:∀e∈evs,evR e
 rs:rs=evs.map encE
 s:s=runE sb evs
theorem Src.invS {t:Nat}{bs:List Int}{rs:List (List Int)}{s sb:ab}{evs:List aD}(h:Src t bs rs s sb evs):Inv s:=by rw[h.s];exact uA h.inv evs h.ev
theorem Src.snoc {t:Nat}{bs:List Int}{rs:List (List Int)}{s sb:ab}{evs:List aD}(h:Src t bs rs s sb evs){e:aD}(he:evR e):Src t bs (rs++[encE e]) (doF s e).1 sb (evs++[e]):=
 ⟨h.b0,h.b1,h.inv,λx hx=>(Nb.1 hx).elim (h.ev x) (λhx=>by rw[Nq.1 hx];exact he),by rw[h.rs,OF];rfl,by rw[pS,h.s]⟩
noncomputable abbrev LY (k d:Nat)(ej:List (Option Nat))(es:List ab)(c:DC):=CF k g_dO n_dO [inj (.ref 29) (some d),Ci c.F,Ck c.L,Cl c.S,Cm ej,Cn es,Co c.jd,Cp c.jt,Cq c.jb,Cr c.jr,Cs c.jk,Ct c.B,Cu c.sf]
theorem Gf {c:DC}{d rho t:Nat}{bs:List Int}{rs:List (List Int)}{p:List Int}(h:RS c d rho t bs rs p)(ht:c.jt.length=c.jd.length)(hb:c.jb.length=c.jd.length)(hr:c.jr.length=c.jd.length)(hk:c.jk.length=c.jd.length)(htb:t<=1000000)(ej:List (Option Nat))(es:List ab)(hee:es.length=ej.length){s sb:ab}{evs:List aD}(hs:Src t bs rs s sb evs):
  ∃c',Ev1 (λk=>LY k d ej es c) (some ej.length,none,c'.F,c'.L,c'.S,ej++[some c.jd.length],es++[s],c'.jd,c'.jt,c'.jb,c'.jr,c'.jk,c'.B,c'.sf)/\JG c' c.jd.length d rho t bs rs/\Iy c c' d:=by
 obtain⟨c',ho,hJ,hbb,hL⟩:=Kf h ht hb hr hk htb;have hfew:=AY hJ;have hrl:∀x∈rs,x.length<=80:=λx hx=>(h.rcs x hx).2
 have hrec:=Hc hJ.jr.2 (by omega) hrl;rw[hs.rs]at hrec hfew;rw[NW]at hfew;have hinv:=hs.inv;have h0:Ev2 (λk m=>h_dO k m (some d) (some c.jd.length) ej.length c'.F c'.L c'.S (ej++[some c.jd.length]) (es++[sb]) c'.jd c'.jt c'.jb c'.jr c'.jk c'.B c'.sf) (some ej.length,none,c'.F,c'.L,c'.S,ej++[some c.jd.length],es++[s],c'.jd,c'.jt,c'.jb,c'.jr,c'.jk,c'.B,c'.sf):=by
  refine Ev2.step (λk m=>Lx k m (some d) (some c.jd.length) ej.length c'.F c'.L c'.S (ej++[some c.jd.length]) (es++[sb]) c'.jd c'.jt c'.jb c'.jr c'.jk c'.B c'.sf) (Ev2.bind hrec (Ev1.drop ?_));have:=AU (d:=d) (x:=ej.length) hinv hs.ev (by omega) (ej++[some c.jd.length]) c' evs.length 0 (es++[sb]) (by omega) (by simp[hee]) (aP _ _ _ hee.symm);rw[iW es sb _ hee.symm,<- hs.s]at this;have:=this.diag;rw[NW];exact this
 refine⟨c',Ev1.step (λk=>f_dO k (some d) c.F c.L c.S ej es c.jd c.jt c.jb c.jr c.jk c.B c.sf) (Ev1.bind ho (Ev1.neg rfl (Ev1.bind IW (Ev1.bind (GR hJ.jt.2) ?_)))),hJ,hL⟩;by_cases t0:t=0
 ·refine Ev1.negD (by omega) ?_;rw[hs.b0 t0]at h0;exact h0.diag
 ·refine Ev1.posD (by omega) (Ev1.bind (KE (hbb t0) ?_) ?_)
  ·obtain⟨_,_,_,_,_,hbl,_⟩:=h.files;have:=(hbl t0).1;rw[MN]at this;omega
  ·dsimp only;rw[hs.b1 t0];refine Ev1.bind (Hd hinv) (Ev1.neg rfl ?_);dsimp only;rw[iW es s0 sb hee.symm];exact h0.diag
end Go.Eng.Top
namespace Go.Eng.Top
open Go.RowKit Go.Eng Go.Eng.LVar Go.Eng.LCrc Go.Eng.LFrm
set_option maxRecDepth 100000
def DE (c:DC)(j d rho T:Nat)(s:ab):Prop:=∃t bs rs sb evs,JG c j d rho t bs rs/\Src t bs rs s sb evs/\t<=T
def DX (c:DC)(d rho T:Nat)(s s':ab):Prop:=∃t bs rs p sb evs,DSt c d rho t bs rs p/\Src t bs rs s sb evs/\t<=T/\(p=[]\/∃e,p=fr (encE e)/\evR e/\(doF s e).1=s')
theorem DE.mono {c:DC}{j d rho T T':Nat}{s:ab}(h:DE c j d rho T s)(hT:T<=T'):DE c j d rho T' s:=by
 obtain⟨t,bs,rs,sb,evs,h1,h2,h3⟩:=h;exact⟨t,bs,rs,sb,evs,h1,h2,Ns h3 hT⟩
theorem DX.mono {c:DC}{d rho T T':Nat}{s s':ab}(h:DX c d rho T s s')(hT:T<=T'):DX c d rho T' s s':=by
 obtain⟨t,bs,rs,p,sb,evs,h1,h2,h3,h4⟩:=h;exact⟨t,bs,rs,p,sb,evs,h1,h2,Ns h3 hT,h4⟩
theorem DE.inv {c:DC}{j d rho T:Nat}{s:ab}(h:DE c j d rho T s):Inv s:=by
 obtain⟨t,bs,rs,sb,evs,h1,h2,h3⟩:=h;exact h2.invS
theorem yU {s:ab}(hs:Inv s)(t:Nat)(ht:t≠0):Src t (encs (stL s)) [] s s []:=⟨λh=>(ht h).elim,λ_=>rfl,hs,λe he=>(by cases he),rfl,rfl⟩
noncomputable abbrev yC (k x:Nat)(ej:List (Option Nat))(es:List ab)(c:DC):=CF k xE ke [inj (.ref 30) (some x),Ci c.F,Cj c.R,Ck c.L,Cl c.S,Cm ej,Cn es,Co c.jd,Cp c.jt,Cq c.jb,Cr c.jr,Cs c.jk,Ct c.B,Cu c.sf]
abbrev CC (e:Option Int)(c:DC)(ej:List (Option Nat))(es:List ab):R8:=(e,c.F,c.R,c.L,c.S,ej,es,c.jd,c.jt,c.jb,c.jr,c.jk,c.B,c.sf)
theorem Gi (c:DC){x j d rho t:Nat}{bs:List Int}{rs:List (List Int)}{s sb:ab}{evs:List aD}{ej:List (Option Nat)}{es:List ab}(h:JG c j d rho t bs rs)(hS:Src t bs rs s sb evs)(hej:ej.getD x none=some j)(hes:es.getD x zT0=s)(ht:t<1000000):
  (∃e,(e=13/\16374<(encs (stL s)).length\/e=8)/\Ev1 (λk=>yC k x ej es c) (CC (some e) c ej es)) \/
  (∃c',Ev1 (λk=>yC k x ej es c) (CC none c' ej es)/\JG c' j d rho (t+1) (encs (stL s)) []/\Lens c c') \/
  (∃c',Ev1 (λk=>yC k x ej es c) (CC (some 12) c' ej es)/\(∀s',DX c' d rho (t+1) s s')/\Lens c c'):=by
 have hs:=hS.invS;have hl:=DP hs;have st:=λk=>F1 k (some x) c.F c.R c.L c.S ej es c.jd c.jt c.jb c.jr c.jk c.B c.sf
 have go:∀{e:Option Int} {c':DC},Ev1 (λk=>jA k j (encs (stL s)) c) (iZ e c')->Ev1 (λk=>yC k x ej es c) (CC e c' ej es):=λ{e c'} he=>by
  refine Ev1.step st (Ev1.pos rfl (Ev1.pos rfl ?_));simp only[M4];rw[hej,hes];exact Ev1.bind (iV s hs.st) (Ev1.bind he (Ev1.now _))
 rcases Ke c h (encs (stL s)) ⟨mV _,by omega⟩ ht with⟨e,he,hv⟩|⟨c',hv,hJ,hL⟩|⟨c',hv,hD,hL⟩
 ·refine .inl ⟨e,?_,go hv⟩;rcases he with⟨he,hb⟩|he
  ·refine .inl ⟨he,?_⟩;have hI:I64 [((t+1:Nat):Int)]:=by simp[I64];omega
   have:=aG hI;rw[MN]at hb;simp only[MR,M3]at this;omega
  ·exact .inr he
 ·exact .inr (.inl ⟨c',go hv,hJ,hL⟩)
 ·refine .inr (.inr ⟨c',go hv,?_,hL⟩);rcases hD with hD|hD
  ·exact λ_=>⟨t,bs,rs,[],sb,evs,hD,hS,QB _,.inl rfl⟩
  ·exact λ_=>⟨t+1,_,[],[],s,[],hD,yU hs _ (by omega),MW _,.inl rfl⟩
noncomputable abbrev tJ (k x:Nat)(e:aD)(ej:List (Option Nat))(es:List ab)(c:DC):=CF k FD uN [inj (.ref 30) (some x),inj aH e,Ci c.F,Cj c.R,Ck c.L,Cl c.S,Cm ej,Cn es,Co c.jd,Cp c.jt,Cq c.jb,Cr c.jr,Cs c.jk,Ct c.B,Cu c.sf]
abbrev rW (o:ah)(c:DC)(ej:List (Option Nat))(es:List ab):R9:=(o,c.F,c.R,c.L,c.S,ej,es,c.jd,c.jt,c.jb,c.jr,c.jk,c.B,c.sf)
theorem Ie {e:aD}(h:evR e):Byt (encE e)/\(encE e).length<=80:=⟨mV _,F6 e (yh h).1⟩
theorem Ih (c:DC){x j d rho t:Nat}{bs:List Int}{rs:List (List Int)}{s:ab}{ej:List (Option Nat)}{es:List ab}(h:JG c j d rho t bs rs)(hs:Inv s)(hej:ej.getD x none=some j)(hx:x<es.length)(hes:es.getD x zT0=s)(e:aD)(hq:(doF s e).1=s):
  Ev1 (λk=>tJ k x e ej es c) (rW (doF s e).2 c ej es):=by
 have hd:=Gh hs e;have hst:=DW s s hs.st hs.st;refine Ev1.step (λk=>F2 k (some x) e c.F c.R c.L c.S ej es c.jd c.jt c.jb c.jr c.jk c.B c.sf s hes.symm) (Ev1.pos rfl ?_);simp only[M4];rw[hej];refine Ev1.bind (iQ h.jk.2) (Ev1.neg rfl (Ev1.pos rfl (Ev1.bind hd (Ev1.pos rfl ?_))));dsimp only;rw[hq];exact Ev1.bind hst (Ev1.posD rfl (Ev1.now _))
theorem MD (c:DC){x j d rho T:Nat}{s:ab}{ej:List (Option Nat)}{es:List ab}(h:DE c j d rho T s)(hej:ej.getD x none=some j)(hx:x<es.length)(hes:es.getD x zT0=s)(e:aD)(he:evR e)(hsm:(encs (stL s)).length<=16000)(hT:T<1000000):
  (∃c',Ev1 (λk=>tJ k x e ej es c) (rW (doF s e).2 c' ej (es.set x (doF s e).1))/\DE c' j d rho (T+1) (doF s e).1/\Lens c c'/\∀u,Calm c d u->u+86<=rho->Calm c' d (u+86)) \/
  (∃c',Ev1 (λk=>tJ k x e ej es c) (rW (8,0) c' ej es)/\DE c' j d rho (T+1) s/\Lens c c'/\∀u,Calm c d u->rho<u+86) \/
  (∃c',Ev1 (λk=>tJ k x e ej es c) (rW (12,0) c' ej es)/\(doF s e).1≠s/\DX c' d rho (T+1) s (doF s e).1/\Lens c c'/\∀u,Calm c d u->rho<u+86):=by
 obtain⟨t,bs,rs,sb,evs,hJ,hS,htT⟩:=h;have hs:=hS.invS;by_cases hq:(doF s e).1=s
 ·refine .inl ⟨c,?_,⟨t,bs,rs,sb,evs,hJ,by rw[hq];exact hS,by omega⟩,Lens.refl c,λu hu _=>⟨hu.1,by have:=hu.2;omega⟩⟩;have:=Ih c hJ hs hej hx hes e hq;rw[hq,AJ es x zT0 hx hes];exact this
 have hql:¬ stL s=stL (doF s e).1:=λh=>hq (DQ h).symm
 obtain⟨i1,i2⟩:=yh he;have hd:=Gh hs e;have hi:=(tE hs e i2).1;have hst:=DW s (doF s e).1 hs.st hi.st;have hee:=Ic e i1;have tailE:∀(n:Int) (c1:DC),Ev1 (λk=>jo k k (some x) (some n) 0 0 (doF s e).1.1 (doF s e).1.2.1 (doF s e).1.2.2.1 (doF s e).1.2.2.2.1 (doF s e).1.2.2.2.2 (doF s e).2.1 (doF s e).2.2 c1.F c1.R c1.L c1.S ej es c1.jd c1.jt c1.jb c1.jr c1.jk c1.B c1.sf) (rW (n,0) c1 ej es):=λn c1=>by
  have h2:Ev2 (λk m=>jo k m (some x) (some n) 0 0 (doF s e).1.1 (doF s e).1.2.1 (doF s e).1.2.2.1 (doF s e).1.2.2.2.1 (doF s e).1.2.2.2.2 (doF s e).2.1 (doF s e).2.2 c1.F c1.R c1.L c1.S ej es c1.jd c1.jt c1.jb c1.jr c1.jk c1.B c1.sf) (rW (n,0) c1 ej es):=
   Ev2.step (λk m=>xg k m (some x) (some n) 0 0 (doF s e).1.1 (doF s e).1.2.1 (doF s e).1.2.2.1 (doF s e).1.2.2.2.1 (doF s e).1.2.2.2.2 (doF s e).2.1 (doF s e).2.2 c1.F c1.R c1.L c1.S ej es c1.jd c1.jt c1.jb c1.jr c1.jk c1.B c1.sf) (Ev2.pos rfl (Ev2.bind (wH (some n)) (Ev2.now _)))
  exact h2.diag
 have tailN:∀(c1:DC),Ev1 (λk=>jo k k (some x) none 0 0 (doF s e).1.1 (doF s e).1.2.1 (doF s e).1.2.2.1 (doF s e).1.2.2.2.1 (doF s e).1.2.2.2.2 (doF s e).2.1 (doF s e).2.2 c1.F c1.R c1.L c1.S ej es c1.jd c1.jt c1.jb c1.jr c1.jk c1.B c1.sf) (rW (doF s e).2 c1 ej (es.set x (doF s e).1)):=λc1=>by
  have h2:Ev2 (λk m=>jo k m (some x) none 0 0 (doF s e).1.1 (doF s e).1.2.1 (doF s e).1.2.2.1 (doF s e).1.2.2.2.1 (doF s e).1.2.2.2.2 (doF s e).2.1 (doF s e).2.2 c1.F c1.R c1.L c1.S ej es c1.jd c1.jt c1.jb c1.jr c1.jk c1.B c1.sf) (rW (doF s e).2 c1 ej (es.set x (doF s e).1)):=
   Ev2.step (λk m=>xg k m (some x) none 0 0 (doF s e).1.1 (doF s e).1.2.1 (doF s e).1.2.2.1 (doF s e).1.2.2.2.1 (doF s e).1.2.2.2.2 (doF s e).2.1 (doF s e).2.2 c1.F c1.R c1.L c1.S ej es c1.jd c1.jt c1.jb c1.jr c1.jk c1.B c1.sf) (Ev2.neg rfl (Ev2.pos rfl (Ev2.now _)))
  exact h2.diag
 have st:=λk=>F2 k (some x) e c.F c.R c.L c.S ej es c.jd c.jt c.jb c.jr c.jk c.B c.sf s hes.symm
 have hfl:(fr (encE e)).length<=86:=by rw[iN];have:=(Ie he).2;omega
 rcases wX c hJ (encE e) (Ie he)with⟨ha,hca⟩|⟨c',ha,hjb,hJ',hL,hca⟩|⟨c',ha,hjb,hD,hL,hca⟩
 ·-- no room: a snapshot first
  have hfull:∀u,Calm c d u->rho<u+86:=λu hu=>by have:=hca u hu;omega
  rcases Gi c hJ hS hej hes (by omega)with⟨n,hn,hk⟩|⟨c',hk,hJ',hL⟩|⟨c',hk,hD,hL⟩
  ·have hn8:n=8:=hn.resolve_left (λh=>by omega);subst hn8;refine .inr (.inl ⟨c,Ev1.step st (Ev1.pos rfl ?_),⟨t,bs,rs,sb,evs,hJ,hS,by omega⟩,Lens.refl c,hfull⟩);simp only[M4];rw[hej];exact Ev1.bind (iQ hJ.jk.2) (Ev1.neg rfl (Ev1.pos rfl (Ev1.bind hd (Ev1.pos rfl (Ev1.bind hst (Ev1.negD hql (Ev1.bind hee (Ev1.pos rfl (Ev1.bind ha (Ev1.pos rfl (Ev1.posD rfl (Ev1.bind hk (Ev1.neg rfl (tailE 8 c))))))))))))))
  ·have hS':=yU hs (t+1) (by omega);have go:∀{r6:R12} {R:R9},Ev1 (λk=>l5 k j (encE e) c') r6->Ev1 (λk=>jo k k (some x) r6.1 0 0 (doF s e).1.1 (doF s e).1.2.1 (doF s e).1.2.2.1 (doF s e).1.2.2.2.1 (doF s e).1.2.2.2.2 (doF s e).2.1 (doF s e).2.2 r6.2.1 r6.2.2.1 r6.2.2.2.1 r6.2.2.2.2.1 ej es r6.2.2.2.2.2.1 r6.2.2.2.2.2.2.1 c'.jb r6.2.2.2.2.2.2.2.1 r6.2.2.2.2.2.2.2.2.1 r6.2.2.2.2.2.2.2.2.2.1 r6.2.2.2.2.2.2.2.2.2.2) R->Ev1 (λk=>tJ k x e ej es c) R:=λ{r6 R} h6 hR=>by
    refine Ev1.step st (Ev1.pos rfl ?_);simp only[M4];rw[hej];refine Ev1.bind (iQ hJ.jk.2) (Ev1.neg rfl (Ev1.pos rfl (Ev1.bind hd (Ev1.pos rfl (Ev1.bind hst (Ev1.negD hql (Ev1.bind hee (Ev1.pos rfl (Ev1.bind ha (Ev1.pos rfl (Ev1.posD rfl (Ev1.bind hk (Ev1.pos rfl (Ev1.pos rfl ?_))))))))))))));dsimp only;rw[hej];exact Ev1.bind h6 hR
   rcases wX c' hJ' (encE e) (Ie he)with⟨ha2,_⟩|⟨c2,ha2,hjb2,hJ2,hL2,_⟩|⟨c2,ha2,hjb2,hD2,hL2,_⟩
   ·exact .inr (.inl ⟨c',go ha2 (tailE 8 c'),⟨t+1,_,[],s,[],hJ',hS',by omega⟩,hL,hfull⟩)
   ·have:=tailN c2;rw[hjb2]at this;refine .inl ⟨c2,?_,⟨t+1,_,_,s,_,hJ2,hS'.snoc he,by omega⟩,hL.trans hL2,λu hu h=>by have:=hfull u hu;omega⟩;exact go ha2 this
   ·have:=tailE 12 c2;rw[hjb2]at this;refine .inr (.inr ⟨c2,?_,hq,⟨t+1,_,[],_,s,[],hD2,hS',by omega,.inr ⟨e,rfl,he,rfl⟩⟩,hL.trans hL2,hfull⟩);exact go ha2 this
  ·refine .inr (.inr ⟨c',Ev1.step st (Ev1.pos rfl ?_),hq,(hD _).mono (by omega),hL,hfull⟩);simp only[M4];rw[hej];exact Ev1.bind (iQ hJ.jk.2) (Ev1.neg rfl (Ev1.pos rfl (Ev1.bind hd (Ev1.pos rfl (Ev1.bind hst (Ev1.negD hql (Ev1.bind hee (Ev1.pos rfl (Ev1.bind ha (Ev1.pos rfl (Ev1.posD rfl (Ev1.bind hk (Ev1.neg rfl (tailE 12 c'))))))))))))))
 ·have:=tailN c';rw[hjb]at this;refine .inl ⟨c',Ev1.step st (Ev1.pos rfl ?_),⟨t,bs,_,sb,_,hJ',hS.snoc he,by omega⟩,hL,λu hu _=>by have:=hca u hu;exact⟨this.1,Ns this.2 (by omega)⟩⟩;simp only[M4];rw[hej];exact Ev1.bind (iQ hJ.jk.2) (Ev1.neg rfl (Ev1.pos rfl (Ev1.bind hd (Ev1.pos rfl (Ev1.bind hst (Ev1.negD hql (Ev1.bind hee (Ev1.pos rfl (Ev1.bind ha (Ev1.pos rfl (Ev1.negD (by simp) this)))))))))))
 ·have:=tailE 12 c';rw[hjb]at this;refine .inr (.inr ⟨c',Ev1.step st (Ev1.pos rfl ?_),hq,⟨t,bs,rs,_,sb,evs,hD,hS,by omega,.inr ⟨e,rfl,he,rfl⟩⟩,hL,λu hu=>(hca u hu).elim⟩);simp only[M4];rw[hej];exact Ev1.bind (iQ hJ.jk.2) (Ev1.neg rfl (Ev1.pos rfl (Ev1.bind hd (Ev1.pos rfl (Ev1.bind hst (Ev1.negD hql (Ev1.bind hee (Ev1.pos rfl (Ev1.bind ha (Ev1.pos rfl (Ev1.negD (show ¬ (some (12:Int)=some 8) by decide) this)))))))))))
end Go.Eng.Top
namespace Go.Eng.Top
open Go.RowKit Go.Eng Go.Eng.LVar Go.Eng.LCrc Go.Eng.LFrm
set_option maxRecDepth 100000
inductive Rch (A:ae->Prop):ab->List dw->List aD->Prop
 |zero:Rch A s0 [] []
 |ask {s:ab} {said:List dw} {done:List aD} (r:ae):A r->Rch A s said done->Rch A (doF s (0,r,0,false)).1 (said++[(r,(doF s (0,r,0,false)).2)]) (done++[(0,r,0,false)])
 |lost {s:ab} {said:List dw} {done:List aD} (r:ae) (o:ah):A r->(o.1=8\/o.1=12)->Rch A s said done->Rch A s (said++[(r,o)]) done
 |kept {s:ab} {said:List dw} {done:List aD} (r:ae) (o:ah):A r->o.1=12->Rch A s said done->Rch A (doF s (0,r,0,false)).1 (said++[(r,o)]) (done++[(0,r,0,false)])
 |ev {s:ab} {said:List dw} {done:List aD} (e:aD):evR e->e.1≠0->Rch A s said done->Rch A (doF s e).1 said (done++[e])
theorem Rch.said {A:ae->Prop}{s:ab}{said:List dw}{done:List aD}(h:Rch A s said done):∀x∈said,A x.1:=by
 induction h with
 |zero=>intro x hx;cases hx
 |ask r ha _ ih=>intro x hx;rcases Nb.1 hx with hx|hx;exact ih x hx;rw[Nq.1 hx];exact ha
 |lost r o ha _ _ ih=>intro x hx;rcases Nb.1 hx with hx|hx;exact ih x hx;rw[Nq.1 hx];exact ha
 |kept r o ha _ _ ih=>intro x hx;rcases Nb.1 hx with hx|hx;exact ih x hx;rw[Nq.1 hx];exact ha
 |ev e _ _ _ ih=>exact ih
theorem L4 {s:ab}(h:Inv s)(r:ae):okO (askF s.2.2.2.1 r).1:=by
 unfold askF;cases hf:fnd r.1 s.2.2.2.1 with
 |none=>exact mg (by omega)
 |some i=>
  obtain⟨hi,_⟩:=ic hf;dsimp only;split
  ·split
   ·rw[ba _ _ _ hi];exact(h.kr _ (NF hi)).2
   ·exact kY (by omega)
  ·exact kY (by omega)
theorem MB {s:ab}(h:Inv s)(e:aD)(he:evR e):okO (doF s e).2:=by
 obtain⟨i1,i2⟩:=yh he;unfold doF;split
 ·unfold subF;split
  ·exact kY (by omega)
  split
  ·exact L4 h _
  split
  ·exact kY (by omega)
  have hp:∀c,(putF s.2.2.2.1 e.2.1).2=some c->c=5\/c=7:=by
   intro c hc;unfold putF at hc;split at hc
   ·cases hc;exact .inl rfl
   ·split at hc
    ·cases hc;exact .inr rfl
    ·cases hc
  cases hq:(putF s.2.2.2.1 e.2.1).2 with
  |some c=>dsimp only;exact kY (by rcases hp c hq with h|h<;>omega)
  |none=>
   dsimp only;split
   ·obtain⟨q1,q2⟩:=Ea h.op e.2.1;cases hc:(resF s e.2.1).2 with
    |some c=>dsimp only;exact kY (q2 c hc)
    |none=>dsimp only;exact kY (by omega)
   ·rename_i hm _ _ hl;have hmt:mayB e.2.1=true:=by cases hq:mayB e.2.1 with|true=>rfl|false=>exact(hm hq).elim
    exact(A6 h.op e.2.1 (λh3=>⟨i2,(uT hmt).2 h3,(uT hmt).1⟩) (EM hm)).2
 split
 ·unfold tY;cases hf:fndG e.2.2.1 s.2.2.1 with
  |none=>exact kY (by omega)
  |some i=>
   have hi:=ri hf;dsimp only;split
   ·rename_i h1;rw[ba _ _ _ hi]at h1 ⊢;have hg:=(h.gr _ (NF hi)).2.2.2;show okO ((s.2.2.1[i]).2.2.2.2,0);exact kY (by omega)
   split
   ·obtain⟨q1,q2⟩:=pL h.op (s.2.2.1.getD i zG).1;cases hc:(oQ s (s.2.2.1.getD i zG).1).2 with
    |none=>exact mg (by omega)
    |some c=>exact kY (by omega)
   ·exact kY (by omega)
 split
 ·exact mg (by omega)
 ·exact kY (by omega)
theorem Al.lens {W W':WC}(h:Al W)(hwd:W'.wd=W.wd)(hwe:W'.we.length=W.we.length)(hws:W'.ws.length=W.ws.length)(hwn:W'.wn.length=W.wn.length)(hwr:W'.wr.length=W.wr.length)(hww:W'.ww.length=W.ww.length)(hwo:W'.wo.length=W.wo.length)(hes:W'.es.length=W.es.length)(hej:W'.ej=W.ej)(hL:Lens W.c W'.c):Al W':=
 ⟨by rw[hwe,hwd];exact h.we,by rw[hws,hwd];exact h.ws,by rw[hwn,hwd];exact h.wn,by rw[hwr,hwd];exact h.wr,by rw[hww,hwd];exact h.ww,by rw[hwo,hwd];exact h.wo,by rw[hes,hej];exact h.es,by rw[hL.jt,hL.jd];exact h.jt,by rw[hL.jb,hL.jd];exact h.jb,by rw[hL.jr,hL.jd];exact h.jr,by rw[hL.jk,hL.jd];exact h.jk,by rw[hL.R,hL.F];exact h.R,by rw[hL.L,hL.F];exact h.L,by rw[hL.S,hL.F];exact h.S⟩
structure WB (W:WC)(w x d n:Nat)(said:List dw)(done o:List aD):Prop where
 wd:W.wd.getD w none=some d
 we:w<W.we.length/\W.we.getD w none=some x
 ws:w<W.ws.length/\W.ws.getD w []=said
 wn:w<W.wn.length/\W.wn.getD w []=done
 nl:done.length<=n/\said.length<=n
 wr:w<W.wr.length/\W.wr.getD w none=none
 ww:w<W.ww.length
 wo:w<W.wo.length/\W.wo.getD w []=o
 al:Al W
structure WG (W:WC)(w x j d rho T n:Nat)(s:ab)(said:List dw)(done:List aD):Prop where
 b:WB W w x d n said done []
 ej:W.ej.getD x none=some j
 es:x<W.es.length/\W.es.getD x zT=s
 de:DE W.c j d rho T s
structure WX (W:WC)(w x d rho T n:Nat)(s s':ab)(said:List dw)(done o:List aD):Prop where
 b:WB W w x d n said done o
 dx:DX W.c d rho T s s'
 o:(o=[]/\s'=s)\/∃e,o=[e]/\evR e/\s'=(doF s e).1/\s'≠s/\W.ww.getD w zT=s
theorem WB.mono {W:WC}{w x d n n':Nat}{said:List dw}{done o:List aD}(h:WB W w x d n said done o)(hn:n<=n'):WB W w x d n' said done o:=
 ⟨h.wd,h.we,h.ws,h.wn,⟨Ns h.nl.1 hn,Ns h.nl.2 hn⟩,h.wr,h.ww,h.wo,h.al⟩
theorem WG.mono {W:WC}{w x j d rho T T' n n':Nat}{s:ab}{said:List dw}{done:List aD}(h:WG W w x j d rho T n s said done)(hT:T<=T')(hn:n<=n'):WG W w x j d rho T' n' s said done:=⟨h.b.mono hn,h.ej,h.es,h.de.mono hT⟩
theorem iw {W:WC}{w x j d rho T n:Nat}{s:ab}{said:List dw}{done:List aD}(h:WG W w x j d rho T n s said done):Ev1 (λk=>CF k kx eZ [inj (.ref 29) (W.wd.getD w none),Cl W.c.S]) (false,W.c.S):=by
 obtain⟨t,bs,rs,sb,evs,hJ,_⟩:=h.de;rw[h.b.wd];refine Ev1.step (λk=>oJ k (some d) W.c.S) (Ev1.pos rfl (Ev1.const ?_));show some (W.c.S.getD d false,W.c.S)=_;rw[hJ.dg.live]
theorem wi {W:WC}{w x d rho T n:Nat}{s s':ab}{said:List dw}{done o:List aD}(h:WX W w x d rho T n s s' said done o):Ev1 (λk=>CF k kx eZ [inj (.ref 29) (W.wd.getD w none),Cl W.c.S]) (true,W.c.S):=by
 obtain⟨t,bs,rs,p,sb,evs,hD,_⟩:=h.dx;rw[h.b.wd];refine Ev1.step (λk=>oJ k (some d) W.c.S) (Ev1.pos rfl (Ev1.const ?_));show some (W.c.S.getD d false,W.c.S)=_;rw[hD.stop]
theorem Ly {x y:List Int}(hx:x.length<=16384)(hy:y.length<=16384)(h:fr x=fr y):x=y:=by
 have h1:=A7 x [] hx;have h2:=A7 y [] hy;rw[h,h2]at h1;exact(Pj h1).symm
noncomputable abbrev LZ (k w:Nat)(keep:Int)(W:WC):=CF k CQ ny [inj (.ref 26) (some w),inj (.int .i64) keep,Ca W.wd,Cb W.we,Cd W.wn,Ce W.wc,Cf W.wr,Cg W.ww,Ch W.wo,Ci W.c.F,Ck W.c.L,Cl W.c.S,Cm W.ej,Cn W.es,Co W.c.jd,Cp W.c.jt,Cq W.c.jb,Cr W.c.jr,Cs W.c.jk,Ct W.c.B,Cu W.c.sf]
abbrev outG (W:WC):R4:=(W.wd,W.we,W.wn,W.wc,W.wr,W.ww,W.wo,W.c.F,W.c.L,W.c.S,W.ej,W.es,W.c.jd,W.c.jt,W.c.jb,W.c.jr,W.c.jk,W.c.B,W.c.sf)
theorem rS (W:WC){w x d rho T n:Nat}{s s':ab}{said:List dw}{done o:List aD}(h:WX W w x d rho T n s s' said done o)(keep:Int)(hT:T<=1000000)(hn:n<=90000):
  ∃we wn wc wr wo ej es F L S jd jt jb jr jk B sf x' j' s2 done2,Ev1 (λk=>LZ k w keep W) (outG ⟨W.wd,we,W.ws,wn,wc,wr,W.ww,wo,ej,es,⟨F,W.c.R,L,S,jd,jt,jb,jr,jk,B,sf⟩⟩) /\
   WG ⟨W.wd,we,W.ws,wn,wc,wr,W.ww,wo,ej,es,⟨F,W.c.R,L,S,jd,jt,jb,jr,jk,B,sf⟩⟩ w x' j' d rho T (n+1) s2 said done2/\((s2=s/\done2=done)\/∃e,o=[e]/\s2=(doF s e).1/\done2=done++[e]):=by
 obtain⟨t,bs,rs,p,sb,evs,hD,hS,htT,hp⟩:=h.dx;obtain⟨B',sf',rs',p',hrest,hrs,hRS⟩:=D8 hD keep;have hRS:=hRS W.c.jd W.c.jt W.c.jb W.c.jr W.c.jk
 -- the state behind it
 have hsrc:∃s2 evs2,Src t bs rs' s2 sb evs2/\(s2=s\/s2=s'):=by
  rcases hrs with hrs|⟨e0,hp0,hrs⟩
  ·exact⟨s,evs,by rw[hrs];exact hS,.inl rfl⟩
  ·rcases hp with hp|⟨e,hp,he,hs'⟩
   ·rw[hp]at hp0;have:=congrArg List.length hp0;rw[iN]at this;simp at this;omega
   ·have hl0:e0.length<=80:=(hRS.rcs e0 (by rw[hrs];simp)).2;have:=(Ie he).2;have heq:e0=encE e:=Ly (by omega) (by omega) (hp0.symm.trans hp);rw[hrs,heq];exact⟨(doF s e).1,evs++[e],hS.snoc he,.inr hs'⟩
 obtain⟨s2,evs2,hS2,hs2⟩:=hsrc;obtain⟨c',ho,hJ,hL⟩:=Gf hRS h.b.al.jt h.b.al.jb h.b.al.jr h.b.al.jk (by omega) W.ej W.es h.b.al.es hS2;obtain⟨F,R,L,S,jd,jt,jb,jr,jk,B,sf⟩:=c';have hR:R=W.c.R:=hL.R;subst hR;have hinv2:=hS2.invS;have hwe:(W.we.set w (some W.ej.length)).getD w none=some W.ej.length:=ai _ _ _ _ h.b.we.1;have hst:Ev1 (λk=>CF k fN bW [inj (.ref 30) ((W.we.set w (some W.ej.length)).getD w none),Cn (W.es++[s2])]) (s2,W.es++[s2]):=by
  rw[hwe];exact eev (aP _ _ _ h.b.al.es.symm)
 have hal:∀wn':List (List aD),wn'.length=W.wn.length->Al ⟨W.wd,W.we.set w (some W.ej.length),W.ws,wn',W.wc.set w (w64 (W.wc.getD w 0+1)),W.wr.set w none,W.ww,W.wo.set w [],W.ej++[some W.c.jd.length],W.es++[s2],⟨F,W.c.R,L,S,jd,jt,jb,jr,jk,B,sf⟩⟩:=λwn' h1=>by
  have e0:jd=W.c.jd++[some d]:=hL.jd;have e1:jt.length=W.c.jt.length+1:=hL.jt;have e2:jb.length=W.c.jb.length+1:=hL.jb;have e3:jr.length=W.c.jr.length+1:=hL.jr;have e4:jk.length=W.c.jk.length+1:=hL.jk;have e5:F.length=W.c.F.length:=hL.F;have e6:L.length=(W.c.L.set d (-1)).length:=congrArg List.length hL.L;have e7:S.length=(W.c.S.set d false).length:=congrArg List.length hL.S;have al:=h.b.al;constructor
  all_goals dsimp only
  ·rw[MQ];exact al.we
  ·exact al.ws
  ·rw[h1];exact al.wn
  ·rw[MQ];exact al.wr
  ·exact al.ww
  ·rw[MQ];exact al.wo
  ·simp[al.es]
  ·rw[e0,e1,al.jt];simp
  ·rw[e0,e2,al.jb];simp
  ·rw[e0,e3,al.jr];simp
  ·rw[e0,e4,al.jk];simp
  ·rw[e5];exact al.R
  ·rw[e5,e6,MQ];exact al.L
  ·rw[e5,e7,MQ];exact al.S
 have base:∀wn' done',wn'.length=W.wn.length->wn'.getD w []=done'->done'.length<=n+1 ->
   WG ⟨W.wd,W.we.set w (some W.ej.length),W.ws,wn',W.wc.set w (w64 (W.wc.getD w 0+1)),W.wr.set w none,W.ww,W.wo.set w [],W.ej++[some W.c.jd.length],W.es++[s2],⟨F,W.c.R,L,S,jd,jt,jb,jr,jk,B,sf⟩⟩ w W.ej.length W.c.jd.length d rho T (n+1) s2 said done':=λwn' done' h1 h2 h3=>
  ⟨⟨h.b.wd,⟨by rw[MQ];exact h.b.we.1,hwe⟩,h.b.ws,⟨by rw[h1];exact h.b.wn.1,h2⟩,⟨h3,by have:=h.b.nl.2;omega⟩,⟨by rw[MQ];exact h.b.wr.1,ai _ _ _ _ h.b.wr.1⟩,h.b.ww,⟨by rw[MQ];exact h.b.wo.1,ai _ _ _ _ h.b.wo.1⟩,
   hal wn' h1⟩,bj _ _ _,⟨by simp[h.b.al.es],aP _ _ _ h.b.al.es.symm⟩,⟨t,bs,rs',sb,evs2,hJ,hS2,htT⟩⟩
 have hdn:=h.b.nl.1
 -- the events that may have been done
 have loop:∃wn' done2,Ev2 (λk m=>fL k m (some w) w (((W.wo.getD w []).length:Nat):Int) (0:Int) W.wd (W.we.set w (some W.ej.length)) W.wn (W.wc.set w (w64 (W.wc.getD w 0+1))) (W.wr.set w none) W.ww W.wo F L S (W.ej++[some W.c.jd.length]) (W.es++[s2]) jd jt jb jr jk B sf)
   (outG ⟨W.wd,W.we.set w (some W.ej.length),W.ws,wn',W.wc.set w (w64 (W.wc.getD w 0+1)),W.wr.set w none,W.ww,W.wo.set w [],W.ej++[some W.c.jd.length],W.es++[s2],⟨F,W.c.R,L,S,jd,jt,jb,jr,jk,B,sf⟩⟩)/\wn'.length=W.wn.length/\wn'.getD w []=done2/\done2.length<=n+1/\((s2=s/\done2=done)\/∃e,o=[e]/\s2=(doF s e).1/\done2=done++[e]):=by
  have ends:∀(wn':List (List aD)) (N:Nat),Ev2 (λk m=>fL k m (some w) w (N:Int) (N:Int) W.wd (W.we.set w (some W.ej.length)) wn' (W.wc.set w (w64 (W.wc.getD w 0+1))) (W.wr.set w none) W.ww W.wo F L S (W.ej++[some W.c.jd.length]) (W.es++[s2]) jd jt jb jr jk B sf)
    (outG ⟨W.wd,W.we.set w (some W.ej.length),W.ws,wn',W.wc.set w (w64 (W.wc.getD w 0+1)),W.wr.set w none,W.ww,W.wo.set w [],W.ej++[some W.c.jd.length],W.es++[s2],⟨F,W.c.R,L,S,jd,jt,jb,jr,jk,B,sf⟩⟩):=λwn' N=>
   Ev2.step (λk m=>oC k m (some w) w (N:Int) (N:Int) W.wd _ wn' _ _ W.ww W.wo F L S _ _ jd jt jb jr jk B sf _ rfl _ rfl _ rfl _ rfl) (Ev2.negD (by omega) (Ev2.pos rfl (Ev2.now _)))
  rw[h.b.wo.2];rcases h.o with⟨ho0,hs0⟩|⟨e,ho0,heR,hs0,hne,hww⟩
  ·subst ho0;exact⟨W.wn,done,ends W.wn 0,rfl,h.b.wn.2,by omega,.inl ⟨by rcases hs2 with h|h;exact h;exact h.trans hs0,rfl⟩⟩
  ·subst ho0;have hs:Inv s:=hS.invS;have hi:=(tE hs e (yh heR).2).1;have hdo:=Gh hs e;have hcd:encs (stL (doF s e).1)=encs (stL s2) ↔ (doF s e).1=s2:=⟨λh=>DQ (rB (nh hi.st) (nh hinv2.st) h),λh=>by rw[h]⟩
   have st:=λk m=>oC k m (some w) w (([e]:List aD).length:Int) (0:Int) W.wd (W.we.set w (some W.ej.length)) W.wn (W.wc.set w (w64 (W.wc.getD w 0+1))) (W.wr.set w none) W.ww W.wo F L S (W.ej++[some W.c.jd.length]) (W.es++[s2]) jd jt jb jr jk B sf (1:Int) (by rw[aO (by omega)];rfl) [e] h.b.wo.2.symm done h.b.wn.2.symm e rfl
   by_cases hq:(doF s e).1=s2
   ·refine⟨W.wn.set w (done++[e]),done++[e],Ev2.step st (Ev2.posD (by simp) (Ev2.pos rfl (Ev2.pos rfl ?_))),MQ,ai _ _ _ _ h.b.wn.1,by rw[MN];simp only[MR,M3];omega,.inr ⟨e,rfl,hq.symm,rfl⟩⟩;simp only[M4];rw[show W.ww.getD w ([],[],[],[],(0:Int))=s from hww];refine Ev2.bind hdo (Ev2.bind (iV _ hi.st) (Ev2.pos rfl (Ev2.bind hst (Ev2.bind (iV _ hinv2.st) (Ev2.pos ?_ (Ev2.pos rfl (Ev2.posD ?_ (Ev2.pos rfl (Ev2.pos (by simp) (ends _ 1))))))))))
    ·exact MY (hcd.2 hq)
    ·simp only[MR,M3];omega
   ·have h2:s2=s:=by rcases hs2 with h|h;exact h;exact(hq (hs0.symm.trans h.symm)).elim
    refine⟨W.wn,done,Ev2.step st (Ev2.posD (by simp) (Ev2.pos rfl (Ev2.pos rfl ?_))),rfl,h.b.wn.2,by omega,.inl ⟨h2,rfl⟩⟩;simp only[M4];rw[show W.ww.getD w ([],[],[],[],(0:Int))=s from hww];refine Ev2.bind hdo (Ev2.bind (iV _ hi.st) (Ev2.pos rfl (Ev2.bind hst (Ev2.bind (iV _ hinv2.st) (Ev2.neg ?_ (ends _ 1))))));exact MT (λh=>hq (hcd.1 h))
 obtain⟨wn',done2,hlp,hw1,hw2,hw3,hw4⟩:=loop;refine⟨_,wn',_,_,_,_,_,F,L,S,jd,jt,jb,jr,jk,B,sf,_,_,s2,done2,?_,base wn' done2 hw1 hw2 hw3,hw4⟩;refine Ev1.step (λk=>CX k (some w) keep W.wd W.we W.wn W.wc W.wr W.ww W.wo W.c.F W.c.L W.c.S W.ej W.es W.c.jd W.c.jt W.c.jb W.c.jr W.c.jk W.c.B W.c.sf _ rfl) (Ev1.pos rfl (Ev1.pos rfl (Ev1.pos rfl ?_)));simp only[M4];rw[h.b.wd];refine Ev1.bind hrest (Ev1.pos rfl ?_);dsimp only;refine Ev1.bind ho (Ev1.pos rfl (Ev1.pos rfl (Ev1.pos rfl (Ev1.neg ?_ (Ev1.pos rfl hlp.diag)))));dsimp only;rw[ai _ _ _ _ h.b.wr.1];rfl
theorem Gg (W:WC){w x j d rho T n:Nat}{s:ab}{said:List dw}{done:List aD}(h:WG W w x j d rho T n s said done)(e:aD)(he:evR e)(hsm:(encs (stL s)).length<=16000)(hT:T<1000000)(hn:n<=90000):
  ∃o wn ww wo es c,Ev1 (λk=>Iq k w e W) (outD o ⟨W.wd,W.we,W.ws,wn,W.wc,W.wr,ww,wo,W.ej,es,c⟩) /\
   ((o=(doF s e).2/\WG ⟨W.wd,W.we,W.ws,wn,W.wc,W.wr,ww,wo,W.ej,es,c⟩ w x j d rho (T+1) (n+1) (doF s e).1 said (done++[e])/\∀u,Calm W.c d u->u+86<=rho->Calm c d (u+86)) \/
    (o=(8,0)/\WG ⟨W.wd,W.we,W.ws,wn,W.wc,W.wr,ww,wo,W.ej,es,c⟩ w x j d rho (T+1) (n+1) s said done/\∀u,Calm W.c d u->rho<u+86) \/
    (o=(12,0)/\WX ⟨W.wd,W.we,W.ws,wn,W.wc,W.wr,ww,wo,W.ej,es,c⟩ w x d rho (T+1) (n+1) s (doF s e).1 said done [e]/\∀u,Calm W.c d u->rho<u+86)):=by
 have hinv:=h.de.inv;obtain⟨h8,h12⟩:=(MB hinv e he).2.2;have hst:Ev1 (λk=>CF k fN bW [inj (.ref 30) (W.we.getD w none),Cn W.es]) (s,W.es):=by rw[h.b.we.2];exact eev h.es.2
 have hnl:=h.b.nl;have stp:=λk=>FL k (some w) e W.we W.wn W.ww W.wo W.c.F W.c.R W.c.L W.c.S W.ej W.es W.c.jd W.c.jt W.c.jb W.c.jr W.c.jk W.c.B W.c.sf _ rfl _ rfl
 have go:∀{o:ah} {c':DC} {es':List ab} {g:Nat->R9->Option R6} {r:R6},Ev1 (λk=>tJ k x e W.ej W.es W.c) (rW o c' W.ej es')->Ev1 (λk=>g k (rW o c' W.ej es')) r ->
   Ev1 (λk=>(CF k FD uN [inj (.ref 30) (W.we.getD w none),inj aH e,Ci W.c.F,Cj W.c.R,Ck W.c.L,Cl W.c.S,Cm W.ej,Cn W.es,Co W.c.jd,Cp W.c.jt,Cq W.c.jb,Cr W.c.jr,Cs W.c.jk,Ct W.c.B,Cu W.c.sf]).bind (g k)) r:=λ{o c' es' g r} hd hg=>by
  rw[h.b.we.2];exact Ev1.bind hd hg
 rcases MD W.c h.de h.ej h.es.1 h.es.2 e he hsm hT with⟨c',hd,hE,hL,hca⟩|⟨c',hd,hE,hL,hca⟩|⟨c',hd,hne,hX,hL,hca⟩
 ·refine⟨(doF s e).2,W.wn.set w (W.wn.getD w []++[e]),W.ww.set w s,W.wo,W.es.set x (doF s e).1,c',Ev1.step stp (Ev1.pos rfl (Ev1.bind hst (Ev1.pos rfl (Ev1.pos rfl (go hd ?_))))),.inl ⟨rfl,⟨⟨h.b.wd,h.b.we,h.b.ws,⟨by dsimp only;rw[MQ];exact h.b.wn.1,by dsimp only;rw[ai _ _ _ _ h.b.wn.1,h.b.wn.2]⟩,⟨by rw[MN];simp only[MR,M3];omega,by omega⟩,h.b.wr,by dsimp only;rw[MQ];exact h.b.ww,h.b.wo,h.b.al.lens rfl rfl rfl MQ rfl MQ rfl MQ rfl hL⟩,h.ej,⟨by dsimp only;rw[MQ];exact h.es.1,ai _ _ _ _ h.es.1⟩,hE⟩,hca⟩⟩;exact Ev1.negD h12 (Ev1.negD h8 (Ev1.pos rfl (Ev1.posD (by simp only[M4,MR,M3];rw[h.b.wn.2];omega) (Ev1.pos rfl (Ev1.pos (by simp) (Ev1.now _))))))
 ·refine⟨(8,0),W.wn,W.ww.set w s,W.wo,W.es,c',Ev1.step stp (Ev1.pos rfl (Ev1.bind hst (Ev1.pos rfl (Ev1.pos rfl (go hd ?_))))),.inr (.inl ⟨rfl,⟨⟨h.b.wd,h.b.we,h.b.ws,h.b.wn,⟨by omega,by omega⟩,h.b.wr,by dsimp only;rw[MQ];exact h.b.ww,h.b.wo,h.b.al.lens rfl rfl rfl rfl rfl MQ rfl rfl rfl hL⟩,h.ej,h.es,hE⟩,hca⟩)⟩;exact Ev1.negD (show ¬ (8:Int)=12 by omega) (Ev1.posD rfl (Ev1.now _))
 ·refine⟨(12,0),W.wn,W.ww.set w s,W.wo.set w (W.wo.getD w []++[e]),W.es,c',Ev1.step stp (Ev1.pos rfl (Ev1.bind hst (Ev1.pos rfl (Ev1.pos rfl (go hd ?_))))),.inr (.inr ⟨rfl,⟨⟨h.b.wd,h.b.we,h.b.ws,h.b.wn,⟨by omega,by omega⟩,h.b.wr,by dsimp only;rw[MQ];exact h.b.ww,⟨by dsimp only;rw[MQ];exact h.b.wo.1,by dsimp only;rw[ai _ _ _ _ h.b.wo.1,h.b.wo.2];rfl⟩,h.b.al.lens rfl rfl rfl rfl rfl MQ MQ rfl rfl hL⟩,hX,.inr ⟨e,rfl,he,rfl,hne,ai _ _ _ _ h.b.ww⟩⟩,hca⟩)⟩;exact Ev1.posD rfl (Ev1.pos rfl (Ev1.posD (by simp only[M4,MR,M3];rw[h.b.wo.2];simp) (Ev1.pos rfl (Ev1.pos (by simp) (Ev1.now _)))))
theorem L5 (W:WC){w x j d rho T n:Nat}{s:ab}{said:List dw}{done:List aD}(h:WG W w x j d rho T n s said done)(r:ae)(he:evR (0,r,0,false))(hsm:(encs (stL s)).length<=16000)(hT:T<1000000)(hn:n<=90000):
  ∃o ws wn ww wo es c,Ev1 (λk=>KC k w r W) (outK ⟨W.wd,W.we,ws,wn,W.wc,W.wr,ww,wo,W.ej,es,c⟩) /\
   ((o=(doF s (0,r,0,false)).2/\WG ⟨W.wd,W.we,ws,wn,W.wc,W.wr,ww,wo,W.ej,es,c⟩ w x j d rho (T+1) (n+1) (doF s (0,r,0,false)).1 (said++[(r,o)]) (done++[(0,r,0,false)])/\∀u,Calm W.c d u->u+86<=rho->Calm c d (u+86)) \/
    (o=(8,0)/\WG ⟨W.wd,W.we,ws,wn,W.wc,W.wr,ww,wo,W.ej,es,c⟩ w x j d rho (T+1) (n+1) s (said++[(r,o)]) done/\∀u,Calm W.c d u->rho<u+86) \/
    (o=(12,0)/\WX ⟨W.wd,W.we,ws,wn,W.wc,W.wr,ww,wo,W.ej,es,c⟩ w x d rho (T+1) (n+1) s (doF s (0,r,0,false)).1 (said++[(r,o)]) done [(0,r,0,false)]/\∀u,Calm W.c d u->rho<u+86)):=by
 obtain⟨o,wn,ww,wo,es,c,hd,hc⟩:=Gg W h (0,r,0,false) he hsm hT hn;have hnl:=h.b.nl;have mk:∀{done' o':List aD},WB ⟨W.wd,W.we,W.ws,wn,W.wc,W.wr,ww,wo,W.ej,es,c⟩ w x d (n+1) said done' o'->WB ⟨W.wd,W.we,W.ws.set w (W.ws.getD w []++[(r,o)]),wn,W.wc,W.wr,ww,wo,W.ej,es,c⟩ w x d (n+1) (said++[(r,o)]) done' o':=λ{done' o'} b=>
  ⟨b.wd,b.we,⟨by dsimp only;rw[MQ];exact h.b.ws.1,by dsimp only;rw[ai _ _ _ _ h.b.ws.1,h.b.ws.2]⟩,b.wn,⟨b.nl.1,by rw[MN];simp only[MR,M3];omega⟩,b.wr,b.ww,b.wo,b.al.lens rfl rfl MQ rfl rfl rfl rfl rfl rfl (Lens.refl _)⟩
 refine⟨o,W.ws.set w (W.ws.getD w []++[(r,o)]),wn,ww,wo,es,c,Ev1.step (λk=>H2 k (some w) r W.we W.ws W.wn W.ww W.wo W.c.F W.c.R W.c.L W.c.S W.ej W.es W.c.jd W.c.jt W.c.jb W.c.jr W.c.jk W.c.B W.c.sf _ rfl) (Ev1.pos rfl (Ev1.bind hd (Ev1.posD ?_ (Ev1.pos rfl (Ev1.pos (by simp) (Ev1.now _)))))),?_⟩
 ·simp only[M4];rw[h.b.ws.2];simp only[MR,M3];omega
 ·rcases hc with⟨ho,hG,hca⟩|⟨ho,hG,hca⟩|⟨ho,hX,hca⟩
  ·exact .inl ⟨ho,⟨mk hG.b,hG.ej,hG.es,hG.de⟩,hca⟩
  ·exact .inr (.inl ⟨ho,⟨mk hG.b,hG.ej,hG.es,hG.de⟩,hca⟩)
  ·exact .inr (.inr ⟨ho,⟨mk hX.b,hX.dx,hX.o⟩,hca⟩)
end Go.Eng.Top
namespace Go.Eng.Top
open Go.RowKit Go.Eng Go.Eng.LVar Go.Eng.LCrc Go.Eng.LFrm
set_option maxRecDepth 100000
theorem Dy {s:ab}(h:Inv s){q:Int}(hq:q∈jE s):0<=q/\q<1073741824:=by
 obtain⟨g,hg,e⟩:=Nt.1 hq;have:=(h.gr g hg).1;rw[<- e];unfold mayB at this;split at this
 ·cases this
 ·omega
theorem JG.arm {c:DC}{j d rho t:Nat}{bs:List Int}{rs:List (List Int)}(h:JG c j d rho t bs rs){L':List Int}(hL:OkL L' d):JG ⟨c.F,c.R,L',c.S,c.jd,c.jt,c.jb,c.jr,c.jk,c.B,c.sf⟩ j d rho t bs rs:=
 ⟨h.dg.next rfl hL,h.jd,h.jt,h.jb,h.jr,h.jk,h.bsf,h.files,h.sum,h.rcs,h.tb⟩
structure AOj (a:aD):Prop where
 kind:0<=a.1/\a.1<=5
 n:0<=a.2.2.1/\a.2.2.1<=1000000
section
variable {A:ae->Prop} (hAR:∀r,A r->mayB r=true/\I64 (rqL r))(hsm:∀{s:ab} {said:List dw} {done:List aD},Rch A s said done->(encs (stL s)).length<=16000)
include hAR hsm
theorem MG (W:WC){w x j d rho T n:Nat}{s:ab}{said:List dw}{done:List aD}(h:WG W w x j d rho T n s said done)(hR:Rch A s said done)(a:aD)(ha:AOj a)(hA:a.1=0->A a.2.1)(keep:Int)(hT:T<999990)(hn:n<=89000):
  ∃W' x' j' s' said' done',Ev1 (λk=>KD k w a keep W) (outW W')/\WG W' w x' j' d rho (T+1) (n+2) s' said' done'/\Rch A s' said' done'/\(a.1<=3->∀u,Calm W.c d u->u+86<=rho->Calm W'.c d (u+86)/\(s',said')=actF (s,said) a):=by
 have hwr:(W.wr.getD w none).isSome=false:=by rw[h.b.wr.2];rfl
 have step:=λk=>H3 k (some w) a keep W.wd W.we W.ws W.wn W.wc W.wr W.ww W.wo W.c.F W.c.R W.c.L W.c.S W.ej W.es W.c.jd W.c.jt W.c.jb W.c.jr W.c.jk W.c.B W.c.sf said (by simp only[M4];exact h.b.ws.2.symm) _ rfl _ rfl
 have hsl:=h.b.nl.2;have hinv:=h.de.inv;have hsmall:=hsm hR;have evA:∀r,A r->evR (0,r,0,false):=λr hr=>.inl ⟨rfl,(hAR r hr).1,(hAR r hr).2,rfl⟩
 by_cases k0:a.1=0
 ·have hr:=hA k0;obtain⟨o,ws,wn,ww,wo,es,c,hk,hc⟩:=L5 W h a.2.1 (evA _ hr) hsmall (by omega) (by omega);rcases hc with⟨ho,hG,hca⟩|⟨ho,hG,hca⟩|⟨ho,hX,hca⟩
  ·subst ho;refine⟨_,x,j,_,_,_,Ev1.step step (Ev1.pos rfl (Ev1.neg hwr (Ev1.posD k0 (Ev1.bind hk (Ev1.pos rfl (Ev1.bind (iw hG) (Ev1.neg rfl (Ev1.now (outW ⟨W.wd,W.we,ws,wn,W.wc,W.wr,ww,wo,W.ej,es,c⟩))))))))),hG.mono (MW _) (by omega),Rch.ask _ hr hR,λ_ u h1 h2=>⟨hca u h1 h2,?_⟩⟩;unfold actF askS;rw[MZ k0]
  ·subst ho;exact⟨_,x,j,_,_,_,Ev1.step step (Ev1.pos rfl (Ev1.neg hwr (Ev1.posD k0 (Ev1.bind hk (Ev1.pos rfl (Ev1.bind (iw hG) (Ev1.neg rfl (Ev1.now (outW ⟨W.wd,W.we,ws,wn,W.wc,W.wr,ww,wo,W.ej,es,c⟩))))))))),hG.mono (MW _) (by omega),Rch.lost _ _ hr (.inl rfl) hR,λ_ u h1 h2=>by have:=hca u h1;omega⟩
  ·subst ho;obtain⟨we2,wn2,wc2,wr2,wo2,ej2,es2,F,L,S,jd,jt,jb,jr,jk,B,sf,x',j',s2,done2,hag,hG2,hcs⟩:=rS _ hX keep (by omega) (by omega);refine⟨_,x',j',s2,_,done2,Ev1.step step (Ev1.pos rfl (Ev1.neg hwr (Ev1.posD k0 (Ev1.bind hk (Ev1.pos rfl (Ev1.bind (wi hX) (Ev1.pos rfl (Ev1.bind hag (Ev1.now (outW ⟨W.wd,we2,ws,wn2,wc2,wr2,ww,wo2,ej2,es2,⟨F,c.R,L,S,jd,jt,jb,jr,jk,B,sf⟩⟩)))))))))),hG2.mono (MW _) (by omega),?_,λ_ u h1 h2=>by have:=hca u h1;omega⟩;rcases hcs with⟨e1,e2⟩|⟨e,e0,e1,e2⟩
   ·rw[e1,e2];exact Rch.lost _ _ hr (.inr rfl) hR
   ·cases e0;rw[e1,e2];exact Rch.kept _ _ hr rfl hR
 by_cases k1:a.1=1
 ·by_cases hs:0<(said.length:Int)
  ·have hm:=DL ha.n.1 hs;have hmem:=BC said zS hm;have hr:=hR.said _ hmem;obtain⟨o,ws,wn,ww,wo,es,c,hk,hc⟩:=L5 W h (said.getD (Int.toNat (Int.tmod a.2.2.1 (said.length:Int))) zS).1 (evA _ hr) hsmall (by omega) (by omega);have hz:(!decide ((said.length:Int)=0))=true:=by rw[MT (show ¬ ((said.length:Int)=0) by omega)];rfl
   rcases hc with⟨ho,hG,hca⟩|⟨ho,hG,hca⟩|⟨ho,hX,hca⟩
   ·subst ho;refine⟨_,x,j,_,_,_,Ev1.step step (Ev1.pos rfl (Ev1.neg hwr (Ev1.negD k0 (Ev1.posD k1 (Ev1.pos rfl (Ev1.posD hs (Ev1.pos rfl (Ev1.pos rfl (Ev1.pos hz (Ev1.pos (ak hm.1 hm.2) (Ev1.bind hk (Ev1.pos rfl (Ev1.bind (iw hG) (Ev1.neg rfl (Ev1.now (outW ⟨W.wd,W.we,ws,wn,W.wc,W.wr,ww,wo,W.ej,es,c⟩)))))))))))))))),hG.mono (MW _) (by omega),Rch.ask _ hr hR,λ_ u h1 h2=>⟨hca u h1 h2,?_⟩⟩;unfold actF askS;rw[MV k0,MZ k1,MZ hs]
   ·subst ho;exact⟨_,x,j,_,_,_,Ev1.step step (Ev1.pos rfl (Ev1.neg hwr (Ev1.negD k0 (Ev1.posD k1 (Ev1.pos rfl (Ev1.posD hs (Ev1.pos rfl (Ev1.pos rfl (Ev1.pos hz (Ev1.pos (ak hm.1 hm.2) (Ev1.bind hk (Ev1.pos rfl (Ev1.bind (iw hG) (Ev1.neg rfl (Ev1.now (outW ⟨W.wd,W.we,ws,wn,W.wc,W.wr,ww,wo,W.ej,es,c⟩)))))))))))))))),hG.mono (MW _) (by omega),Rch.lost _ _ hr (.inl rfl) hR,λ_ u h1 h2=>by have:=hca u h1;omega⟩
   ·subst ho;obtain⟨we2,wn2,wc2,wr2,wo2,ej2,es2,F,L,S,jd,jt,jb,jr,jk,B,sf,x',j',s2,done2,hag,hG2,hcs⟩:=rS _ hX keep (by omega) (by omega);refine⟨_,x',j',s2,_,done2,Ev1.step step (Ev1.pos rfl (Ev1.neg hwr (Ev1.negD k0 (Ev1.posD k1 (Ev1.pos rfl (Ev1.posD hs (Ev1.pos rfl (Ev1.pos rfl (Ev1.pos hz (Ev1.pos (ak hm.1 hm.2) (Ev1.bind hk (Ev1.pos rfl (Ev1.bind (wi hX) (Ev1.pos rfl (Ev1.bind hag (Ev1.now (outW ⟨W.wd,we2,ws,wn2,wc2,wr2,ww,wo2,ej2,es2,⟨F,c.R,L,S,jd,jt,jb,jr,jk,B,sf⟩⟩))))))))))))))))),hG2.mono (MW _) (by omega),?_,λ_ u h1 h2=>by have:=hca u h1;omega⟩;rcases hcs with⟨e1,e2⟩|⟨e,e0,e1,e2⟩
    ·rw[e1,e2];exact Rch.lost _ _ hr (.inr rfl) hR
    ·cases e0;rw[e1,e2];exact Rch.kept _ _ hr rfl hR
  ·refine⟨W,x,j,s,said,done,Ev1.step step (Ev1.pos rfl (Ev1.neg hwr (Ev1.negD k0 (Ev1.posD k1 (Ev1.pos rfl (Ev1.negD hs (Ev1.pos rfl (Ev1.bind (iw h) (Ev1.neg rfl (Ev1.now (outW W))))))))))),h.mono (by omega) (by omega),hR,λ_ u h1 h2=>⟨⟨h1.1,by have:=h1.2;omega⟩,?_⟩⟩;unfold actF;rw[MV k0,MZ k1,MV hs]
 by_cases k2:a.1=2
 ·have hst:Ev1 (λk=>CF k fN bW [inj (.ref 30) (W.we.getD w none),Cn W.es]) (s,W.es):=by rw[h.b.we.2];exact eev h.es.2
  have hwt:=GP hinv.gl;by_cases hs:0<((jE s).length:Int)
  ·have hm:=DL ha.n.1 hs;have hmem:=BC (jE s) 0 hm;have hkey:=Dy hinv hmem;have hz:(!decide (((jE s).length:Int)=0))=true:=by rw[MT (show ¬ (((jE s).length:Int)=0) by omega)];rfl
   have heR:evR (1,zR,(jE s).getD (Int.toNat (Int.tmod a.2.2.1 ((jE s).length:Int))) 0,a.2.2.2):=.inr (.inl ⟨rfl,rfl,by dsimp only;omega,by dsimp only;omega⟩);obtain⟨o,wn,ww,wo,es,c,hk,hc⟩:=Gg W h _ heR hsmall (by omega) (by omega);rcases hc with⟨ho,hG,hca⟩|⟨ho,hG,hca⟩|⟨ho,hX,hca⟩
   ·refine⟨_,x,j,_,_,_,Ev1.step step (Ev1.pos rfl (Ev1.neg hwr (Ev1.negD k0 (Ev1.negD k1 (Ev1.posD k2 (Ev1.pos rfl (Ev1.bind hst (Ev1.bind hwt (Ev1.posD hs (Ev1.pos hz (Ev1.pos (ak hm.1 hm.2) (Ev1.bind hk (Ev1.pos rfl (Ev1.bind (iw hG) (Ev1.neg rfl (Ev1.now (outW ⟨W.wd,W.we,W.ws,wn,W.wc,W.wr,ww,wo,W.ej,es,c⟩))))))))))))))))),hG.mono (MW _) (by omega),Rch.ev _ heR (by simp) hR,λ_ u h1 h2=>⟨hca u h1 h2,?_⟩⟩;unfold actF;rw[MV k0,MV k1,MZ k2,MZ hs]
   ·exact⟨_,x,j,_,_,_,Ev1.step step (Ev1.pos rfl (Ev1.neg hwr (Ev1.negD k0 (Ev1.negD k1 (Ev1.posD k2 (Ev1.pos rfl (Ev1.bind hst (Ev1.bind hwt (Ev1.posD hs (Ev1.pos hz (Ev1.pos (ak hm.1 hm.2) (Ev1.bind hk (Ev1.pos rfl (Ev1.bind (iw hG) (Ev1.neg rfl (Ev1.now (outW ⟨W.wd,W.we,W.ws,wn,W.wc,W.wr,ww,wo,W.ej,es,c⟩))))))))))))))))),hG.mono (MW _) (by omega),hR,λ_ u h1 h2=>by have:=hca u h1;omega⟩
   ·obtain⟨we2,wn2,wc2,wr2,wo2,ej2,es2,F,L,S,jd,jt,jb,jr,jk,B,sf,x',j',s2,done2,hag,hG2,hcs⟩:=rS _ hX keep (by omega) (by omega);refine⟨_,x',j',s2,_,done2,Ev1.step step (Ev1.pos rfl (Ev1.neg hwr (Ev1.negD k0 (Ev1.negD k1 (Ev1.posD k2 (Ev1.pos rfl (Ev1.bind hst (Ev1.bind hwt (Ev1.posD hs (Ev1.pos hz (Ev1.pos (ak hm.1 hm.2) (Ev1.bind hk (Ev1.pos rfl (Ev1.bind (wi hX) (Ev1.pos rfl (Ev1.bind hag (Ev1.now (outW ⟨W.wd,we2,W.ws,wn2,wc2,wr2,ww,wo2,ej2,es2,⟨F,c.R,L,S,jd,jt,jb,jr,jk,B,sf⟩⟩)))))))))))))))))),hG2.mono (MW _) (by omega),?_,λ_ u h1 h2=>by have:=hca u h1;omega⟩;rcases hcs with⟨e1,e2⟩|⟨e,e0,e1,e2⟩
    ·rw[e1,e2];exact hR
    ·cases e0;rw[e1,e2];exact Rch.ev _ heR (by simp) hR
  ·refine⟨W,x,j,s,said,done,Ev1.step step (Ev1.pos rfl (Ev1.neg hwr (Ev1.negD k0 (Ev1.negD k1 (Ev1.posD k2 (Ev1.pos rfl (Ev1.bind hst (Ev1.bind hwt (Ev1.negD hs (Ev1.pos rfl (Ev1.bind (iw h) (Ev1.neg rfl (Ev1.now (outW W)))))))))))))),h.mono (by omega) (by omega),hR,λ_ u h1 h2=>⟨⟨h1.1,by have:=h1.2;omega⟩,?_⟩⟩;unfold actF;rw[MV k0,MV k1,MZ k2,MV hs]
 by_cases k3:a.1=3
 ·have heR:evR (2,zR,0,false):=.inr (.inr rfl);obtain⟨o,wn,ww,wo,es,c,hk,hc⟩:=Gg W h (2,zR,0,false) heR hsmall (by omega) (by omega);rcases hc with⟨ho,hG,hca⟩|⟨ho,hG,hca⟩|⟨ho,hX,hca⟩
  ·refine⟨_,x,j,_,_,_,Ev1.step step (Ev1.pos rfl (Ev1.neg hwr (Ev1.negD k0 (Ev1.negD k1 (Ev1.negD k2 (Ev1.posD k3 (Ev1.bind hk (Ev1.pos rfl (Ev1.bind (iw hG) (Ev1.neg rfl (Ev1.now (outW ⟨W.wd,W.we,W.ws,wn,W.wc,W.wr,ww,wo,W.ej,es,c⟩)))))))))))),hG.mono (MW _) (by omega),Rch.ev _ heR (by simp) hR,λ_ u h1 h2=>⟨hca u h1 h2,?_⟩⟩;unfold actF;rw[MV k0,MV k1,MV k2,MZ k3]
  ·exact⟨_,x,j,_,_,_,Ev1.step step (Ev1.pos rfl (Ev1.neg hwr (Ev1.negD k0 (Ev1.negD k1 (Ev1.negD k2 (Ev1.posD k3 (Ev1.bind hk (Ev1.pos rfl (Ev1.bind (iw hG) (Ev1.neg rfl (Ev1.now (outW ⟨W.wd,W.we,W.ws,wn,W.wc,W.wr,ww,wo,W.ej,es,c⟩)))))))))))),hG.mono (MW _) (by omega),hR,λ_ u h1 h2=>by have:=hca u h1;omega⟩
  ·obtain⟨we2,wn2,wc2,wr2,wo2,ej2,es2,F,L,S,jd,jt,jb,jr,jk,B,sf,x',j',s2,done2,hag,hG2,hcs⟩:=rS _ hX keep (by omega) (by omega);refine⟨_,x',j',s2,_,done2,Ev1.step step (Ev1.pos rfl (Ev1.neg hwr (Ev1.negD k0 (Ev1.negD k1 (Ev1.negD k2 (Ev1.posD k3 (Ev1.bind hk (Ev1.pos rfl (Ev1.bind (wi hX) (Ev1.pos rfl (Ev1.bind hag (Ev1.now (outW ⟨W.wd,we2,W.ws,wn2,wc2,wr2,ww,wo2,ej2,es2,⟨F,c.R,L,S,jd,jt,jb,jr,jk,B,sf⟩⟩))))))))))))),hG2.mono (MW _) (by omega),?_,λ_ u h1 h2=>by have:=hca u h1;omega⟩;rcases hcs with⟨e1,e2⟩|⟨e,e0,e1,e2⟩
   ·rw[e1,e2];exact hR
   ·cases e0;rw[e1,e2];exact Rch.ev _ heR (by simp) hR
 by_cases k4:a.1=4
 ·obtain⟨t,bs,rs,sb,evs,hJ,hS,htT⟩:=h.de;have hke:∀{e:Option Int} {c':DC},Ev1 (λk=>yC k x W.ej W.es W.c) (CC e c' W.ej W.es)->Ev1 (λk=>CF k xE ke [inj (.ref 30) (W.we.getD w none),Ci W.c.F,Cj W.c.R,Ck W.c.L,Cl W.c.S,Cm W.ej,Cn W.es,Co W.c.jd,Cp W.c.jt,Cq W.c.jb,Cr W.c.jr,Cs W.c.jk,Ct W.c.B,Cu W.c.sf]) (CC e c' W.ej W.es):=λ{e c'} he=>by rw[h.b.we.2];exact he
  have lens:∀c',Lens W.c c'->Al ⟨W.wd,W.we,W.ws,W.wn,W.wc,W.wr,W.ww,W.wo,W.ej,W.es,c'⟩:=λc' hL=>h.b.al.lens rfl rfl rfl rfl rfl rfl rfl rfl rfl hL
  rcases Gi W.c hJ hS h.ej h.es.2 (by omega)with⟨e,he,hk⟩|⟨c',hk,hJ',hL⟩|⟨c',hk,hD,hL⟩
  ·exact⟨W,x,j,s,said,done,Ev1.step step (Ev1.pos rfl (Ev1.neg hwr (Ev1.negD k0 (Ev1.negD k1 (Ev1.negD k2 (Ev1.negD k3 (Ev1.posD k4 (Ev1.pos rfl (Ev1.bind (hke hk) (Ev1.pos rfl (Ev1.bind (iw h) (Ev1.neg rfl (Ev1.now (outW W)))))))))))))),h.mono (by omega) (by omega),hR,λh3=>by omega⟩
  ·have hG:WG ⟨W.wd,W.we,W.ws,W.wn,W.wc,W.wr,W.ww,W.wo,W.ej,W.es,c'⟩ w x j d rho (T+1) (n+2) s said done:=⟨⟨h.b.wd,h.b.we,h.b.ws,h.b.wn,⟨by have:=h.b.nl.1;omega,by omega⟩,h.b.wr,h.b.ww,h.b.wo,lens c' hL⟩,h.ej,h.es,⟨t+1,_,[],s,[],hJ',yU hinv _ (by omega),by omega⟩⟩
   exact⟨_,x,j,s,said,done,Ev1.step step (Ev1.pos rfl (Ev1.neg hwr (Ev1.negD k0 (Ev1.negD k1 (Ev1.negD k2 (Ev1.negD k3 (Ev1.posD k4 (Ev1.pos rfl (Ev1.bind (hke hk) (Ev1.pos rfl (Ev1.bind (iw hG) (Ev1.neg rfl (Ev1.now (outW ⟨W.wd,W.we,W.ws,W.wn,W.wc,W.wr,W.ww,W.wo,W.ej,W.es,c'⟩)))))))))))))),hG,hR,λh3=>by omega⟩
  ·have hX:WX ⟨W.wd,W.we,W.ws,W.wn,W.wc,W.wr,W.ww,W.wo,W.ej,W.es,c'⟩ w x d rho (T+1) n s s said done []:=⟨⟨h.b.wd,h.b.we,h.b.ws,h.b.wn,h.b.nl,h.b.wr,h.b.ww,h.b.wo,lens c' hL⟩,(hD s).mono (by omega),.inl ⟨rfl,rfl⟩⟩
   obtain⟨we2,wn2,wc2,wr2,wo2,ej2,es2,F,L,S,jd,jt,jb,jr,jk,B,sf,x',j',s2,done2,hag,hG2,hcs⟩:=rS _ hX keep (by omega) (by omega);refine⟨_,x',j',s2,_,done2,Ev1.step step (Ev1.pos rfl (Ev1.neg hwr (Ev1.negD k0 (Ev1.negD k1 (Ev1.negD k2 (Ev1.negD k3 (Ev1.posD k4 (Ev1.pos rfl (Ev1.bind (hke hk) (Ev1.pos rfl (Ev1.bind (wi hX) (Ev1.pos rfl (Ev1.bind hag (Ev1.now (outW ⟨W.wd,we2,W.ws,wn2,wc2,wr2,W.ww,wo2,ej2,es2,⟨F,c'.R,L,S,jd,jt,jb,jr,jk,B,sf⟩⟩))))))))))))))),hG2.mono (MW _) (by omega),?_,λh3=>by omega⟩;rcases hcs with⟨e1,e2⟩|⟨e,e0,e1,e2⟩
   ·rw[e1,e2];exact hR
   ·cases e0
 have k5:a.1=5:=by have:=ha.kind;omega
 obtain⟨t,bs,rs,sb,evs,hJ,hS,htT⟩:=h.de;have hmax:maxI 0 a.2.2.1=a.2.2.1:=by
  unfold maxI;have:=ha.n.1;by_cases hq:(0:Int)<a.2.2.1
  ·rw[MY hq];rfl
  ·rw[MT hq,M7];omega
 have harm:Ev1 (λk=>CF k HX uP [inj (.ref 29) (W.wd.getD w none),inj (.int .i64) a.2.2.1,Ck W.c.L]) (W.c.L.set d a.2.2.1):=by
  rw[h.b.wd];refine Ev1.step (λk=>Ib k (some d) a.2.2.1 W.c.L) (Ev1.pos rfl (Ev1.const ?_));show some (W.c.L.set d (maxI 0 a.2.2.1))=_;rw[hmax]
 have hOk:OkL (W.c.L.set d a.2.2.1) d:=⟨by rw[MQ];exact hJ.dg.L.h,by rw[ai _ _ _ _ hJ.dg.L.h];have:=ha.n.1;omega,by rw[ai _ _ _ _ hJ.dg.L.h];exact ha.n.2⟩
 have hG:WG ⟨W.wd,W.we,W.ws,W.wn,W.wc,W.wr,W.ww,W.wo,W.ej,W.es,⟨W.c.F,W.c.R,W.c.L.set d a.2.2.1,W.c.S,W.c.jd,W.c.jt,W.c.jb,W.c.jr,W.c.jk,W.c.B,W.c.sf⟩⟩ w x j d rho (T+1) (n+2) s said done:=
  ⟨⟨h.b.wd,h.b.we,h.b.ws,h.b.wn,⟨by have:=h.b.nl.1;omega,by omega⟩,h.b.wr,h.b.ww,h.b.wo,h.b.al.lens rfl rfl rfl rfl rfl rfl rfl rfl rfl ⟨rfl,rfl,MQ,rfl,rfl,rfl,rfl,rfl,rfl⟩⟩,h.ej,h.es,⟨t,bs,rs,sb,evs,hJ.arm hOk,hS,by omega⟩⟩
 have hst:Ev1 (λk=>CF k kx eZ [inj (.ref 29) (W.wd.getD w none),Cl W.c.S]) (false,W.c.S):=iw h;exact⟨_,x,j,s,said,done,Ev1.step step (Ev1.pos rfl (Ev1.neg hwr (Ev1.negD k0 (Ev1.negD k1 (Ev1.negD k2 (Ev1.negD k3 (Ev1.negD k4 (Ev1.posD k5 (Ev1.pos rfl (Ev1.bind harm (Ev1.pos rfl (Ev1.bind hst (Ev1.neg rfl (Ev1.now (outW ⟨W.wd,W.we,W.ws,W.wn,W.wc,W.wr,W.ww,W.wo,W.ej,W.es,⟨W.c.F,W.c.R,W.c.L.set d a.2.2.1,W.c.S,W.c.jd,W.c.jt,W.c.jb,W.c.jr,W.c.jk,W.c.B,W.c.sf⟩⟩))))))))))))))),hG,hR,λh3=>by omega⟩
theorem IL (b:List Int)(ac:List aD)(hl:ac.length<=1000)(hb:6*ac.length<=b.length)(hok:∀a∈ac,AOj a/\(a.1=0->A a.2.1))(w d rho:Nat):∀(dd i:Nat)(W:WC)(x j T n:Nat)(s:ab)(said:List dw)(done:List aD),i+dd=ac.length->WG W w x j d rho T n s said done->Rch A s said done->T<=i->n<=2*i ->
  ∃W' x' j' T' n' s' said' done',Ev2 (λk m=>Mu k m b w ac (i:Int) W) (outO w W')/\WG W' w x' j' d rho T' n' s' said' done'/\Rch A s' said' done'/\T'<=1000/\n'<=2000/\((∀a∈ac,a.1<=3)->∀u,Calm W.c d u->u+86*dd<=rho->(s',said')=(ac.drop i).foldl actF (s,said))
 |0,i,W,x,j,T,n,s,said,done,hi,h,hR,hT,hn=>by
  refine⟨W,x,j,T,n,s,said,done,?_,h,hR,by omega,by omega,λ_ _ _ _=>by rw[NB (by omega)];rfl⟩;exact Ev2.step (λk m=>I1 k m b (some w) ac (ac.length:Int) (i:Int) W.wd W.we W.ws W.wn W.wc W.wr W.ww W.wo W.c.F W.c.R W.c.L W.c.S W.ej W.es W.c.jd W.c.jt W.c.jb W.c.jr W.c.jk W.c.B W.c.sf _ rfl) (Ev2.negD (by omega) (Ev2.now _))
 |dd+1,i,W,x,j,T,n,s,said,done,hi,h,hR,hT,hn=>by
  have hlt:i<ac.length:=by omega
  have he:ac.getD (Int.toNat (i:Int)) ((0:Int),((0:Int),(0:Int),(0:Int),(0:Int),(0:Int),(0:Int),(0:Int)),(0:Int),false)=ac[i]:=by rw[Na];exact ba ac i _ hlt
  have hk:((6*i+5:Nat):Int)=w64 (w64 (6*(i:Int))+5):=by rw[aO (x:=6*(i:Int)) (by omega),aO (by omega)];omega
  have st:=λk m=>I1 k m b (some w) ac (ac.length:Int) (i:Int) W.wd W.we W.ws W.wn W.wc W.wr W.ww W.wo W.c.F W.c.R W.c.L W.c.S W.ej W.es W.c.jd W.c.jt W.c.jb W.c.jr W.c.jk W.c.B W.c.sf ((6*i+5:Nat):Int) hk
  obtain⟨W1,x1,j1,s1,said1,done1,g1,g2,g3,g4⟩:=MG hAR hsm W h hR ac[i] (hok _ (NF hlt)).1 (hok _ (NF hlt)).2 (w64 (w64 (b.getD (Int.toNat ((6*i+5:Nat):Int)) 0)*7)) (by omega) (by omega);obtain⟨W',x',j',T',n',s',said',done',h1,h2,h3,h4,h5,h6⟩:=IL b ac hl hb hok w d rho dd (i+1) W1 x1 j1 (T+1) (n+2) s1 said1 done1 (by omega) g2 g3 (by omega) (by omega);refine⟨W',x',j',T',n',s',said',done',Ev2.step st (Ev2.posD (by omega) (Ev2.pos (ak (by omega) (by omega)) (Ev2.pos (ak (by omega) (by omega)) ?_))),h2,h3,h4,h5,λhall u hu hru=>?_⟩
  ·rw[he];refine Ev2.bind g1 ?_;rw[wnat (by omega)];exact h1
  ·obtain⟨q1,q2⟩:=g4 (hall _ (NF hlt)) u hu (by omega);rw[h6 hall (u+86) q1 (by omega),q2,Nr hlt,OM]
end
noncomputable abbrev Kz (k:Nat)(rho:Int)(W:WC):=CF k g_wO n_wO [inj I rho,Ca W.wd,Cb W.we,Cc W.ws,Cd W.wn,Ce W.wc,Cf W.wr,Cg W.ww,Ch W.wo,Ci W.c.F,Cj W.c.R,Ck W.c.L,Cl W.c.S,Cm W.ej,Cn W.es,Co W.c.jd,Cp W.c.jt,Cq W.c.jb,Cr W.c.jr,Cs W.c.jk,Ct W.c.B,Cu W.c.sf]
theorem Ll (W:WC)(h:Al W)(hbf:W.c.sf.length=W.c.B.length)(rho:Nat)(hr:rho<=262144):
  ∃W',Ev1 (λk=>Kz k (rho:Int) W) (outO W.wd.length W')/\WG W' W.wd.length W.ej.length W.c.jd.length W.c.F.length rho 0 0 s0 [] []/\Calm W'.c W.c.F.length 0:=by
 have hd:=Gj (F:=W.c.F) (R:=W.c.R) (L:=W.c.L) (S:=W.c.S) (rho:Int);have hroom:maxI 0 (minI (rho:Int) 262144)=(rho:Int):=by
  unfold maxI minI;rw[MT (show ¬ ((262144:Int)<(rho:Int)) by omega),M7];by_cases hq:(0:Int)<(rho:Int)
  ·rw[MY hq];rfl
  ·rw[MT hq,M7];omega
 rw[hroom]at hd;have eF:(W.c.F++[[]]).getD W.c.F.length []=([]:MF):=bj _ _ _;have hRS:RS ⟨W.c.F++[[]],W.c.R++[(rho:Int)],W.c.L++[-1],W.c.S++[false],W.c.jd,W.c.jt,W.c.jb,W.c.jr,W.c.jk,W.c.B,W.c.sf⟩ W.c.F.length rho 0 [] [] []:=by
  refine⟨by simp,aP _ _ _ h.R.symm,hr,by simp[h.L],aP _ _ _ h.L.symm,by simp[h.S],aP _ _ _ h.S.symm,hbf,?_,?_,?_,?_,⟨none,none,?_,by simp,λg hg=>(by cases hg),λh0=>(h0 rfl).elim,λg hg=>(by cases hg),λ_=>⟨rfl,rfl⟩,λ_ _ hg=>(by cases hg)⟩,λx hx=>(by cases hx),pc,by omega⟩
  ·dsimp only;rw[eF];rfl
  ·dsimp only;rw[eF];exact O6 _
  ·dsimp only;rw[eF];intro e he;cases he
  ·dsimp only;rw[eF];exact O6 _
  ·dsimp only;rw[eF];rfl
 have hsrc:Src 0 [] [] s0 s0 []:=⟨λ_=>rfl,λh0=>(h0 rfl).elim,inv0,λe he=>(by cases he),rfl,rfl⟩
 obtain⟨c',ho,hJ,hL⟩:=Gf hRS h.jt h.jb h.jr h.jk (by omega) W.ej W.es h.es hsrc;have e1:(W.wd++[some W.c.F.length]).getD W.wd.length none=some W.c.F.length:=bj _ _ _;obtain⟨F,R,L,S,jd,jt,jb,jr,jk,B,sf⟩:=c';have hR:R=W.c.R++[(rho:Int)]:=hL.R;subst hR;have e0:jd=W.c.jd++[some W.c.F.length]:=hL.jd;have g1:jt.length=W.c.jt.length+1:=hL.jt;have g2:jb.length=W.c.jb.length+1:=hL.jb;have g3:jr.length=W.c.jr.length+1:=hL.jr;have g4:jk.length=W.c.jk.length+1:=hL.jk;have g5:F.length=(W.c.F++[[]]).length:=hL.F;have g6:L=W.c.L++[-1]:=hL.L;have g7:S=W.c.S++[false]:=hL.S;refine⟨⟨W.wd++[some W.c.F.length],W.we++[some W.ej.length],W.ws++[[]],W.wn++[[]],W.wc++[0],W.wr++[none],W.ww++[zT],W.wo++[[]],W.ej++[some W.c.jd.length],W.es++[s0],⟨F,W.c.R++[(rho:Int)],L,S,jd,jt,jb,jr,jk,B,sf⟩⟩,?_,
  ⟨⟨e1,⟨by simp[h.we],aP _ _ _ h.we.symm⟩,⟨by simp[h.ws],aP _ _ _ h.ws.symm⟩,⟨by simp[h.wn],aP _ _ _ h.wn.symm⟩,⟨by simp,by simp⟩,⟨by simp[h.wr],aP _ _ _ h.wr.symm⟩,by simp[h.ww],⟨by simp[h.wo],aP _ _ _ h.wo.symm⟩,?_⟩,bj _ _ _,⟨by simp[h.es],aP _ _ _ h.es.symm⟩,⟨0,[],[],s0,[],hJ,hsrc,MW _⟩⟩,?_⟩
 ·refine Ev1.step (λk=>f_wO k (rho:Int) W.wd W.we W.ws W.wn W.wc W.wr W.ww W.wo W.c.F W.c.R W.c.L W.c.S W.ej W.es W.c.jd W.c.jt W.c.jb W.c.jr W.c.jk W.c.B W.c.sf) (Ev1.bind hd ?_);dsimp only;rw[e1];refine Ev1.bind ho (Ev1.const ?_);dsimp only;rw[iW W.we _ _ h.we.symm,iW W.wr _ _ h.wr.symm]
 ·constructor
  all_goals dsimp only
  ·simp[h.we]
  ·simp[h.ws]
  ·simp[h.wn]
  ·simp[h.wr]
  ·simp[h.ww]
  ·simp[h.wo]
  ·simp[h.es]
  ·rw[e0,g1,h.jt];simp
  ·rw[e0,g2,h.jb];simp
  ·rw[e0,g3,h.jr];simp
  ·rw[e0,g4,h.jk];simp
  ·rw[g5];simp[h.R]
  ·rw[g5,g6];simp[h.L]
  ·rw[g5,g7];simp[h.S]
 ·refine⟨?_,?_⟩
  ·dsimp only;rw[g6];exact aP _ _ _ h.L.symm
  ·have:=hL.fd eF;dsimp only at this ⊢;rw[this];exact MW _
end Go.Eng.Top
namespace Go.Eng.Top
open Go.RowKit Go.Eng Go.Eng.LVar Go.Eng.LChart Go.Eng.LEnt
set_option maxRecDepth 100000
def KX (ks ks':List aN)(r:ae):Prop:=
 ks'=ks\/(∃o b,fnd r.1 ks=none/\ks'=ks++[(r,o,b)])\/∃j o,j<ks.length/\(ks.getD j d0).2.2=false/\ks'=ks.set j ((ks.getD j d0).1,o,true)
def Tld (ks:List aN)(x:dw):Prop:=x.2.1=7\/x.2.1=8\/x.2.1=10\/x.2.1=12\/askF ks x.1=(x.2,true)
theorem GA {ks:List aN}{r:ae}(hf:fnd r.1 ks=none)(o:ah):askF (ks++[(r,o,true)]) r=(o,true):=by
 unfold askF;rw[nQ,hf];simp only[Oq];rw[qU];simp
theorem IH {s:ab}(h:Inv s)(r:ae):KX s.2.2.2.1 (subF s r).1.2.2.2.1 r/\(mayB r=true->Tld (subF s r).1.2.2.2.1 (r,(subF s r).2)):=by
 unfold subF;by_cases hm:mayB r=false
 ·rw[MZ hm];exact⟨.inl rfl,λh=>by rw[hm]at h;cases h⟩
 rw[MV hm];by_cases hk:(askF s.2.2.2.1 r).2=true
 ·rw[MZ hk];exact⟨.inl rfl,λ_=>.inr (.inr (.inr (.inr (Ob rfl hk))))⟩
 rw[MV hk];have hf:fnd r.1 s.2.2.2.1=none:=by
  rw[Ap]at hk;cases hf:fnd r.1 s.2.2.2.1 with
  |none=>rfl
  |some i=>rw[hf]at hk;simp at hk
 by_cases hl:long r/\16<=(s.2.2.1.length:Int)
 ·rw[MZ hl];exact⟨.inl rfl,λ_=>.inl rfl⟩
 rw[MV hl,A0 hf];by_cases h256:256<=s.2.2.2.1.length
 ·rw[MZ h256];exact⟨.inl rfl,λ_=>.inl rfl⟩
 rw[MV h256];dsimp only;by_cases hlo:long r
 ·rw[MZ hlo];cases hc:(resF s r).2 with
  |some c=>
   dsimp only;rw[l8 hf];exact⟨.inr (.inl ⟨_,_,hf,rfl⟩),λ_=>.inr (.inr (.inr (.inr (GA hf _))))⟩
  |none=>exact⟨.inr (.inl ⟨_,_,hf,rfl⟩),λ_=>.inr (.inr (.inl rfl))⟩
 ·rw[MV hlo,l8 hf];exact⟨.inr (.inl ⟨_,_,hf,rfl⟩),λ_=>.inr (.inr (.inr (.inr (GA hf _))))⟩
theorem I7 {s t:ab}(h:Inv s)(ht:Op s t){i:Nat}(hi:i<s.2.2.1.length)(o:ah)(r:ae):KX s.2.2.2.1 (endF t i o).1.2.2.2.1 r:=by
 unfold endF;dsimp only;have e1:t.2.2.1=s.2.2.1:=by rw[ht.rest]
 have e2:t.2.2.2.1=s.2.2.2.1:=by rw[ht.rest]
 rw[e1,e2,ba s.2.2.1 i zG hi];obtain⟨j,f1,f2⟩:=h.gk _ (NF hi);obtain⟨hj,_⟩:=ic f1;rw[yP f1 f2];exact .inr (.inr ⟨j,o,hj,f2,rfl⟩)
theorem MC {s:ab}(h:Inv s)(e:aD):KX s.2.2.2.1 (doF s e).1.2.2.2.1 e.2.1:=by
 unfold doF;split
 ·exact(IH h e.2.1).1
 split
 ·unfold tY;cases hf:fndG e.2.2.1 s.2.2.1 with
  |none=>exact .inl rfl
  |some i=>
   have hi:=ri hf;dsimp only;split
   ·exact I7 h (tV h.op _).1 hi _ _
   split
   ·have hs:=pL h.op (s.2.2.1.getD i zG).1;cases hc:(oQ s (s.2.2.1.getD i zG).1).2 with
    |none=>exact I7 h hs.1 hi _ _
    |some c=>exact .inl rfl
   ·exact .inl rfl
 split
 ·refine .inl ?_;unfold wg;split
  ·rfl
  ·have h0:Op (s.1,s.2.1,s.2.2.1,s.2.2.2.1,w64 (s.2.2.2.2+1)) (s.1,s.2.1,s.2.2.1,s.2.2.2.1,w64 (s.2.2.2.2+1)):=⟨rfl,h.op.rt,h.op.pl,h.op.ps,MW _⟩
   have h1:=o9 (rF s.2.1 (w64 (s.2.2.2.2+1))) _ h0;rw[h1.rest]
 ·exact .inl rfl
theorem KX.reqs {ks ks':List aN}{r:ae}(h:KX ks ks' r):ks'.map (·.1)=ks.map (·.1)\/(fnd r.1 ks=none/\ks'.map (·.1)=ks.map (·.1)++[r]):=by
 rcases h with h|⟨o,b,hf,h⟩|⟨j,o,hj,_,h⟩
 ·exact .inl (by rw[h])
 ·exact .inr ⟨hf,by rw[h,OF];rfl⟩
 ·refine .inl ?_;rw[h,Qx,ba _ _ _ hj];dsimp only;rw[show(ks[j]).1=(ks.map (·.1))[j]'(by simpa using hj) by simp,OT]
theorem KX.ask {ks ks':List aN}{r:ae}(h:KX ks ks' r){q:ae}{o:ah}(ha:askF ks q=(o,true))(ho:o.1≠10):askF ks' q=(o,true):=by
 rcases h with h|⟨o',b,hf,h⟩|⟨j,o',hj,ht,h⟩
 ·rw[h];exact ha
 ·rw[h];unfold askF at ha ⊢;rw[nQ];cases hq:fnd q.1 ks with
  |none=>rw[hq]at ha;cases ha
  |some i=>
   obtain⟨hi,_⟩:=ic hq;rw[hq]at ha;dsimp only at ha ⊢;rw[cj _ _ _ hi];exact ha
 ·have hk:cy ks'=cy ks:=by rw[h];exact tk _ _ _ hj (by rw[ba _ _ _ hj])
  have hfq:fnd q.1 ks'=fnd q.1 ks:=by unfold fnd;rw[hk]
  unfold askF at ha ⊢;rw[hfq];cases hq:fnd q.1 ks with
  |none=>rw[hq]at ha;cases ha
  |some i=>
   rw[hq]at ha;dsimp only at ha ⊢;rw[h];by_cases hij:j=i
   ·subst hij;rw[ai _ _ _ _ hj];rw[ht]at ha;split at ha
    ·simp only[Nv,NT,NM]at ha;exact(ho (by rw[<- ha.1])).elim
    ·rename_i hne;rw[MV hne];exact ha
   ·rw[getD_set_ne _ _ _ hij];exact ha
theorem KX.told {ks ks':List aN}{r:ae}(h:KX ks ks' r){x:dw}(hx:Tld ks x):Tld ks' x:=by
 by_cases h10:x.2.1=10
 ·exact .inr (.inr (.inl h10))
 rcases hx with hx|hx|hx|hx|hx
 ·exact .inl hx
 ·exact .inr (.inl hx)
 ·exact .inr (.inr (.inl hx))
 ·exact .inr (.inr (.inr (.inl hx)))
 ·exact .inr (.inr (.inr (.inr (h.ask hx h10))))
structure Rok (A:ae->Prop)(s:ab)(said:List dw)(done:List aD):Prop where
 inv:Inv s
 run:s=runE s0 done
 ev:∀e∈done,evR e
 req:∀k∈s.2.2.2.1,A k.1
 nod:(cy s.2.2.2.1).Nodup
 told:∀x∈said,Tld s.2.2.2.1 x
theorem BJ {key:Int}:∀{l:List Int},fndI key l=none->key ∉ l
 |[],_,h=>by cases h
 |x::l,h,hk=>by
  unfold fndI at h;by_cases hx:x=key
  ·simp[hx]at h
  ·simp only[hx]at h;rcases M5.1 hk with hk|hk
   ·exact hx hk.symm
   ·cases hl:fndI key l with
    |none=>exact BJ hl hk
    |some i=>rw[hl]at h;simp at h
theorem Rok.step {A:ae->Prop}{s:ab}{said:List dw}{done:List aD}(h:Rok A s said done){e:aD}(he:evR e)(ha:e.1=0->A e.2.1):Rok A (doF s e).1 said (done++[e]):=by
 have hk:=MC h.inv e;have hreq:(∀k∈(doF s e).1.2.2.2.1,A k.1)/\(cy (doF s e).1.2.2.2.1).Nodup:=by
  have hkey:∀l:List aN,cy l=(l.map (·.1)).map (·.1):=λl=>by unfold cy;rw[List.map_map];rfl
  have hmem:∀(l:List aN),(∀q∈l.map (·.1),A q)->∀k∈l,A k.1:=λl h k hk=>h _ (Nt.2 ⟨k,hk,rfl⟩)
  have hold:∀q∈s.2.2.2.1.map (·.1),A q:=λq hq=>by obtain⟨k,hk,rfl⟩:=Nt.1 hq;exact h.req k hk
  rcases hk.reqs with hr|⟨hf,hr⟩
  ·exact⟨hmem _ (by rw[hr];exact hold),by rw[hkey,hr,<- hkey];exact h.nod⟩
  ·by_cases h0:e.1=0
   ·refine⟨hmem _ (by
     rw[hr];intro q hq;rcases Nb.1 hq with hq|hq
     ·exact hold q hq
     ·rw[Nq.1 hq];exact ha h0),?_⟩
    rw[hkey,hr,OF,<- hkey,O8];refine⟨h.nod,by simp,λa ha' b hb e'=>?_⟩;simp only[Nc,Of,Nq]at hb;rw[e',hb]at ha';exact BJ hf ha'
   ·-- no request came
    have hne:(doF s e).1.2.2.2.1.map (·.1)=s.2.2.2.1.map (·.1):=by
     rcases hk with hk|⟨o,b,hf2,hk⟩|⟨j,o,hj,ht,hk⟩
     ·rw[hk]
     ·exfalso;have hlen:=congrArg List.length hk;rw[MN]at hlen;have:(doF s e).1.2.2.2.1.length=s.2.2.2.1.length:=by
       have:=(tE h.inv e (yh he).2).2;unfold doF;rw[MV h0];split
       ·unfold tY;cases hf:fndG e.2.2.1 s.2.2.1 with
        |none=>rfl
        |some i=>
         have hi:=ri hf;have lenE:∀(t:ab) (o:ah),Op s t->(endF t i o).1.2.2.2.1.length=s.2.2.2.1.length:=λt o ht=>by
          unfold endF;dsimp only;have e1:t.2.2.1=s.2.2.1:=by rw[ht.rest]
          have e2:t.2.2.2.1=s.2.2.2.1:=by rw[ht.rest]
          rw[e1,e2,ba s.2.2.1 i zG hi];obtain⟨j,f1,f2⟩:=h.inv.gk _ (NF hi);rw[yP f1 f2,MQ]
         dsimp only;split
         ·exact lenE _ _ (tV h.inv.op _).1
         split
         ·have hs:=pL h.inv.op (s.2.2.1.getD i zG).1;cases hc:(oQ s (s.2.2.1.getD i zG).1).2 with
          |none=>exact lenE _ _ hs.1
          |some c=>rfl
         ·rfl
       split
       ·unfold wg;split
        ·rfl
        ·have h0:Op (s.1,s.2.1,s.2.2.1,s.2.2.2.1,w64 (s.2.2.2.2+1)) (s.1,s.2.1,s.2.2.1,s.2.2.2.1,w64 (s.2.2.2.2+1)):=⟨rfl,h.inv.op.rt,h.inv.op.pl,h.inv.op.ps,MW _⟩
         have h1:=o9 (rF s.2.1 (w64 (s.2.2.2.2+1))) _ h0;dsimp only;rw[h1.rest]
       ·rfl
      simp only[MR,M3]at hlen;omega
     ·have:=KX.reqs (r:=e.2.1) (.inr (.inr ⟨j,o,hj,ht,hk⟩));rcases this with h1|⟨_,h1⟩
      ·exact h1
      ·have:=congrArg List.length h1;rw[hk]at this;simp at this
    exact⟨hmem _ (by rw[hne];exact hold),by rw[hkey,hne,<- hkey];exact h.nod⟩
 exact⟨(tE h.inv e (yh he).2).1,by rw[pS,<- h.run],λx hx=>(Nb.1 hx).elim (h.ev x) (λhx=>by rw[Nq.1 hx];exact he),hreq.1,hreq.2,λx hx=>hk.told (h.told x hx)⟩
theorem Rch.ok {A:ae->Prop}(hAR:∀r,A r->mayB r=true/\I64 (rqL r)){s:ab}{said:List dw}{done:List aD}(h:Rch A s said done):Rok A s said done:=by
 have evA:∀r,A r->evR (0,r,0,false):=λr hr=>.inl ⟨rfl,(hAR r hr).1,(hAR r hr).2,rfl⟩
 induction h with
 |zero=>exact⟨inv0,rfl,λe he=>(by cases he),λk hk=>(by cases hk),Pq,λx hx=>(by cases hx)⟩
 |ask r ha h ih=>
  have h1:=ih.step (evA r ha) (λ_=>ha);refine⟨h1.inv,h1.run,h1.ev,h1.req,h1.nod,λx hx=>?_⟩;rcases Nb.1 hx with hx|hx
  ·exact h1.told x hx
  ·rw[Nq.1 hx];exact(IH ih.inv r).2 (hAR r ha).1
 |lost r o ha ho h ih=>
  refine⟨ih.inv,ih.run,ih.ev,ih.req,ih.nod,λx hx=>?_⟩;rcases Nb.1 hx with hx|hx
  ·exact ih.told x hx
  ·rw[Nq.1 hx];rcases ho with ho|ho
   ·exact .inr (.inl ho)
   ·exact .inr (.inr (.inr (.inl ho)))
 |kept r o ha ho h ih=>
  have h1:=ih.step (evA r ha) (λ_=>ha);refine⟨h1.inv,h1.run,h1.ev,h1.req,h1.nod,λx hx=>?_⟩;rcases Nb.1 hx with hx|hx
  ·exact h1.told x hx
  ·rw[Nq.1 hx];exact .inr (.inr (.inr (.inl ho)))
 |ev e he h0 h ih=>exact ih.step he (λh=>(h0 h).elim)
def smR (r:ae):Prop:=∀x∈rqL r,0<=x/\x<=8191
theorem yk:∀(l:List Int),(∀x∈l,0<=x/\x<=8191)->(encs l).length<=2*l.length
 |[],_=>by simp[encs]
 |n::l,h=>by
  have h1:=h n (NI ..);have h2:=yk l λx hx=>h x (Nf _ hx)
  have h3:=Ac 1 (zig n) (by unfold zig;split<;>omega);have h4:encs (n::l)=encs [n]++encs l:=aI [n] l;rw[h4,MN,pC,MR];omega
theorem Gc {α:Type}(f:α->List Int)(c:Nat):∀(l:List α),(∀x∈l,(encs (f x)).length<=c)->(encs (l.flatMap f)).length<=c*l.length
 |[],_=>by simp[encs]
 |x::l,h=>by
  have h1:=h x (NI ..);have h2:=Gc f c l λy hy=>h y (Nf _ hy)
  rw[N4,aI,MN,MR,Nat.mul_succ];omega
theorem DS {s:ab}(h:Inv s)(hs:∀k∈s.2.2.2.1,smR k.1):(encs (stL s)).length<=16000:=by
 have hst:=h.st;have h0:=h.op.rt.hi;have h1:=h.op.pl;have h2:=h.gl;have h3:=h.kl;have one:∀n:Int,-9223372036854775808<=n/\n<=9223372036854775807->(encs [n]).length<=10:=λn hn=>aG (ns:=[n]) (by simpa[I64]using hn)
 have k1:(encs (s.2.2.2.1.flatMap knL)).length<=20*s.2.2.2.1.length:=Gc knL 20 _ λk hk=>by
  have a:=hs k hk;have b:=(h.kr k hk).2;refine Ns (yk (knL k) λx hx=>?_) (by simp[knL,rqL]);unfold knL at hx;rcases Nb.1 hx with hx|hx
  ·exact a x hx
  ·obtain⟨⟨b1,b2⟩,⟨b3,b4⟩,_⟩:=b;simp only[Ni,NZ,M5,Nu,N6]at hx;rcases hx with hx|hx|hx
   ·omega
   ·omega
   ·rw[hx];split<;>omega
 have k2:(encs (s.2.2.1.flatMap sagL)).length<=10*(11*s.2.2.1.length):=by rw[<- cH sagL 11 (λ_=>rfl)];exact aG hst.gs
 have k3:(encs (s.2.1.flatMap payL)).length<=10*(8*s.2.1.length):=by rw[<- cH payL 8 (λ_=>rfl)];exact aG hst.ps
 have k4:(encs (s.1.flatMap acL)).length<=10*(3*s.1.length):=by rw[<- cH acL 3 (λ_=>rfl)];exact aG hst.ac
 have o1:=one s.2.2.2.2 hst.now;have o2:=one (s.1.length:Int) (by omega);have o3:=one (s.2.1.length:Int) (by omega);have o4:=one (s.2.2.1.length:Int) (by omega);have o5:=one (s.2.2.2.1.length:Int) (by omega);have e:encs (stL s)=encs [s.2.2.2.2]++(encs [(s.1.length:Int)]++(encs (s.1.flatMap acL)++(encs [(s.2.1.length:Int)]++(encs (s.2.1.flatMap payL)++(encs [(s.2.2.1.length:Int)]++(encs (s.2.2.1.flatMap sagL)++(encs [(s.2.2.2.1.length:Int)]++encs (s.2.2.2.1.flatMap knL)))))))):=by
  unfold stL t1 t2 t3;rw[<- aI,<- aI,<- aI,<- aI,<- aI,<- aI,<- aI,<- aI];congr 1
 rw[e];simp only[MN];omega
end Go.Eng.Top
namespace Go.Eng.Top
open Go.Eng
abbrev lF:Sig:=S2
end Go.Eng.Top
namespace Go.Eng.Top
open Go.RowKit Go.Eng Go.Eng.LVar
set_option maxRecDepth 100000
def AR (r:ae):Prop:=mayB r=true/\I64 (rqL r)/\smR r
theorem GC:∀r,AR r->mayB r=true/\I64 (rqL r):=λr h=>⟨h.1,h.2.1⟩
theorem It {A:ae->Prop}(hA:∀r,A r->AR r){s:ab}{said:List dw}{done:List aD}(h:Rch A s said done):(encs (stL s)).length<=16000:=by
 have hk:=h.ok (λr hr=>GC r (hA r hr));exact DS hk.inv λk h=>(hA _ (hk.req k h)).2.2
theorem JZ {n a1 a2 a3 a4 a5:Int}(hn:0<=n/\n<=8191)(h1:0<=a1/\a1<=255)(h2:0<=a2/\a2<=255)(h3:0<=a3/\a3<=255)(h4:0<=a4/\a4<=255)(h5:0<=a5/\a5<=255):smR (oneR n a1 a2 a3 a4 a5):=by
 simp only[smR,oneR,rqL,M5,Nu,N6,NU,Oy];refine⟨by omega,by omega,?_,by omega,by omega,?_,?_⟩
 ·split
  ·omega
  ·split<;>omega
 ·split<;>omega
 ·split<;>omega
theorem Hq {n a1 a2 a3 a4 a5:Int}(hn:0<=n/\n<=8191)(h1:0<=a1/\a1<=255)(h2:0<=a2/\a2<=255)(h3:0<=a3/\a3<=255)(h4:0<=a4/\a4<=255)(h5:0<=a5/\a5<=255):mayB (oneR n a1 a2 a3 a4 a5)=true:=by
 have ho:0<=a1%8/\a1%8<8:=by omega
 unfold mayB oneR;dsimp only;generalize a1%8=o at ho ⊢;have hl:0<=(if o=2 then a5%4 else 0)/\(if o=2 then a5%4 else 0)<=3/\(0<(if o=2 then a5%4 else 0)->o=2):=by split<;>omega
 have hu:0<=(if o=3 then 1+a5%8 else 0)/\(if o=3 then 1+a5%8 else 0)<=8:=by split<;>omega
 have ham:amtB (1+a4*7)=true:=MY (by omega);rw[MV (by omega),MV (by omega)];split
 ·exact MY (by omega)
 split
 ·rfl
 ·rw[MZ (by omega)];exact ham
theorem J0 {n a1 a2 a3 a4 a5:Int}(hn:0<=n/\n<=8191)(h1:0<=a1/\a1<=255)(h2:0<=a2/\a2<=255)(h3:0<=a3/\a3<=255)(h4:0<=a4/\a4<=255)(h5:0<=a5/\a5<=255):AR (oneR n a1 a2 a3 a4 a5):=
 ⟨Hq hn h1 h2 h3 h4 h5,Hr (by omega) h1 h2 h3 h4 h5,JZ hn h1 h2 h3 h4 h5⟩
theorem Ml {a0 a1 a2 a3 a4 a5 n:Int}(hn:0<=n/\n<=8191)(h0:0<=a0/\a0<=255)(h1:0<=a1/\a1<=255)(h2:0<=a2/\a2<=255)(h3:0<=a3/\a3<=255)(h4:0<=a4/\a4<=255)(h5:0<=a5/\a5<=255):AOj (oneF a0 a1 a2 a3 a4 a5 n)/\((oneF a0 a1 a2 a3 a4 a5 n).1=0->AR (oneF a0 a1 a2 a3 a4 a5 n).2.1/\(oneF a0 a1 a2 a3 a4 a5 n).2.1.2.1=a1%8):=by
 unfold oneF;split
 ·exact⟨⟨by simp,by dsimp only;omega⟩,λh=>by simp at h⟩
 split
 ·exact⟨⟨by simp,by dsimp only;omega⟩,λh=>by simp at h⟩
 split
 ·exact⟨⟨by simp,by simp⟩,λh=>by simp at h⟩
 split
 ·split
  ·exact⟨⟨by simp,by simp⟩,λh=>by simp at h⟩
  ·exact⟨⟨by simp,by dsimp only;omega⟩,λh=>by simp at h⟩
 ·exact⟨⟨by simp,by simp⟩,λ_=>⟨J0 hn h1 h2 h3 h4 h5,rfl⟩⟩
theorem Jf {b:List Int}(hb:Byt b)(hl:b.length<=4000):∀a∈acts b,AOj a/\(a.1=0->AR a.2.1):=by
 intro a ha;obtain⟨i,hi,rfl⟩:=Nt.1 ha;have:=List.mem_range.1 hi;have h:=Ml (n:=(i:Int)) (by omega) (byt_get hb (6*i)) (byt_get hb (6*i+1)) (byt_get hb (6*i+2)) (byt_get hb (6*i+3)) (byt_get hb (6*i+4)) (byt_get hb (6*i+5));exact⟨h.1,λh0=>(h.2 h0).1⟩
theorem WG.bf {W:WC}{w x j d rho T n:Nat}{s:ab}{said:List dw}{done:List aD}(h:WG W w x j d rho T n s said done):W.c.sf.length=W.c.B.length:=by
 obtain⟨t,bs,rs,sb,evs,hJ,_⟩:=h.de;exact hJ.bsf
noncomputable abbrev Gt (k:Nat)(b:List Int)(rho:Int)(W:WC):=CF k g_wR n_wR [inj BB b,inj I rho,Ca W.wd,Cb W.we,Cc W.ws,Cd W.wn,Ce W.wc,Cf W.wr,Cg W.ww,Ch W.wo,Ci W.c.F,Cj W.c.R,Ck W.c.L,Cl W.c.S,Cm W.ej,Cn W.es,Co W.c.jd,Cp W.c.jt,Cq W.c.jb,Cr W.c.jr,Cs W.c.jk,Ct W.c.B,Cu W.c.sf]
theorem D3 (W:WC)(h:Al W)(hbf:W.c.sf.length=W.c.B.length)(b:List Int)(hb:Byt b)(hl:b.length<=4000)(rho:Nat)(hr:rho<=262144){A:ae->Prop}(hA:∀r,A r->AR r)(hok:∀a∈acts b,AOj a/\(a.1=0->A a.2.1)):
  ∃W' x' j' T' n' s said done,Ev1 (λk=>Gt k b (rho:Int) W) (outO W.wd.length W')/\WG W' W.wd.length x' j' W.c.F.length rho T' n' s said done/\Rch A s said done/\T'<=1000/\n'<=2000/\((∀a∈acts b,a.1<=3)->86*(acts b).length<=rho->(s,said)=(acts b).foldl actF (s0,[])):=by
 have hal:=Iw b;obtain⟨W0,h0,hG0,hC0⟩:=Ll W h hbf rho hr;obtain⟨W',x',j',T',n',s,said,done,h1,h2,h3,h4,h5,h6⟩:=IL (A:=A) (λr hr=>GC r (hA r hr)) (λ{s said done} h=>It hA h) b (acts b) (by omega) (by omega) hok W.wd.length W.c.F.length rho (acts b).length 0 W0 W.ej.length W.c.jd.length 0 0 s0 [] [] (by omega) hG0 .zero (by omega) (by omega);refine⟨W',x',j',T',n',s,said,done,?_,h2,h3,h4,h5,λq1 q2=>h6 q1 0 hC0 (by omega)⟩;exact Ev1.step (λk=>f_wR k b (rho:Int) W.wd W.we W.ws W.wn W.wc W.wr W.ww W.wo W.c.F W.c.R W.c.L W.c.S W.ej W.es W.c.jd W.c.jt W.c.jb W.c.jr W.c.jk W.c.B W.c.sf) (Ev1.bind h0 (Ev1.bind (KN b hb (by omega)) h1.diag))
theorem Kt:(acts (allL exL)).all (λa=>decide (a.1<=3))=true:=by decide +kernel
theorem LC:86*(acts (allL exL)).length<=262144:=by decide +kernel
theorem Gz (W:WC)(h:Al W)(hbf:W.c.sf.length=W.c.B.length):∃W',Ev1 (λk=>Gu k W) (outT true W')/\Al W'/\W'.c.sf.length=W'.c.B.length:=by
 have hlen:=BS exL;obtain⟨W',x',j',T',n',s,said,done,h1,h2,_,_,_,h6⟩:=D3 W h hbf (allL exL) I6 (by omega) 262144 (by omega) (A:=AR) (λ_ h=>h) (Jf I6 (by omega));have hc:=h6 (λa ha=>by have:=Od.1 Kt a ha;simpa using this) LC;have hs:s=exS.1:=congrArg Prod.fst hc;have hsd:said=exS.2:=congrArg Prod.snd hc;subst hs hsd;obtain⟨v1,v2,v3,v4,v5⟩:=LB;refine⟨W',?_,h2.b.al,h2.bf⟩;have hst:Ev1 (λk=>CF k fN bW [inj (.ref 30) (W'.we.getD W.wd.length none),Cn W'.es]) (exS.1,W'.es):=by rw[h2.b.we.2];exact eev h2.es.2
 have h4:Ev2 (λk m=>h_tw k m (some W.wd.length) W'.wd W'.we W'.ws W'.wn W'.wc W'.wr W'.ww W'.wo W'.c.F W'.c.R W'.c.L W'.c.S W'.ej W'.es W'.c.jd W'.c.jt W'.c.jb W'.c.jr W'.c.jk W'.c.B W'.c.sf) (outT true W'):=by
  refine Ev2.step (λk m=>Ls k m (some W.wd.length) W'.wd W'.we W'.ws W'.wn W'.wc W'.wr W'.ww W'.wo W'.c.F W'.c.R W'.c.L W'.c.S W'.ej W'.es W'.c.jd W'.c.jt W'.c.jb W'.c.jr W'.c.jk W'.c.B W'.c.sf) (Ev2.pos rfl (Ev2.bind hst (Ev2.pos rfl (Ev2.pos ?_ (Ev2.pos rfl (Ev2.posD ?_ (Ev2.posD (by rw[v2];rfl) (Ev2.pos (ak (by omega) (by rw[v2];omega)) (Ev2.posD v3 (Ev2.pos (ak (by omega) (by rw[v2];omega)) (Ev2.posD v4 (Ev2.const ?_))))))))))))
  ·show(!(W'.wr.getD W.wd.length none).isSome)=true;rw[h2.b.wr.2];rfl
  ·show((W'.ws.getD W.wd.length []).length:Int)=13;rw[h2.b.ws.2];show(exS.2.length:Int)=13;rw[v1];rfl
  ·rw[v5];rfl
 refine Ev1.step (λk=>f_tw k W.wd W.we W.ws W.wn W.wc W.wr W.ww W.wo W.c.F W.c.R W.c.L W.c.S W.ej W.es W.c.jd W.c.jt W.c.jb W.c.jr W.c.jk W.c.B W.c.sf) (Ev1.bind (BU exL (by decide)) (Ev1.bind h1 (Ev1.neg rfl (Ev1.pos rfl (Ev1.neg ?_ h4.diag)))));show(!(W'.we.getD W.wd.length none).isSome)=false;rw[h2.b.we.2];rfl
end Go.Eng.Top
namespace Go.Eng.Top
open Go.RowKit Go.Eng Go.Eng.LVar Go.Eng.LChart Go.Eng.LEnt
set_option maxRecDepth 100000
abbrev xD:Sig:=S73
abbrev zEv0:aD:=((0:Int),((0:Int),(0:Int),(0:Int),(0:Int),(0:Int),(0:Int),(0:Int)),(0:Int),false)
theorem er_l (wn:List (List aD))(w:Nat)(es:List aD)(hes:wn.getD w []=es)(hl:es.length<=4000)(hev:∀e∈es,evR e):∀(d i:Nat)(s:ab)(out:List ah),i+d=es.length->Inv s->out.length<=i ->
  ∃o,Ev2 (λk m=>hZ k m w (es.length:Int) (i:Int) s.1 s.2.1 s.2.2.1 s.2.2.2.1 s.2.2.2.2 0 out wn) (runE s (es.drop i),o,wn)
 |0,i,s,out,hi,hs,ho=>by
  refine⟨out,Ev2.step (λk m=>lE k m w (es.length:Int) (i:Int) s.1 s.2.1 s.2.2.1 s.2.2.2.1 s.2.2.2.2 0 out wn es hes.symm s rfl) (Ev2.negD (by omega) ?_)⟩;rw[NB (by omega)];exact Ev2.now _
 |d+1,i,s,out,hi,hs,ho=>by
  have hlt:i<es.length:=by omega
  have he:es.getD (Int.toNat (i:Int)) zEv0=es[i]:=by rw[Na];exact ba es i _ hlt
  have hd:Ev1 (λk=>CF k qX dC [inj aB s,inj aH (es.getD (Int.toNat (i:Int)) zEv0)]) (doF s es[i]):=by
   rw[he];exact Gh hs es[i]
  obtain⟨o,ih⟩:=er_l wn w es hes hl hev d (i+1) (doF s es[i]).1 (out++[(doF s es[i]).2]) (by omega) (tE hs _ (yh (hev _ (NF hlt))).2).1 (by rw[MN,Pb];omega);rw[<- wnat (by omega)]at ih;rw[Nr hlt];refine⟨o,Ev2.step (λk m=>lE k m w (es.length:Int) (i:Int) s.1 s.2.1 s.2.2.1 s.2.2.2.1 s.2.2.2.2 0 out wn es hes.symm s rfl) (Ev2.posD (by omega) (Ev2.pos (ak (by omega) (by omega)) (Ev2.bind hd (Ev2.posD ?_ ih))))⟩;rw[Pb];omega
theorem Gb (wn:List (List aD))(w:Nat){es:List aD}(hes:wn.getD w []=es)(hl:es.length<=4000)(hev:∀e∈es,evR e){s:ab}(hs:Inv s):
  ∃o,Ev1 (λk=>CF k xD kc [inj aB s,.val false [.vo 1050243 26 w],Cd wn]) (runE s es,o,wn):=by
 obtain⟨o,h⟩:=er_l wn w es hes hl hev es.length 0 s [] (by omega) hs (O6 _);rw[<- hes]at h;refine⟨o,Ev1.step (λk=>yd k s w wn) ?_⟩;rw[<- hes];exact h.diag
abbrev zSd0:dw:=(((0:Int),(0:Int),(0:Int),(0:Int),(0:Int),(0:Int),(0:Int)),(0:Int),(0:Int))
theorem cr_l (W:WC)(w:Nat){s:ab}{said:List dw}(hs:W.ws.getD w []=said)(hkl:s.2.2.2.1.length<=100000)(hT:∀x∈said,Tld s.2.2.2.1 x)(hl:said.length<=4000):∀(d i:Nat),i+d=said.length ->
  Ev2 (λk m=>bC k m w (said.length:Int) (i:Int) s.1 s.2.1 s.2.2.1 s.2.2.2.1 s.2.2.2.2 W.wd W.we W.ws W.wn W.wc W.wr W.ww W.wo W.c.F W.c.R W.c.L W.c.S W.ej W.es W.c.jd W.c.jt W.c.jb W.c.jr W.c.jk W.c.B W.c.sf) (outT true W)
 |0,i,hi=>Ev2.step (λk m=>gU k m w (said.length:Int) (i:Int) s.1 s.2.1 s.2.2.1 s.2.2.2.1 s.2.2.2.2 W.wd W.we W.ws W.wn W.wc W.wr W.ww W.wo W.c.F W.c.R W.c.L W.c.S W.ej W.es W.c.jd W.c.jt W.c.jb W.c.jr W.c.jk W.c.B W.c.sf _ rfl _ rfl _ rfl _ rfl _ rfl) (Ev2.negD (by omega) (Ev2.now _))
 |d+1,i,hi=>by
  have hlt:i<said.length:=by omega
  have ih:=cr_l W w hs hkl hT hl d (i+1) (by omega);have he:said.getD (Int.toNat (i:Int)) zSd0=said[i]:=by rw[Na];exact ba said i _ hlt
  have ht:=hT _ (NF hlt);have st:=λk m=>gU k m w (said.length:Int) (i:Int) s.1 s.2.1 s.2.2.1 s.2.2.2.1 s.2.2.2.2 W.wd W.we W.ws W.wn W.wc W.wr W.ww W.wo W.c.F W.c.R W.c.L W.c.S W.ej W.es W.c.jd W.c.jt W.c.jb W.c.jr W.c.jk W.c.B W.c.sf ((i+1:Nat):Int) (wnat (by omega)).symm said hs.symm said[i] he.symm _ rfl _ rfl
  generalize said[i]=x at ht st;refine Ev2.step st (Ev2.posD (by omega) (Ev2.pos (ak (by omega) (by omega)) ?_));by_cases c12:x.2.1=12
  ·exact Ev2.posD c12 (Ev2.posD c12 ih)
  refine Ev2.negD c12 ?_;by_cases c8:x.2.1=8
  ·exact Ev2.posD c8 (Ev2.posD c8 ih)
  refine Ev2.negD c8 ?_;by_cases c10:x.2.1=10
  ·exact Ev2.posD c10 (Ev2.posD c10 ih)
  refine Ev2.negD c10 ?_;by_cases c7:x.2.1=7
  ·exact Ev2.posD c7 ih
  refine Ev2.negD c7 ?_;have hq:askF s.2.2.2.1 x.1=(x.2,true):=by
   rcases ht with q|q|q|q|q
   ·exact(c7 q).elim
   ·exact(c8 q).elim
   ·exact(c10 q).elim
   ·exact(c12 q).elim
   ·exact q
  have ha:=Jc s.2.2.2.1 x.1 (by omega);rw[hq]at ha;rw[<- wnat (by omega)]at ih;have h2:Ev3 (λk m1 m=>bY k m1 m w (said.length:Int) (i:Int) s.1 s.2.1 s.2.2.1 s.2.2.2.1 s.2.2.2.2 x.1.1 x.1.2.1 x.1.2.2.1 x.1.2.2.2.1 x.1.2.2.2.2.1 x.1.2.2.2.2.2.1 x.1.2.2.2.2.2.2 x.2.1 x.2.2 W.wd W.we W.ws W.wn W.wc W.wr W.ww W.wo W.c.F W.c.R W.c.L W.c.S W.ej W.es W.c.jd W.c.jt W.c.jb W.c.jr W.c.jk W.c.B W.c.sf) (outT true W):=by
   refine Ev3.step (λk m1 m=>mJ k m1 m w (said.length:Int) (i:Int) s.1 s.2.1 s.2.2.1 s.2.2.2.1 s.2.2.2.2 x.1.1 x.1.2.1 x.1.2.2.1 x.1.2.2.2.1 x.1.2.2.2.2.1 x.1.2.2.2.2.2.1 x.1.2.2.2.2.2.2 x.2.1 x.2.2 W.wd W.we W.ws W.wn W.wc W.wr W.ww W.wo W.c.F W.c.R W.c.L W.c.S W.ej W.es W.c.jd W.c.jt W.c.jb W.c.jr W.c.jk W.c.B W.c.sf) (Ev3.bind ha (Ev3.neg rfl (Ev3.neg ?_ (Ev2.drop ih))));rw[MY rfl,MY rfl];rfl
  exact h2.diag
noncomputable abbrev LW (k:Nat)(b:List Int)(room:Int)(W:WC):=CF k lF ln [inj BB b,inj (.int .u16) room,Ca W.wd,Cb W.we,Cc W.ws,Cd W.wn,Ce W.wc,Cf W.wr,Cg W.ww,Ch W.wo,Ci W.c.F,Cj W.c.R,Ck W.c.L,Cl W.c.S,Cm W.ej,Cn W.es,Co W.c.jd,Cp W.c.jt,Cq W.c.jb,Cr W.c.jr,Cs W.c.jk,Ct W.c.B,Cu W.c.sf]
set_option maxHeartbeats 2000000 in
theorem topCrash (b:List Int)(hb:Byt b)(hbl:b.length<=211106232532000)(room:Int)(hroom:0<=room/\room<=65535)(W:WC)(h:Al W)(hbf:W.c.sf.length=W.c.B.length):∃W',Ev1 (λk=>LW k b room W) (outT true W'):=by
 have hlen:=BS b;obtain⟨W1,ha,hA1,hB1⟩:=Gz W h hbf;obtain⟨rho,hrho⟩:=ND hroom.1;have hr64:w64 room=(rho:Int):=by rw[aO (by omega)];exact hrho
 obtain⟨W2,x,j,T,n,s,said,done,hx,hG,hR,hT,hn,_⟩:=D3 W1 hA1 hB1 (allL b) (vU hb) (by omega) rho (by omega) (A:=AR) (λ_ h=>h) (Jf (vU hb) (by omega));have hok:=hR.ok GC;have hnl:=hG.b.nl;have hkl:=hok.inv.kl;obtain⟨o,hrun⟩:=Gb W2.wn W1.wd.length hG.b.wn.2 (by omega) hok.ev inv0;rw[<- hok.run]at hrun;have hsm:=DY hok.inv;have hst:Ev1 (λk=>CF k fN bW [inj (.ref 30) (W2.we.getD W1.wd.length none),Cn W2.es]) (s,W2.es):=by rw[hG.b.we.2];exact eev hG.es.2
 have hcr:=cr_l W2 W1.wd.length (s:=s) hG.b.ws.2 (by omega) hok.told (by omega) said.length 0 (by omega);have hT2:Ev2 (λk m=>ir k m (some W1.wd.length) W2.wd W2.we W2.ws W2.wn W2.wc W2.wr W2.ww W2.wo W2.c.F W2.c.R W2.c.L W2.c.S W2.ej W2.es W2.c.jd W2.c.jt W2.c.jb W2.c.jr W2.c.jk W2.c.B W2.c.sf) (outT true W2):=by
  refine Ev2.step (λk m=>oR k m (some W1.wd.length) W2.wd W2.we W2.ws W2.wn W2.wc W2.wr W2.ww W2.wo W2.c.F W2.c.R W2.c.L W2.c.S W2.ej W2.es W2.c.jd W2.c.jt W2.c.jb W2.c.jr W2.c.jk W2.c.B W2.c.sf) (Ev2.pos rfl (Ev2.bind hst (Ev2.bind IW (Ev2.pos rfl (Ev2.bind hrun (Ev2.bind hsm (Ev2.neg rfl (Ev2.pos rfl ?_))))))));simp only[M4];rw[hG.b.ws.2];exact Ev1.drop hcr.diag
 refine⟨W2,Ev1.step (λk=>si k b room W.wd W.we W.ws W.wn W.wc W.wr W.ww W.wo W.c.F W.c.R W.c.L W.c.S W.ej W.es W.c.jd W.c.jt W.c.jb W.c.jr W.c.jk W.c.B W.c.sf) (Ev1.bind ha (Ev1.neg rfl (Ev1.bind (BU b hbl) ?_)))⟩;rw[hr64];refine Ev1.bind hx (Ev1.pos rfl (Ev1.neg ?_ (Ev1.pos rfl (Ev1.neg ?_ hT2.diag))))
 ·show(W2.wr.getD W1.wd.length none).isSome=false;rw[hG.b.wr.2];rfl
 ·show(!(W2.we.getD W1.wd.length none).isSome)=false;rw[hG.b.we.2];rfl
end Go.Eng.Top
namespace Go.Proofs.YtbbnmhmfdbcmhaaGreatDoorW.As
open Go.RowKit Go.Extern.Stop Go.Stop Go.Extern Go.Proofs
theorem dI {w W:World}(h:Below w.heap.size w W)(o:Obj):Below w.heap.size w (W.alloc o):=h.alloc h.size o
theorem Gx {w W:World}{g j:Nat}{v:Value}(h:Below w.heap.size w W)(hg:w.heap.size<=g):Below w.heap.size w (W.setCell ⟨g,j,none⟩ v):=h.setCell hg _
def GH (w:World):Prop:=w.cell? ⟨0,0,none⟩=some (.iface 240 (.agg #[.pointer (some ⟨1,34,none⟩)]))
theorem GH.lt {w:World}(h:GH w):0<w.heap.size:=by
 unfold GH at h;rcases Nat.eq_zero_or_pos w.heap.size with h0|h1
 ·simp[World.cell?,h0]at h
 ·exact h1
theorem GH.below {B:Nat}{w w':World}(h:GH w)(hb:Below B w w')(hB:w.heap.size<=B):GH w':=by
 have hlt:=h.lt;unfold GH at *;rw[<- h];exact hb.cell (p:=⟨0,0,none⟩) (by show 0<B;omega)
theorem GH.step {w w':World}(h:GH w)(hb:Below w.heap.size w w'):GH w':=h.below hb (Nat.le_refl _)
theorem L6 (t:Value)(w:World):
  Calls Tryz.prog 73 #[.nilIface,t] w λe w'=>e=.returned (.bool false)/\w'=w:=by
 go_enter Tryz.func73,Tryz.ntmps73
 go_wp2
 go_ret
 exact⟨rfl,rfl⟩
theorem Du (t:Addr)(w:World):(ReflectliteValue.unpack (.iface 154 (.pointer (some t)))).run Tryz.prog w
  = .ok (.agg #[.pointer (some ⟨1,154,none⟩),.pointer (some ⟨w.heap.size,0,none⟩),.int .u64 150]) (w.alloc (.cells #[.pointer (some t)] 154)):=by kernel_rfl
theorem KQ (a : Addr) (w : World) : (ReflectliteValue.methodAny (ReflectliteValue.valueError "reflectlite.Value.Type" 0) (fun t _ _ _ => ReflectliteType.toType t) #[.agg #[.pointer (some ⟨1, 154, none⟩), .pointer (some a), .int .u64 150]]).run Tryz.prog w
  = .ok (.iface 240 (.agg #[.pointer (some ⟨1,154,none⟩)])) w:=by kernel_rfl
theorem yH (h : Value) (w : World) : (Go.method 437 240 (.agg #[h]) "Kind").run Tryz.prog w = .ok (206, h) w := by kernel_rfl
theorem KS (w:World):((ReflectliteType.abiMethod λt=>(λa:Nat=>Value.int IntKind.u8 (a:Int)) <$> Rtype.kind t) #[.pointer (some ⟨1,154,none⟩)]).run Tryz.prog w=.ok (.int .u8 22) w:=by kernel_rfl
theorem KT (w:World):((ReflectliteType.abiMethod λt=>(λa:Nat=>Value.int IntKind.u8 (a:Int)) <$> Rtype.kind t) #[.pointer (some ⟨1,46,none⟩)]).run Tryz.prog w=.ok (.int .u8 2) w:=by kernel_rfl
theorem rlm (z:Sem Value)(f:TypeId->Addr->Nat->Nat->Sem Value)(v:Value):
  ReflectliteValue.method z f #[v]=(do match <- ReflectliteValue.parts v with|none=>z|some (t,a,fl)=>f t a fl (fl%32)):=rfl
theorem Dw (a:Addr)(w:World):(ReflectliteValue.parts (.agg #[.pointer (some ⟨1,154,none⟩),.pointer (some a),.int .u64 150])).run Tryz.prog w=.ok (some (154,a,150)) w:=by kernel_rfl
theorem Jk (a p:Addr)(W:World)(ha:W.cell? a=some (.pointer (some p))):
  (ReflectliteValue.method (ReflectliteValue.valueError "reflectlite.Value.IsNil" 0) ReflectliteValue.isNil #[.agg #[.pointer (some ⟨1, 154, none⟩), .pointer (some a), .int .u64 150]]).run Tryz.prog W = .ok (.bool false) W := by
 rw[rlm];simp only[Sem.run_bind,Dw,Result.andThen];simp[ReflectliteValue.isNil,loadVar,isAgg,underlying,Tryz.underlying154,ha,Result.andThen]
theorem yI (h : Value) (w : World) : (Go.method 437 240 (.agg #[h]) "Elem").run Tryz.prog w = .ok (222, .agg #[h]) w := by kernel_rfl
theorem ng (h : Value) (w : World) : (Go.method 437 240 (.agg #[h]) "Implements").run Tryz.prog w = .ok (223, .agg #[h]) w := by kernel_rfl
theorem lI (h : Value) (w : World) : (Go.method 437 240 (.agg #[h]) "AssignableTo").run Tryz.prog w = .ok (220, .agg #[h]) w := by kernel_rfl
theorem KU (w:World):(ReflectliteType.method ReflectliteType.elem #[.agg #[.pointer (some ⟨1,154,none⟩)]]).run Tryz.prog w=.ok (.iface 240 (.agg #[.pointer (some ⟨1,46,none⟩)])) w:=by kernel_rfl
theorem vX (w : World) : (ReflectliteType.relation "Implements" ReflectliteType.implements_ #[.agg #[.pointer (some ⟨1, 46, none⟩)], .iface 240 (.agg #[.pointer (some ⟨1, 34, none⟩)])]).run Tryz.prog w = .ok (.bool true) w := by kernel_rfl
theorem GI (v:Value)(w:World):(ReflectliteType.typeOf #[.iface 46 v]).run Tryz.prog w=.ok (.iface 240 (.agg #[.pointer (some ⟨1,46,none⟩)])) w:=by kernel_rfl
theorem vY (w : World) : (ReflectliteType.relation "AssignableTo" ReflectliteType.assignableTo #[.agg #[.pointer (some ⟨1, 46, none⟩)], .iface 240 (.agg #[.pointer (some ⟨1, 46, none⟩)])]).run Tryz.prog w = .ok (.bool true) w := by kernel_rfl
theorem Dv (c:Int)(w:World):(ReflectliteValue.unpack (.iface 46 (.int .i64 c))).run Tryz.prog w
  = .ok (.agg #[.pointer (some ⟨1,46,none⟩),.pointer (some ⟨w.heap.size,0,none⟩),.int .u64 130]) (w.alloc (.cells #[.int .i64 c] 46)):=by kernel_rfl
theorem GK (w:World):(Rtype.elem? 154).run Tryz.prog w=.ok (some 46) w:=by kernel_rfl
theorem xmkE (p:Addr)(w:World):(ReflectliteValue.mk 46 p ReflectliteValue.flagAddr).run Tryz.prog w=.ok (.agg #[.pointer (some ⟨1,46,none⟩),.pointer (some p),.int .u64 386]) w:=by kernel_rfl
theorem Jl (a p:Addr)(W:World)(ha:W.cell? a=some (.pointer (some p))):
  (ReflectliteValue.method (ReflectliteValue.valueError "reflectlite.Value.Elem" 0) ReflectliteValue.elem #[.agg #[.pointer (some ⟨1, 154, none⟩), .pointer (some a), .int .u64 150]]).run Tryz.prog W
   = .ok (.agg #[.pointer (some ⟨1,46,none⟩),.pointer (some p),.int .u64 386]) W:=by
 rw[rlm];simp only[Sem.run_bind,Dw,Result.andThen];simp[ReflectliteValue.elem,loadVar,isAgg,underlying,Tryz.underlying154,ha,Result.andThen,GK,xmkE]
theorem rls (v x:Value):ReflectliteValue.set #[v,x]=(do
  let (some (dst,a,fl),some (src,b,_)):=(<- ReflectliteValue.parts v,<- ReflectliteValue.parts x)
   | unsupported (.noEntry "extern/(internal/reflectlite.Value).Set.zeroValue")
  if fl / ReflectliteValue.flagAddr % 2 == 0 then unsupported (.noEntry "extern/(internal/reflectlite.Value).Set.unaddressable")
  let val <- loadVar src b
  if <- Rtype.directlyAssignable dst src then storeVar dst a val
  else if <- Rtype.implements dst src then
   if(<- Rtype.kind src)==20 then
    match val with
    | .nilIface => unsupported (.noEntry "extern/reflectlite: a nil value of one interface type handed on as a value of another")
    |_=>storeVar dst a val
   else storeVar dst a (.iface src val)
  else panicString ("reflectlite.Set: value of type " ++ (<- Rtype.spelt src) ++ " is not assignable to type " ++ (<- Rtype.spelt dst))
  pure (.tuple #[])):=rfl
theorem GJ (a:Addr)(w:World):(ReflectliteValue.parts (.agg #[.pointer (some ⟨1,46,none⟩),.pointer (some a),.int .u64 386])).run Tryz.prog w=.ok (some (46,a,386)) w:=by kernel_rfl
theorem Ji (a:Addr)(w:World):(ReflectliteValue.parts (.agg #[.pointer (some ⟨1,46,none⟩),.pointer (some a),.int .u64 130])).run Tryz.prog w=.ok (some (46,a,130)) w:=by kernel_rfl
theorem GL (w:World):(Rtype.directlyAssignable 46 46).run Tryz.prog w=.ok true w:=by kernel_rfl
theorem Mh (ta b:Addr)(c:Int)(old:Value)(W:World)(hb:W.cell? b=some (.int .i64 c))(ht:W.cell? ta=some old)(hf:W.frozen? ta=false):
  (ReflectliteValue.set #[.agg #[.pointer (some ⟨1,46,none⟩),.pointer (some ta),.int .u64 386],.agg #[.pointer (some ⟨1,46,none⟩),.pointer (some b),.int .u64 130]]).run Tryz.prog W
   = .ok (.tuple #[]) (W.setCell ta (.int .i64 c)):=by
 rw[rls];simp only[Sem.run_bind,GJ,Ji,Result.andThen];simp[ReflectliteValue.flagAddr,loadVar,isAgg,underlying,Tryz.underlying46,hb,Result.andThen,GL,storeVar,Value.cells,storeCells,Addr.add];rw[run_store Tryz.prog W ta _ _ (by rfl)];simp[ht,hf]
def nZ (w:World)(t:Addr)(c:Int):World:=((((w.alloc (.cells #[.pointer (some t)] 154)).alloc (.cells #[.pointer (some ⟨1,154,none⟩),.pointer (some ⟨w.heap.size,0,none⟩),.int .u64 150] 195)).alloc (.cells #[.pointer (some ⟨1,154,none⟩),.pointer (some ⟨w.heap.size,0,none⟩),.int .u64 150] 195)).alloc (.cells #[.int .i64 c] 46)).setCell t (.int .i64 c)
set_option maxHeartbeats 4000000 in
theorem L7 (c:Int)(t:Addr)(old:Value)(w:World)(hg:GH w)(ht0:w.cell? t=some old)(hf0:w.frozen? t=false):
  Calls Tryz.prog 73 #[.iface 46 (.int .i64 c),.iface 154 (.pointer (some t))] w λev w'=>ev=.returned (.bool true)/\w'=nZ w t c:=by
 unfold GH at hg;unfold nZ;have h6:=@run_callFunc_extern Tryz.prog 106 _ (fun args=>ReflectliteValue.unpack (args.getD 0 (.tuple #[]))) Tryz.func106 (by kernel_rfl) (by kernel_rfl) (by kernel_rfl) (by kernel_rfl);have h7 := @run_callFunc_extern Tryz.prog 107 _ (ReflectliteValue.methodAny (ReflectliteValue.valueError "reflectlite.Value.Type" 0) (fun t _ _ _ => ReflectliteType.toType t)) Tryz.func107 (by kernel_rfl) (by kernel_rfl) (by kernel_rfl) (by kernel_rfl)
 have h8 := @run_callFunc_extern Tryz.prog 108 _ (ReflectliteValue.method (ReflectliteValue.valueError "reflectlite.Value.IsNil" 0) ReflectliteValue.isNil) Tryz.func108 (by kernel_rfl) (by kernel_rfl) (by kernel_rfl) (by kernel_rfl)
 have h27:=@run_callFunc_extern Tryz.prog 206 _ (ReflectliteType.abiMethod fun t=>do pure (.int .u8 (<- Rtype.kind t))) Tryz.func206 (by kernel_rfl) (by kernel_rfl) (by kernel_rfl) (by kernel_rfl);have h37:=@run_callFunc_extern Tryz.prog 222 _ (ReflectliteType.method ReflectliteType.elem) Tryz.func222 (by kernel_rfl) (by kernel_rfl) (by kernel_rfl) (by kernel_rfl);have h38 := @run_callFunc_extern Tryz.prog 223 _ (ReflectliteType.relation "Implements" ReflectliteType.implements_) Tryz.func223 (by kernel_rfl) (by kernel_rfl) (by kernel_rfl) (by kernel_rfl)
 have h10:=@run_callFunc_extern Tryz.prog 141 _ ReflectliteType.typeOf Tryz.func141 (by kernel_rfl) (by kernel_rfl) (by kernel_rfl) (by kernel_rfl);have h35 := @run_callFunc_extern Tryz.prog 220 _ (ReflectliteType.relation "AssignableTo" ReflectliteType.assignableTo) Tryz.func220 (by kernel_rfl) (by kernel_rfl) (by kernel_rfl) (by kernel_rfl)
 have h11 := @run_callFunc_extern Tryz.prog 142 _ (ReflectliteValue.method (ReflectliteValue.valueError "reflectlite.Value.Elem" 0) ReflectliteValue.elem) Tryz.func142 (by kernel_rfl) (by kernel_rfl) (by kernel_rfl) (by kernel_rfl)
 have h12:=@run_callFunc_extern Tryz.prog 143 _ ReflectliteValue.set Tryz.func143 (by kernel_rfl) (by kernel_rfl) (by kernel_rfl) (by kernel_rfl);have tO:=GI;have mA:=lI;have a25:=vY;have v25:=Dv;have f6:=Du;have f7:=KQ;have mK:=yH;have mE:=yI;have mI:=ng;have k27:=KS;have k25:=KT;have e27:=KU;have i25:=vX;have n8:=Jk ⟨w.heap.size,0,none⟩ t ((w.alloc (.cells #[.pointer (some t)] 154)).alloc (.cells #[.pointer (some ⟨1,154,none⟩),.pointer (some ⟨w.heap.size,0,none⟩),.int .u64 150] 195)) (by simp);have hlt:0<w.heap.size:=by
  rcases Nat.eq_zero_or_pos w.heap.size with h0|h
  ·simp[World.cell?,h0]at hg
  ·exact h
 have hg2:((w.alloc (.cells #[.pointer (some t)] 154)).alloc (.cells #[.pointer (some ⟨1,154,none⟩),.pointer (some ⟨w.heap.size,0,none⟩),.int .u64 150] 195)).cell? ⟨0,0,none⟩=some (.iface 240 (.agg #[.pointer (some ⟨1,34,none⟩)])):=by
  rw[World.cell?_alloc_lt _ _ ⟨0,0,none⟩ (by simp),World.cell?_alloc_lt _ _ ⟨0,0,none⟩ hlt];exact hg
 have htl:t.block<w.heap.size:=by
  rcases Nat.lt_or_ge t.block w.heap.size with h|h
  ·exact h
  ·simp[World.cell?,Array.getElem?_eq_none h]at ht0
 have el:=Jl ⟨w.heap.size,0,none⟩ t (((w.alloc (.cells #[.pointer (some t)] 154)).alloc (.cells #[.pointer (some ⟨1,154,none⟩),.pointer (some ⟨w.heap.size,0,none⟩),.int .u64 150] 195)).alloc (.cells #[.pointer (some ⟨1,154,none⟩),.pointer (some ⟨w.heap.size,0,none⟩),.int .u64 150] 195)) (by rw[World.cell?_alloc_lt _ _ ⟨w.heap.size,0,none⟩ (by simp;omega)];simp);have st:=Mh t ⟨w.heap.size+1+1+1,0,none⟩ c old ((((w.alloc (.cells #[.pointer (some t)] 154)).alloc (.cells #[.pointer (some ⟨1,154,none⟩),.pointer (some ⟨w.heap.size,0,none⟩),.int .u64 150] 195)).alloc (.cells #[.pointer (some ⟨1,154,none⟩),.pointer (some ⟨w.heap.size,0,none⟩),.int .u64 150] 195)).alloc (.cells #[.int .i64 c] 46))
  (by rw[World.cell?_alloc_at _ _ _ _ (by simp)];rfl)
  (by rw[World.cell?_alloc_lt _ _ t (by simp;omega),World.cell?_alloc_lt _ _ t (by simp;omega),World.cell?_alloc_lt _ _ t (by simp;omega),World.cell?_alloc_lt _ _ t htl];exact ht0)
  (by rw[World.frozen?_alloc_old _ _ t (by simp;omega),World.frozen?_alloc_old _ _ t (by simp;omega),World.frozen?_alloc_old _ _ t (by simp;omega),World.frozen?_alloc_old _ _ t (Nat.ne_of_lt htl)];exact hf0)
 go_enter Tryz.func73,Tryz.ntmps73
 go_wp2
 refine wp_loop_rounds 1 ?_;rw[rounds_succ]
 go_wp2
 go_ret
 exact⟨rfl,rfl⟩
theorem number_nil (w:World):Calls Tryz.prog 36 #[.nilIface] w λe w'=>e=.returned (.int .i64 0)/\Below w.heap.size w w':=by
 go_enter Tryz.func36,Tryz.ntmps36
 go_wp2_with (go_at_call 73;refine(L6 _ _).mono ?_;rintro e w' ⟨rfl,rfl⟩)
 go_ret
 exact⟨rfl,dI (Below.refl _ _) _⟩
theorem number_some (c:Int)(w:World)(hg:GH w):Calls Tryz.prog 36 #[.iface 46 (.int .i64 c)] w λe w'=>e=.returned (.int .i64 c)/\Below w.heap.size w w':=by
 have hg1:GH (w.alloc (.cells #[.int .i64 0] 46)):=hg.step (dI (Below.refl _ _) _);have hb:Below w.heap.size w (nZ (w.alloc (.cells #[.int .i64 0] 46)) ⟨w.heap.size,0,none⟩ c):=by
  unfold nZ;refine Gx ?_ (Nat.le_refl _);exact dI (dI (dI (dI (dI (Below.refl _ _) _) _) _) _) _
 have hc:(nZ (w.alloc (.cells #[.int .i64 0] 46)) ⟨w.heap.size,0,none⟩ c).cell? ⟨w.heap.size,0,none⟩=some (.int .i64 c):=by
  unfold nZ;exact World.cell?_setCell_same _ _ _ (u:=.int .i64 0) (by
   rw[World.cell?_alloc_lt _ _ _ (by simp;omega),World.cell?_alloc_lt _ _ _ (by simp;omega),World.cell?_alloc_lt _ _ _ (by simp;omega),World.cell?_alloc_lt _ _ _ (by simp),World.cell?_alloc_at _ _ _ _ (by simp)];rfl)
 go_enter Tryz.func36,Tryz.ntmps36
 go_wp2_with (go_at_call 73;refine(L7 c ⟨w.heap.size,0,none⟩ (.int .i64 0) _ hg1 (by simp) (by simp)).mono ?_;rintro e w' ⟨rfl,rfl⟩)
 go_ret
 exact⟨rfl,hb⟩
end Go.Proofs.YtbbnmhmfdbcmhaaGreatDoorW.As
namespace Go.Proofs.YtbbnmhmfdbcmhaaGreatDoorW.Laid
open Go.ChangeShapes Go.WideShapes Go.RowKit Go.Proofs.YtbbnmhmfdbcmhaaGreatDoor Go.Proofs.YtbbnmhmfdbcmhaaGreatDoorW
theorem et0 : Tryz.prog.globalNamed "errors.errorType" = some 0 := by kernel_rfl
theorem rt0 : (Tryz.prog.cutTypes.find? (·.1 == "internal/reflectlite.rtype")).map (·.2) = some 240 := by kernel_rfl
theorem Lj:((List.range 337).filter λt=>Tryz.prog.rowNamed t [101,114,114,111,114])=[34]:=by kernel_rfl
theorem size:Tryz.prog.types.size=337:=by kernel_rfl
theorem handle_of_laid {W : World} (h : laidMetH Tryz.prog [("errors.errorType", Rows.laid_errors_errorType)] W) : As.GH W := by
 have h' : laidMet Tryz.prog [] W /\ handlesMet Tryz.prog [("errors.errorType", Rows.laid_errors_errorType)] W := h
 obtain⟨name,u,ty,e1,e2,e3,e4,e5⟩:=h'.2 _ (List.mem_singleton.2 rfl);have en:name=[101,114,114,111,114]:=(Option.some.inj e1).symm;subst en;obtain rfl:=Option.some.inj (rt0.symm.trans e2);have hm:ty∈(List.range 337).filter λt=>Tryz.prog.rowNamed t [101,114,114,111,114]:=List.mem_filter.2 ⟨List.mem_range.2 (by rw[<- size];exact e3),e4⟩
 rw[Lj]at hm;obtain rfl:=List.mem_singleton.1 hm;have hh:typeHandle Tryz.prog 34=.pointer (some ⟨1,34,none⟩):=by kernel_rfl
 rw[hh]at e5;unfold As.GH;simpa using World.var?_cell et0 e5 0
noncomputable def laidWorld (os:Os):World:=
 let w0:=World.holding Tryz.prog os ⟨#[],#[],[]⟩
 { w0 with heap:=w0.heap.modify 0 fun
   |.cells _ t frozen=>.cells #[.iface 240 (.agg #[.pointer (some ⟨1,34,none⟩)])] t frozen
   |o=>o }
theorem laidWorld_met (os : Os) (args : Array Value) : laidMetH Tryz.prog [("errors.errorType", Rows.laid_errors_errorType)] ((laidWorld os).forCall (fun _ _ => 0) ⟨#[], args, []⟩).memory :=
 laidMetH_of_parts (laidMet_nil _ _) (by kernel_rfl)
end Go.Proofs.YtbbnmhmfdbcmhaaGreatDoorW.Laid
