/- Definitions and lemmas for the law TopOther: what the program's functions come to. Conditions: as each lemma says. -/
import Derived.Test.YtbbnmhmfdbcmhaaGreatDoorG7
import Derived.Test.YtbbnmhmfdbcmhaaGreatDoorG6
import Derived.Test.YtbbnmhmfdbcmhaaGreatDoorG4
import Derived.Test.YtbbnmhmfdbcmhaaGreatDoorProg
import Derived.StillTailTactics
import Derived.Below
import Derived.WalkKit
import Derived.LaidEql
import Derived.Stop.Asserts
import Derived.RowKitTokens
import Derived.Test.YtbbnmhmfdbcmhaaGreatDoorRows
import Derived.ChangeSame
import Derived.ChangeVars
import Derived.JoinedOf
import Derived.RowKit
import Derived.LaidLaws
import Derived.LaidHandle
import Derived.Stop.Joined
set_option linter.all false
set_option linter.unusedVariables false
set_option linter.unusedSimpArgs false
set_option linter.deprecated false
namespace Go.Eng.Top
open Go.RowKit Go.Eng Go.Eng.LVar Go.Eng.LCrc Go.Eng.LFrm
set_option maxRecDepth 100000
theorem Eh {x:Nat} {l:List Nat} (h:nodN (x::l)=true):x ∉ l/\nodN l=true:=by
 have h:(!l.contains x && nodN l)=true:=h;rw [MM] at h;refine ⟨fun hx=>?_,h.2⟩;have h1:=h.1;rw [show l.contains x=true from NN.2 hx] at h1;cases h1
theorem l9 {x:Int} {l:List Int} (h:nodI (x::l)=true):x ∉ l/\nodI l=true:=by
 have h:(!l.contains x && nodI l)=true:=h;rw [MM] at h;refine ⟨fun hx=>?_,h.2⟩;have h1:=h.1;rw [show l.contains x=true from NN.2 hx] at h1;cases h1
theorem sO:∀ {l:List Int},nodI l=true->l.Nodup
 | [],_=>O7
 | x::l,h=>On.2 ⟨(l9 h).1,sO (l9 h).2⟩
theorem AB (keep:Int):∀ (M:MF)(B:List (List Int))(sf:List Int),sf.length=B.length->nodN (M.map fun e=>e.2.getD 0)=true ->
  (∀ e ∈ M,∃ g,e.2=some g/\g < B.length/\(B.getD g []).length<=1000000/\0<=sf.getD g 0/\sf.getD g 0<=((B.getD g []).length:Int)) ->
  ∃ B' sf',yM keep M B sf=some (B',sf')/\B'.length=B.length/\sf'.length=sf.length /\
   (∀ e ∈ M,∀ g,e.2=some g->∃ q:Nat,sf.getD g 0<=(q:Int)/\q<=(B.getD g []).length/\B'.getD g []=(B.getD g []).take q/\sf'.getD g 0=(q:Int)) /\
   (∀ g,(∀ e ∈ M,e.2 ≠ some g)->B'.getD g []=B.getD g []/\sf'.getD g 0=sf.getD g 0)
 | [],B,sf,_,_,_=>⟨B,sf,rfl,rfl,rfl,fun e he=>(by cases he),fun _ _=>⟨rfl,rfl⟩⟩
 | e::M,B,sf,hl,hn,h=>by
  obtain ⟨g,eg,h1,h2,h3,h4⟩:=h e (Nw ..);obtain ⟨s,hs⟩:=Nl h3;obtain ⟨n1,n2⟩:=Eh hn;have hne:∀ x ∈ M,x.2 ≠ some g:=fun x hx e2=>n1 (Nb.2 ⟨x,hx,by dsimp only;rw [e2,eg]⟩)
  obtain ⟨q,k1,k2,k3,_⟩:=Go.Proofs.Due.keptN_eq keep (B.getD g []).length s (by omega) (by omega);have ek:lG keep ((B.getD g []).length:Int) (sf.getD g 0)=(q:Int):=by rw [hs];exact k1
  obtain ⟨B',sf',r1,r2,r3,r4,r5⟩:=AB keep M (B.set g ((B.getD g []).take q)) (sf.set g (q:Int)) (by rw [MB,MB];exact hl) n2 (fun x hx=>by
   obtain ⟨g2,e2,p1,p2,p3,p4⟩:=h x (M0 _ hx);have hne2:g ≠ g2:=fun e3=>hne x hx (by rw [e3];exact e2)
   refine ⟨g2,e2,by rw [MB];exact p1,?_⟩;rw [getD_set_ne _ _ _ hne2,getD_set_ne _ _ _ hne2];exact ⟨p2,p3,p4⟩)
  refine ⟨B',sf',?_,by rw [r2,MB],by rw [r3,MB],fun x hx g2 e2=>?_,fun g2 h5=>?_⟩
  ·unfold yM;rw [eg];simp only [];rw [ek,MV];have c:(Nat.blt g B.length && (Nat.blt g sf.length && (Nat.ble (B.getD g []).length 1000000 && (decide (0<=sf.getD g 0) && decide (sf.getD g 0<=((B.getD g []).length:Int))))))=true:=by
    rw [show Nat.blt g B.length=true from Nq h1,show Nat.blt g sf.length=true from Nq (by omega),Nq h2,MJ h3,MJ h4];rfl
   rw [c,ME];exact r1
  ·rcases MO.1 hx with hx | hx
   ·rw [hx,eg] at e2;cases e2;obtain ⟨r6,r7⟩:=r5 g hne;refine ⟨q,by rw [hs];omega,k3,?_,?_⟩
    ·rw [r6,ah _ _ _ _ h1]
    ·rw [r7,ah _ _ _ _ (by omega)]
   ·have hne2:g ≠ g2:=fun e3=>hne x hx (by rw [e3];exact e2)
    obtain ⟨q2,p1,p2,p3,p4⟩:=r4 x hx g2 e2;rw [getD_set_ne _ _ _ hne2] at p1 p2 p3;exact ⟨q2,p1,p2,p3,p4⟩
  ·have hne2:g ≠ g2:=fun e3=>h5 e (Nw ..) (by rw [eg,e3])
   obtain ⟨r6,r7⟩:=r5 g2 (fun x hx=>h5 x (M0 _ hx));rw [getD_set_ne _ _ _ hne2] at r6 r7;exact ⟨r6,r7⟩
structure RS (c:DC)(d rho t:Nat)(bs:List Int)(rs:List (List Int))(p:List Int):Prop where
 hd:d < c.F.length
 hR:c.R.getD d 0=(rho:Int)
 rhl:rho<=262144
 hL:d < c.L.length
 left:c.L.getD d 0=-1
 hS:d < c.S.length
 live:c.S.getD d false=false
 bsf:c.sf.length=c.B.length
 nk:nodI ((c.F.getD d []).map (·.1))=true
 l3:(c.F.getD d []).length<=3
 all:∀ e ∈ c.F.getD d [],∃ g,e.2=some g/\g < c.B.length/\(c.B.getD g []).length<=1000000
 sum:sumL c.B (c.F.getD d [])<=rho
 files:∃ b r,(c.F.getD d []).filter (fX t)=Mof t b r/\(b=none ↔ t=0)/\(∀ g,b=some g->g < c.B.length/\c.B.getD g []=fr (encs [(t:Int)]++bs)/\c.sf.getD g 0=((c.B.getD g []).length:Int)) /\
  (t ≠ 0->(encs [(t:Int)]++bs).length<=16384/\Byt bs)/\(∀ h,r=some h->h < c.B.length/\c.B.getD h []=frs rs++p/\c.sf.getD h 0=((frs rs++p).length:Int))/\(r=none->rs=[]/\p=[])/\(∀ g h,b=some g->r=some h->g ≠ h)
 rcs:∀ x ∈ rs,Byt x/\x.length<=80
 pok:torn p
 tb:t<=1000001
theorem yC {B B':List (List Int)}:∀ (M:MF),(∀ e ∈ M,(B'.getD (e.2.getD 0) []).length<=(B.getD (e.2.getD 0) []).length)->sumL B' M<=sumL B M
 | [],_=>MH _
 | e::M,h=>by
  have h1:=h e (Nw ..);have h2:=yC M fun x hx=>h x (M0 _ hx)
  unfold sumL;omega
theorem yU {t:Nat} {b r:Option Nat}:(∀ g,b=some g->∃ e ∈ Mof t b r,e.2=some g)/\(∀ g,r=some g->∃ e ∈ Mof t b r,e.2=some g):=by
 cases b<;>cases r<;>refine ⟨fun g hg=>?_,fun g hg=>?_⟩<;>cases hg<;>simp [Mof]
theorem DS {c:DC} {d rho t:Nat} {bs:List Int} {rs:List (List Int)} {p:List Int} (h:DSt c d rho t bs rs p)(keep:Int) :
  ∃ B' sf' rs' p',Ev1 (fun k=>CF k ko gN [inj (.ref 29) (some d),inj (.int .i64) keep,Ci c.F,Ck c.L,Cl c.S,Ct c.B,Cu c.sf]) (c.F,c.L.set d (-1),c.S.set d false,B',sf') /\
   (rs'=rs\/∃ e,p=fr e/\rs'=rs++[e])/\∀ jd jt jb jr jk,RS ⟨c.F,c.R,c.L.set d (-1),c.S.set d false,jd,jt,jb,jr,jk,B',sf'⟩ d rho t bs rs' p':=by
 obtain ⟨B',sf',r1,r2,r3,r4,_⟩:=AB keep (c.F.getD d []) c.B c.sf h.bsf h.ni h.all;have hev:Ev1 (fun k=>CF k ko gN [inj (.ref 29) (some d),inj (.int .i64) keep,Ci c.F,Ck c.L,Cl c.S,Ct c.B,Cu c.sf]) (c.F,c.L.set d (-1),c.S.set d false,B',sf'):=by
  refine Ev1.step (fun k=>(rfl:CF (k+1) ko gN [inj (.ref 29) (some d),inj (.int .i64) keep,Ci c.F,Ck c.L,Cl c.S,Ct c.B,Cu c.sf]=DT (some d) keep c.F c.L c.S c.B c.sf)) (Ev1.const ?_);show (bif nodN ((c.F.getD d []).map (fun e=>e.2.getD 0)) && Nat.blt d c.S.length && Nat.blt d c.L.length then (match yM keep (c.F.getD d []) c.B c.sf with
   | some p=>some (c.F,c.L.set d (-1),c.S.set d false,p.1,p.2)
   | none=>none) else none)=_
  rw [h.ni,show Nat.blt d c.S.length=true from Nq h.hS,show Nat.blt d c.L.length=true from Nq h.hL,r1];rfl
 obtain ⟨b,r,hF,hf⟩:=h.files;have hmem:∀ e,e ∈ Mof t b r->e ∈ c.F.getD d []:=fun e he=>by rw [<- hF] at he;exact (OG.1 he).1
 have hb:∀ g,b=some g->g < B'.length/\B'.getD g []=fr (encs [(t:Int)]++bs)/\sf'.getD g 0=((B'.getD g []).length:Int):=fun g hg=>by
  obtain ⟨e,he,e2⟩:=yU (t:=t) (r:=r) |>.1 g hg;obtain ⟨q1,q2,q3⟩:=hf.bok g hg;obtain ⟨q,p1,p2,p3,p4⟩:=r4 e (hmem e he) g e2;have:q=(c.B.getD g []).length:=by omega
  rw [this,Pe] at p3;rw [p3,q2,p4,this,q2,r2];exact ⟨q1,rfl,rfl⟩
 have hall:∀ e ∈ c.F.getD d [],∃ g,e.2=some g/\g < B'.length/\(B'.getD g []).length<=1000000:=fun e he=>by
  obtain ⟨g,e2,q1,q2,_⟩:=h.all e he;obtain ⟨q,p1,p2,p3,p4⟩:=r4 e he g e2;refine ⟨g,e2,by omega,?_⟩;rw [p3,NC];omega
 have hsum:sumL B' (c.F.getD d [])<=rho:=Nc (yC _ fun e he=>by
  obtain ⟨g,e2,q1,q2,_⟩:=h.all e he;obtain ⟨q,p1,p2,p3,p4⟩:=r4 e he g e2;rw [e2];simp only [MN];rw [p3,NC];omega) h.sum
 have mk:∀ (rs':List (List Int)) (p':List Int),(∀ h0,r=some h0->B'.getD h0 []=frs rs'++p'/\sf'.getD h0 0=((frs rs'++p').length:Int))->(r=none->rs'=[]/\p'=[])->(∀ x ∈ rs',Byt x/\x.length<=80)->torn p' ->
   ∀ jd jt jb jr jk,RS ⟨c.F,c.R,c.L.set d (-1),c.S.set d false,jd,jt,jb,jr,jk,B',sf'⟩ d rho t bs rs' p':=fun rs' p' k1 k2 k3 k4 jd jt jb jr jk =>
  ⟨h.hd,h.hR,h.rhl,by dsimp only;rw [MB];exact h.hL,ah _ _ _ _ h.hL,by dsimp only;rw [MB];exact h.hS,ah _ _ _ _ h.hS,by dsimp only;rw [r2,r3];exact h.bsf,h.nk,h.l3,hall,hsum,
   ⟨b,r,hF,hf.bz,hb,hf.bl,fun h0 hh=>⟨by dsimp only;rw [r2];exact (hf.rok h0 hh).1,k1 h0 hh⟩,k2,hf.ne⟩,k3,k4,h.tb⟩
 cases hr:r with
 | none =>
  obtain ⟨z1,z2⟩:=hf.rz hr;exact ⟨B',sf',rs,[],hev,.inl rfl,mk rs [] (fun h0 hh=>by rw [hr] at hh;cases hh) (fun _=>⟨z1,rfl⟩) h.rcs oZ⟩
 | some g =>
  obtain ⟨e,he,e2⟩:=yU (t:=t) (b:=b) |>.2 g hr;obtain ⟨q1,q2,q3⟩:=hf.rok g hr;obtain ⟨q,p1,p2,p3,p4⟩:=r4 e (hmem e he) g e2;rw [q2] at p2 p3;rw [q3] at p1;have et:(frs rs++p).take q=frs rs++p.take (q - (frs rs).length):=by
   rw [List.take_append,Oc (by omega)]
  rw [et] at p3;rw [My] at p2;have el:((frs rs++p.take (q - (frs rs).length)).length:Int)=(q:Int):=by rw [My,NC];omega
  have fin:∀ rs' p',frs rs++p.take (q - (frs rs).length)=frs rs'++p'->(∀ h0,r=some h0->B'.getD h0 []=frs rs'++p'/\sf'.getD h0 0=((frs rs'++p').length:Int)):=fun rs' p' e0 h0 hh=>by
   rw [hr] at hh;cases hh;rw [<- e0,p3,p4,el];exact ⟨rfl,rfl⟩
  have nn:∀ (rs':List (List Int)) (p':List Int),r=none->rs'=[]/\p'=[]:=fun _ _ hh=>by rw [hr] at hh;cases hh
  rcases h.pok with hp | ⟨e0,hp,hb1,hb2⟩
  ·exact ⟨B',sf',rs,[],hev,.inl rfl,mk rs [] (fin rs [] (by rw [hp];simp)) (nn _ _) h.rcs oZ⟩
  ·have hfl:=iJ e0;by_cases hq:(fr e0).length<=q - (frs rs).length
   ·refine ⟨B',sf',rs++[e0],[],hev,.inr ⟨e0,hp,rfl⟩,mk _ [] (fin (rs++[e0]) [] ?_) (nn _ _) (fun x hx=>?_) oZ⟩
    ·rw [hp,Oc hq,po,Ns]
    ·rcases MU.1 hx with hx | hx
     ·exact h.rcs x hx
     ·rw [Na.1 hx];exact ⟨hb1,hb2⟩
   ·exact ⟨B',sf',rs,(fr e0).take (q - (frs rs).length),hev,.inl rfl,mk rs _ (fin rs _ (by rw [hp])) (nn _ _) h.rcs (GB hb1 (by omega) _ (by omega))⟩
theorem mn:∀ (M:MF)(n:Int),nodI (M.map (·.1))=true->cq M n=M.filter fun e=>!decide (e.1=n)
 | [],_,_=>rfl
 | e::r,n,h=>by
  obtain ⟨h1,h2⟩:=l9 h;unfold cq;by_cases he:e.1=n
  ·rw [MJ he,ME,N6,MJ he];symm;refine Pv.2 fun x hx=>?_
   rw [MD];· rfl
   intro hx2;exact h1 (Nb.2 ⟨x,hx,hx2.trans he.symm⟩)
  ·rw [MD he,MQ,N6,MD he,mn r n h2];rfl
theorem nB:∀ (M:MF)(n:Int),(∀ e ∈ M,∃ g,e.2=some g)->n ∈ M.map (·.1)->∃ g,aL none M n=some g/\(n,some g) ∈ M
 | [],n,_,h=>by cases h
 | e::r,n,ha,h=>by
  obtain ⟨g,hg⟩:=ha e (Nw ..);by_cases he:e.1=n
  ·refine ⟨g,by unfold aL;rw [MJ he,ME,hg],?_⟩;rw [<- he,<- hg];exact Nw ..
  ·rcases MO.1 (show n ∈ e.1::r.map (·.1) from h) with h | h
   ·exact (he h.symm).elim
   ·obtain ⟨g2,h1,h2⟩:=nB r n (fun x hx=>ha x (M0 _ hx)) h;exact ⟨g2,by unfold aL;rw [MD he,MQ];exact h1,M0 _ h2⟩
theorem pX (f:Int × Option Nat->Bool):∀ (M:MF),nodI (M.map (·.1))=true->nodI ((M.filter f).map (·.1))=true
 | [],_=>rfl
 | e::r,h=>by
  obtain ⟨h1,h2⟩:=l9 h;have ih:=pX f r h2;rw [N6];split
  ·show (!((r.filter f).map (·.1)).contains e.1 && nodI ((r.filter f).map (·.1)))=true;rw [ih,N4];cases hc:((r.filter f).map (·.1)).contains e.1 with
   | false=>rfl
   | true =>
    obtain ⟨x,hx,hx2⟩:=Nb.1 (NN.1 hc);exact (h1 (Nb.2 ⟨x,(OG.1 hx).1,hx2⟩)).elim
  ·exact ih
theorem KO {F:List MF} {L:List Int} {S:List Bool} {d:Nat} (hd:d < F.length)(hl:L.getD d 0=-1)(hs:S.getD d false=false) {M:MF} (hM:F.getD d []=M) {name:Int} {g:Nat} (hg:aL none M name=some g) :
  Ev1 (fun k=>CF k gi cP [inj (.ref 29) (some d),inj (.int .i64) name,Ci F,Ck L,Cl S]) (none,F.set d (cq M name),L,S) :=
 DY (R:=List.replicate d 0++[262144]) ⟨hd,by rw [show d=(List.replicate d (0:Int)).length by simp];simpa using bh (List.replicate d (0:Int)) 262144 0,hl,hs⟩ hM hg
section
variable {L:List Int} {S:List Bool} {d j t:Nat} {jd:List (Option Nat)} {jt:List Int} {jb:List (List Int)} {jr:List (List (List Int))} {jk:List Bool} {B:List (List Int)} {sf:List Int} {M:MF} {N:List Int}
noncomputable abbrev hOp3 (k m d j:Nat)(N:List Int)(i:Int)(F:List MF)(L:List Int)(S:List Bool)(jd:List (Option Nat))(jt:List Int)(jb:List (List Int))(jr:List (List (List Int)))(jk:List Bool)(B:List (List Int))(sf:List Int):=tg k m (some d) j N (N.length:Int) i F L S jd jt jb jr jk B sf
theorem yR (hN:N.Nodup)(hNl:N.length<=3)(hM:nodI (M.map (·.1))=true)(hMa:∀ e ∈ M,∃ g,e.2=some g)(hNM:∀ n ∈ N,n ∈ M.map (·.1))(hl:L.getD d 0=-1)(hs:S.getD d false=false)(hjt:jt.getD j 0=(t:Int))(ht:t<=1000001):∀ (dd i:Nat)(F:List MF),i+dd=N.length->d < F.length->F.getD d []=M.filter (fun e=>fX t e || (N.drop i).contains e.1) ->
  ∃ F',F'.length=F.length/\F'.getD d []=M.filter (fX t)/\∀ R,Ev2 (fun k m=>hOp3 k m d j N (N.length:Int) F' L S jd jt jb jr jk B sf) R->Ev2 (fun k m=>hOp3 k m d j N (i:Int) F L S jd jt jb jr jk B sf) R
 | 0,i,F,hi,hd,hF=>by
  refine ⟨F,rfl,?_,fun R h=>by rw [show i=N.length by omega];exact h⟩;rw [hF,No (by omega)];simp
 | dd+1,i,F,hi,hd,hF=>by
  have hlt:i < N.length:=by omega
  have he:N.getD (Int.toNat (i:Int)) 0=N[i]:=by rw [MV];exact bj N i _ hlt
  have hdr:N.drop i=N[i]::N.drop (i+1):=Nd hlt;have hnin:N[i] ∉ N.drop (i+1):=by
   have:(N.drop i).Nodup:=hN.sublist (List.drop_sublist _ _);rw [hdr] at this;exact (On.1 this).1
  have e3:w64 (2+jt.getD j 0)=((2+t:Nat):Int):=by rw [hjt,bN (by omega) (by omega)];omega
  have st:=fun F k m=>Bc k m (some d) j N (N.length:Int) (i:Int) F L S jd jt jb jr jk B sf N[i] he.symm ((i+1:Nat):Int) (wnat (by omega)).symm ((2+t:Nat):Int) e3.symm
  by_cases hk:N[i]=0\/N[i]=((2+t:Nat):Int)
  ·have hF2:F.getD d []=M.filter (fun e=>fX t e || (N.drop (i+1)).contains e.1):=by
    rw [hF];refine PN fun e _=>?_
    rw [hdr,NO];by_cases h0:e.1=N[i]
    ·have:fX t e=true:=by
      unfold fX;rw [h0];rcases hk with hk | hk<;>rw [hk]
      ·rw [MJ rfl];rfl
      ·rw [MJ (show ((2+t:Nat):Int)=((2+t:Nat):Int) from rfl),Qf]
     rw [this];rfl
    ·rw [NM h0,P5]
   obtain ⟨F',f1,f2,f3⟩:=yR hN hNl hM hMa hNM hl hs hjt ht dd (i+1) F (by omega) hd hF2;refine ⟨F',f1,f2,fun R h=>Ev2.step (st F) (Ev2.posD (by omega) (Ev2.pos (ak (by omega) (by omega)) ?_))⟩;rcases hk with hk | hk
   ·exact Ev2.neg (by rw [MJ hk];rfl) (f3 R h)
   ·by_cases h0:N[i]=0
    ·exact Ev2.neg (by rw [MJ h0];rfl) (f3 R h)
    ·exact Ev2.pos (by rw [MD h0];rfl) (Ev2.neg (by rw [MJ hk];rfl) (f3 R h))
  ·have h0:¬ N[i]=0:=fun h=>hk (.inl h)
   have h2:¬ N[i]=((2+t:Nat):Int):=fun h=>hk (.inr h)
   have hin:N[i] ∈ (F.getD d []).map (·.1):=by
    obtain ⟨e,he1,he2⟩:=Nb.1 (hNM _ (Np hlt));refine Nb.2 ⟨e,?_,he2⟩;rw [hF];refine OG.2 ⟨he1,?_⟩;rw [hdr,NO,O6.2 he2];simp
   have hMi:∀ e ∈ F.getD d [],∃ g,e.2=some g:=fun e he1=>by rw [hF] at he1;exact hMa e (OG.1 he1).1
   obtain ⟨g,hg,_⟩:=nB _ _ hMi hin;have hnod:nodI ((F.getD d []).map (·.1))=true:=by rw [hF];exact pX _ _ hM
   have hF2:(F.set d (cq (F.getD d []) N[i])).getD d []=M.filter (fun e=>fX t e || (N.drop (i+1)).contains e.1):=by
    rw [ah _ _ _ _ hd,mn _ _ hnod,hF,List.filter_filter];refine PN fun e _=>?_
    rw [hdr,NO];by_cases h3:e.1=N[i]
    ·have k0:fX t e=false:=by unfold fX;rw [h3,MD h0,MD h2];rfl
     have c0:(N.drop (i+1)).contains e.1=false:=by
      cases hc:(N.drop (i+1)).contains e.1 with
      | false=>rfl
      | true=>rw [h3] at hc;exact (hnin (NN.1 hc)).elim
     rw [k0,c0,MJ h3];rfl
    ·rw [MD h3,NM h3];simp
   obtain ⟨F',f1,f2,f3⟩:=yR hN hNl hM hMa hNM hl hs hjt ht dd (i+1) (F.set d (cq (F.getD d []) N[i])) (by omega) (by rw [MB];exact hd) hF2;refine ⟨F',by rw [f1,MB],f2,fun R h=>Ev2.step (st F) (Ev2.posD (by omega) (Ev2.pos (ak (by omega) (by omega)) (Ev2.pos (by rw [MD h0];rfl) (Ev2.pos (by rw [MD h2];rfl) (Ev2.bind (KO hd hl hs rfl hg) (Ev2.neg rfl (f3 R h)))))))⟩
end
end Go.Eng.Top
namespace Go.Eng.Top
open Go.RowKit Go.Eng Go.Eng.LVar Go.Eng.LCrc Go.Eng.LFrm
set_option maxRecDepth 100000
theorem Lr {F:List MF} {L:List Int} {S:List Bool} {B:List (List Int)} {sf:List Int} {d:Nat} (hL:d < L.length)(hl:L.getD d 0=-1)(hS:d < S.length)(hs:S.getD d false=false) {name n:Int} {g:Nat} (hg:aL none (F.getD d []) name=some g)(hB:g < B.length)(hf:g < sf.length)(hb:(B.getD g []).length<=1000000)(h0:0<=n)(h1:n<=((B.getD g []).length:Int)) :
  Ev1 (fun k=>CF k Bp uC [inj (.ref 29) (some d),inj (.int .i64) name,inj (.int .i64) n,Ci F,Ck L,Cl S,Ct B,Cu sf]) (none,F,L,S,B.set g ((B.getD g []).take (Int.toNat n)),sf.set g n):=by
 refine Ev1.step (fun k=>(rfl:CF (k+1) Bp uC [inj (.ref 29) (some d),inj (.int .i64) name,inj (.int .i64) n,Ci F,Ck L,Cl S,Ct B,Cu sf]=cutX (some d) name n F L S B sf)) (Ev1.const ?_);show (match aL none (F.getD d []) name with
  | some g=>bif Nat.blt d S.length && (Nat.blt d L.length && (!(S.getD d false) && (decide (L.getD d 0=-1) && (Nat.blt g B.length && (Nat.blt g sf.length && (Nat.ble (B.getD g []).length 1000000 && (decide (0<=n) && decide (n<=((B.getD g []).length:Int))))))))) then
    some (none,F,L,S,B.set g ((B.getD g []).take (Int.toNat n)),sf.set g n) else none
  | none=>none)=_
 rw [hg];simp only [];rw [show Nat.blt d S.length=true from Nq hS,show Nat.blt d L.length=true from Nq hL,hs,MJ hl,show Nat.blt g B.length=true from Nq hB,show Nat.blt g sf.length=true from Nq hf,Nq hb,MJ h0,MJ h1];rfl
theorem pC {B:List (List Int)} (f:Int × Option Nat->Bool):∀ (M:MF),sumL B (M.filter f)<=sumL B M
 | []=>MH _
 | e::M=>by
  have ih:=pC (B:=B) f M;rw [N6];split
  ·unfold sumL;omega
  ·exact Nc ih (by show sumL B M<=(B.getD (e.2.getD 0) []).length+sumL B M;omega)
noncomputable abbrev LB (k d:Nat)(c:DC):=CF k g_jO n_jO [inj (.ref 29) (some d),Ci c.F,Ck c.L,Cl c.S,Co c.jd,Cp c.jt,Cq c.jb,Cr c.jr,Cs c.jk,Ct c.B,Cu c.sf]
abbrev G8 (j:Nat)(c:DC):R10:=(some j,none,c.F,c.L,c.S,c.jd,c.jt,c.jb,c.jr,c.jk,c.B,c.sf)
structure Ih (c c':DC)(d:Nat):Prop where
 F:c'.F.length=c.F.length
 R:c'.R=c.R
 L:c'.L=c.L
 S:c'.S=c.S
 fd:c.F.getD d []=[]->c'.F.getD d []=[]
 jd:c'.jd=c.jd++[some d]
 jt:c'.jt.length=c.jt.length+1
 jb:c'.jb.length=c.jb.length+1
 jr:c'.jr.length=c.jr.length+1
 jk:c'.jk.length=c.jk.length+1
theorem JW {c:DC} {d rho t:Nat} {bs:List Int} {rs:List (List Int)} {p:List Int} (h:RS c d rho t bs rs p)(ht:c.jt.length=c.jd.length)(hb:c.jb.length=c.jd.length)(hr:c.jr.length=c.jd.length)(hk:c.jk.length=c.jd.length)(htb:t<=1000000) :
  ∃ c',Ev1 (fun k=>LB k d c) (G8 c.jd.length c')/\JG c' c.jd.length d rho t bs rs/\(t ≠ 0->c'.jb.getD c.jd.length []=bs)/\Ih c c' d:=by
 obtain ⟨b,r,hF,hbz,hbok,hbl,hrok,hrz,hne⟩:=h.files;have hsum:=h.sum;have hrho:=h.rhl;have hM:=h.nk;have hall:∀ e ∈ c.F.getD d [],∃ g,e.2=some g:=fun e he=>by obtain ⟨g,q,_⟩:=h.all e he;exact ⟨g,q⟩
 have hnn:=Eo (F:=c.F) (d:=d) (c.F.getD d []) rfl h.l3 h.nk;have hperm:=Go.Proofs.Due.sortI_perm ((c.F.getD d []).map (·.1));have hNl:(gC ((c.F.getD d []).map (·.1))).length<=3:=by rw [hperm.length_eq,NI];exact h.l3
 have hNd:(gC ((c.F.getD d []).map (·.1))).Nodup:=hperm.nodup_iff.2 (sO hM);have hNM:∀ n ∈ gC ((c.F.getD d []).map (·.1)),n ∈ (c.F.getD d []).map (·.1):=fun n hn=>hperm.mem_iff.1 hn
 have hF0:c.F.getD d []=(c.F.getD d []).filter (fun e=>fX t e || ((gC ((c.F.getD d []).map (·.1))).drop 0).contains e.1):=by
  symm;refine Pv.2 fun e he=>?_
  rw [Ov,NN.2 (hperm.mem_iff.2 (Nb.2 ⟨e,he,rfl⟩)),Qf]
 generalize gC ((c.F.getD d []).map (·.1))=N at hnn hNl hNd hNM hF0;have hz:(c.jr++[[]]).set c.jd.length rs=c.jr++[rs]:=iR c.jr [] rs hr.symm;have hsfB:=h.bsf
 -- from the files' names on
 have main:∀ (tt:Int) (bb:List Int),tt=(t:Int)->(t ≠ 0->bb=bs)->∃ c',Ev2 (fun k m=>wW k m (some d) c.jd.length c.F c.L c.S (c.jd++[some d]) (c.jt++[tt]) (c.jb++[bb]) (c.jr++[[]]) (c.jk++[false]) c.B c.sf) (G8 c.jd.length c')/\JG c' c.jd.length d rho t bs rs/\(t ≠ 0->c'.jb.getD c.jd.length []=bs)/\Ih c c' d:=by
  intro tt bb htt hbb;have hjt:(c.jt++[tt]).getD c.jd.length 0=(t:Int):=by rw [aP c.jt tt 0 ht.symm,htt]
  have e3:w64 (2+(c.jt++[tt]).getD c.jd.length 0)=((2+t:Nat):Int):=by rw [hjt,bN (by omega) (by omega)];omega
  obtain ⟨F',f1,f2,f3⟩:=yR (L:=c.L) (S:=c.S) (jd:=c.jd++[some d]) (jb:=c.jb++[bb]) (jr:=c.jr++[[]]) (jk:=c.jk++[false]) (B:=c.B) (sf:=c.sf) hNd hNl hM hall hNM h.left h.live hjt (by omega) N.length 0 c.F (by omega) h.hd hF0;rw [hF] at f2;have hsub:sumL c.B (Mof t b r)<=rho:=by
   rw [<- hF];exact Nc (pC _ _) hsum
  have jg:∀ (B2:List (List Int)) (sf2:List Int),B2.length=c.B.length->sf2.length=c.sf.length->sumL B2 (Mof t b r)<=rho->(∀ g,b=some g->B2.getD g []=c.B.getD g []/\sf2.getD g 0=c.sf.getD g 0)->(∀ g,r=some g->B2.getD g []=frs rs/\sf2.getD g 0=((frs rs).length:Int)) ->
    JG ⟨F',c.R,c.L,c.S,c.jd++[some d],c.jt++[tt],c.jb++[bb],c.jr++[rs],c.jk++[false],B2,sf2⟩ c.jd.length d rho t bs rs/\(t ≠ 0->(c.jb++[bb]).getD c.jd.length []=bs)/\Ih c ⟨F',c.R,c.L,c.S,c.jd++[some d],c.jt++[tt],c.jb++[bb],c.jr++[rs],c.jk++[false],B2,sf2⟩ d:=by
   intro B2 sf2 k1 k2 k3 k4 k5;refine ⟨⟨⟨by rw [f1];exact h.hd,h.hR,hrho,⟨h.hL,by dsimp only;rw [h.left];omega,by dsimp only;rw [h.left];omega⟩,h.hS,h.live⟩,bh _ _ _,⟨by simp [ht],hjt⟩,by simp [hb],⟨by simp [hr],aP _ _ _ hr.symm⟩,⟨by simp [hk],aP _ _ _ hk.symm⟩,by dsimp only;rw [k1,k2];exact hsfB,⟨b,r,f2,⟨hbz,fun g hg=>?_,hbl,fun g hg=>?_,fun hn=>⟨(hrz hn).1,rfl⟩,hne⟩⟩,by dsimp only;rw [f2];exact k3,h.rcs,htb⟩,fun h0=>by rw [aP _ _ _ hb.symm];exact hbb h0,⟨f1,rfl,rfl,rfl,fun h0=>by dsimp only;rw [f2,<- hF,h0];rfl,rfl,by simp,by simp,by simp,by simp⟩⟩
   ·obtain ⟨q1,q2,q3⟩:=hbok g hg;dsimp only;rw [(k4 g hg).1,(k4 g hg).2,k1];exact ⟨q1,q2,q3⟩
   ·dsimp only;rw [(k5 g hg).1,(k5 g hg).2,k1,Ns];exact ⟨(hrok g hg).1,rfl,rfl⟩
  have st:=fun k m=>Bc k m (some d) c.jd.length N (N.length:Int) (N.length:Int) F' c.L c.S (c.jd++[some d]) (c.jt++[tt]) (c.jb++[bb]) (c.jr++[[]]) (c.jk++[false]) c.B c.sf _ rfl _ rfl ((2+t:Nat):Int) e3.symm
  have wrap:∀ R,Ev2 (fun k m=>hOp3 k m d c.jd.length N (N.length:Int) F' c.L c.S (c.jd++[some d]) (c.jt++[tt]) (c.jb++[bb]) (c.jr++[[]]) (c.jk++[false]) c.B c.sf) R ->
    Ev2 (fun k m=>wW k m (some d) c.jd.length c.F c.L c.S (c.jd++[some d]) (c.jt++[tt]) (c.jb++[bb]) (c.jr++[[]]) (c.jk++[false]) c.B c.sf) R:=fun R hR =>
   Ev2.step (fun k m=>Hs k m (some d) c.jd.length c.F c.L c.S (c.jd++[some d]) (c.jt++[tt]) (c.jb++[bb]) (c.jr++[[]]) (c.jk++[false]) c.B c.sf) (Ev2.bind hnn (Ev1.drop (f3 R hR).diag))
  cases hrc:r with
  | none =>
   obtain ⟨z1,z2⟩:=hrz hrc;have hj:=jg c.B c.sf rfl rfl hsub (fun _ _=>⟨rfl,rfl⟩) (fun g hg=>by rw [hrc] at hg;cases hg);have hg:aL none (Mof t b r) ((2+t:Nat):Int)=none:=by rw [uF,hrc]
   refine ⟨_,wrap _ (Ev2.step st (Ev2.negD (by omega) (Ev2.bind (pN f2 hg) (Ev2.bind Jk (Ev2.neg rfl (Ev2.const ?_)))))),hj⟩;rw [z1] at hz ⊢;dsimp only;rw [hz]
  | some g =>
   obtain ⟨q1,q2,q3⟩:=hrok g hrc;have hg:aL none (Mof t b r) ((2+t:Nat):Int)=some g:=by rw [uF,hrc]
   have hlen:(c.B.getD g []).length<=rho:=Nc (iC (B:=c.B) (t:=t) (b:=b) (r:=r) |>.2 g hrc) hsub;have hsc:=GM rs p h.pok (fun x hx=>⟨(h.rcs x hx).1,by have:=(h.rcs x hx).2;omega⟩) (by rw [<- q2];omega) (by have:=Bq rs;rw [q2,My] at hlen;omega);rw [<- q2] at hsc;by_cases hcut:((frs rs).length:Int) < ((c.B.getD g []).length:Int)
   ·have hc:=Lr (F:=F') (B:=c.B) (sf:=c.sf) (name:=((2+t:Nat):Int)) (n:=((frs rs).length:Int)) h.hL h.left h.hS h.live (by rw [f2];exact hg) q1 (by omega) (by omega) (by omega) (by omega);rw [MV,q2,List.take_left] at hc;have hsub2:sumL (c.B.set g (frs rs)) (Mof t b r)<=rho:=Nc (yC _ fun e _=>by
     by_cases he:e.2.getD 0=g
     ·rw [he,ah _ _ _ _ q1];omega
     ·rw [getD_set_ne _ _ _ (Ne.symm he)];exact MH _) hsub
    have hj:=jg (c.B.set g (frs rs)) (c.sf.set g ((frs rs).length:Int)) MB MB hsub2 (fun g2 hg2=>by
     have:=hne g2 g hg2 hrc;rw [getD_set_ne _ _ _ (Ne.symm this),getD_set_ne _ _ _ (Ne.symm this)];exact ⟨rfl,rfl⟩) (fun g2 hg2=>by
     rw [hrc] at hg2;cases hg2;rw [ah _ _ _ _ q1,ah _ _ _ _ (by omega)];exact ⟨rfl,rfl⟩)
    refine ⟨_,wrap _ (Ev2.step st (Ev2.negD (by omega) (Ev2.bind (jQ f2 hg (by omega)) (Ev2.bind hsc (Ev2.pos rfl (Ev2.posD hcut (Ev2.bind hc (Ev2.neg rfl (Ev2.const ?_))))))))),hj⟩;dsimp only;rw [hz]
   ·have hp:p=[]:=by
     rw [q2,My] at hcut;exact NT.1 (by omega)
    rw [hp,Ns] at q2 q3;have hj:=jg c.B c.sf rfl rfl hsub (fun _ _=>⟨rfl,rfl⟩) (fun g2 hg2=>by rw [hrc] at hg2;cases hg2;exact ⟨q2,q3⟩);refine ⟨_,wrap _ (Ev2.step st (Ev2.negD (by omega) (Ev2.bind (jQ f2 hg (by omega)) (Ev2.bind hsc (Ev2.pos rfl (Ev2.negD hcut (Ev2.const ?_))))))),hj⟩;dsimp only;rw [hz]
 have bmem:∀ g,b=some g->aL none (c.F.getD d []) 0=some g:=fun g hg=>by
  obtain ⟨e,he,e2⟩:=yU (t:=t) (r:=r) |>.1 g hg;have hin:(0,some g) ∈ c.F.getD d []:=by
   have:(0,some g) ∈ Mof t b r:=by rw [hg];cases r<;>simp [Mof]
   rw [<- hF] at this;exact (OG.1 this).1
  obtain ⟨g2,k1,k2⟩:=nB _ 0 hall (Nb.2 ⟨_,hin,rfl⟩);have hk:(0,some g2) ∈ Mof t b r:=by
   rw [<- hF];refine OG.2 ⟨k2,?_⟩;unfold fX;rw [MJ rfl];rfl
  have:g2=g:=by
   rw [hg] at hk;cases r with
   | none=>simp [Mof] at hk;exact hk
   | some h0 =>
    simp only [Mof,MO,Nf,NS,Nv,Mz] at hk;rcases hk with hk | hk
    ·exact hk.2
    ·have:=ne0 t;omega
  rw [<- this];exact k1
 have st0:=fun k=>f_jO k (some d) c.F c.L c.S c.jd c.jt c.jb c.jr c.jk c.B c.sf _ rfl _ rfl _ rfl _ rfl
 cases hbc:b with
 | none =>
  have t0:t=0:=hbz.1 hbc;obtain ⟨c',m1,m2⟩:=main 0 [] (by omega) (fun h0=>(h0 t0).elim);have hno:aL none (c.F.getD d []) 0=none:=by
   cases hq:aL none (c.F.getD d []) 0 with
   | none=>rfl
   | some g =>
    have hin:(0:Int) ∈ (c.F.getD d []).map (·.1):=by
     have key:∀ (M:MF),aL none M 0=some g->(0:Int) ∈ M.map (·.1):=by
      intro M
      induction M with
      | nil=>intro h;cases h
      | cons e M ih =>
       intro h;unfold aL at h;by_cases he:e.1=0
       ·rw [MW,he];exact Nw ..
       ·rw [MD he,MQ] at h;exact M0 _ (ih h)
     exact key _ hq
    obtain ⟨e,he1,he2⟩:=Nb.1 hin;have:e ∈ Mof t b r:=by
     rw [<- hF];refine OG.2 ⟨he1,?_⟩;unfold fX;rw [MJ he2];rfl
    rw [hbc] at this;cases r with
    | none=>simp [Mof] at this
    | some h0 =>
     simp only [Mof,Na] at this;rw [this] at he2;have:=ne0 t;dsimp only at he2;omega
  exact ⟨c',Ev1.step st0 (Ev1.bind (pN rfl hno) (Ev1.neg rfl m1.diag)),m2⟩
 | some g =>
  have t0:t ≠ 0:=fun h0=>by have:=hbz.2 h0;rw [hbc] at this;cases this
  obtain ⟨q1,q2,q3⟩:=hbok g hbc;obtain ⟨l1,l2⟩:=hbl t0;obtain ⟨c',m1,m2⟩:=main (t:Int) bs rfl (fun _=>rfl);obtain ⟨g2,e2,_,hl6⟩:∃ g2,g=g2/\g2 < c.B.length/\(c.B.getD g2 []).length<=1000000:=⟨g,rfl,q1,by rw [q2,iJ];omega⟩
  subst e2;have hI:I64 [(t:Int)]:=by simp [I64];omega
  have hbyt:Byt (encs [(t:Int)]++bs):=Byt.append (mJ _) l2;have hone:=Ee (fr (encs [(t:Int)]++bs)) (Bs hbyt) (by rw [iJ];omega);have hrec:=AQ (encs [(t:Int)]++bs) [] l1;rw [Ns] at hrec;rw [hrec,<- q2] at hone;simp only [ans1] at hone;have hvg:Ev1 (fun k=>CF k E7 nh [inj BB (encs [(t:Int)]++bs)]) ((t:Int),bs,true):=by
   have:=yt (n:=(t:Int)) (by omega) bs (by rw [My] at l1;omega);rw [pt];exact this
  have h2:Ev2 (fun k m=>EY k m (some d) c.jd.length (t:Int) bs c.F c.L c.S (c.jd++[some d]) (c.jt++[0]) (c.jb++[[]]) (c.jr++[[]]) (c.jk++[false]) c.B c.sf) (G8 c.jd.length c'):=by
   refine Ev2.step (fun k m=>Hr k m (some d) c.jd.length (t:Int) bs c.F c.L c.S (c.jd++[some d]) (c.jt++[0]) (c.jb++[[]]) (c.jr++[[]]) (c.jk++[false]) c.B c.sf) (Ev2.posD (by rw [My] at l1;omega) ?_);rw [iR c.jt 0 (t:Int) ht.symm,iR c.jb [] bs hb.symm];exact Ev1.drop m1.diag
  have h1:Ev2 (fun k m=>h_jO k m (some d) c.jd.length (encs [(t:Int)]++bs) c.F c.L c.S (c.jd++[some d]) (c.jt++[0]) (c.jb++[[]]) (c.jr++[[]]) (c.jk++[false]) c.B c.sf) (G8 c.jd.length c') :=
   Ev2.step (fun k m=>Ld k m (some d) c.jd.length (encs [(t:Int)]++bs) c.F c.L c.S (c.jd++[some d]) (c.jt++[0]) (c.jb++[[]]) (c.jr++[[]]) (c.jk++[false]) c.B c.sf) (Ev2.bind hvg (Ev2.neg rfl (Ev2.negD (by omega) (Ev1.drop h2.diag))))
  refine ⟨c',Ev1.step st0 (Ev1.bind (jQ rfl (bmem g hbc) hl6) (Ev1.pos rfl (Ev1.bind hone (Ev1.neg rfl (Ev1.neg ?_ h1.diag))))),m2⟩;have:6+((encs [(t:Int)]++bs).length:Int)=((c.B.getD g []).length:Int):=by rw [q2,iJ];omega
  dsimp only;rw [MJ this];rfl
theorem Kk {j:Nat} {jb:List (List Int)} {bs:List Int} (h:jb.getD j []=bs)(hl:bs.length<=1000000):Ev1 (fun k=>CF k Fj qa [inj (.ref 99) (some j),Cq jb]) (bs,jb) :=
 Ev1.step (fun k=>FH k (some j) jb bs h.symm) (Ev1.pos rfl (Ev1.posD (by omega) (Ev1.now _)))
theorem D5 {j : Nat} {jr : List (List (List Int))} {rs : List (List Int)} (h : jr.getD j [] = rs) (hl : rs.length ≤ 100000) (hr : ∀ x ∈ rs, x.length ≤ 80) : ∀ (dd i : Nat), i + dd = rs.length → Ev2 (fun k m => gW k m (some j) j (rs.length : Int) (i : Int) (rs.take i) jr) (rs, jr)
  | 0, i, hi => Ev2.step (fun k m => lj k m (some j) j (rs.length : Int) (i : Int) (rs.take i) jr _ rfl _ rfl) (Ev2.negD (by omega) (by rw [Oc (by omega)]; exact Ev2.now _))
  | dd + 1, i, hi => by
    have hlt : i < rs.length := by omega
    have he : rs.getD (Int.toNat (i : Int)) [] = rs[i] := by rw [MV]; exact bj rs i _ hlt
    have := hr _ (Np hlt)
    have ih := D5 h hl hr dd (i + 1) (by omega)
    rw [Ph hlt, ← wnat (by omega)] at ih
    refine Ev2.step (fun k m => lj k m (some j) j (rs.length : Int) (i : Int) (rs.take i) jr rs h.symm rs[i] he.symm) (Ev2.posD (by omega) (Ev2.pos (ak (by omega) (by omega)) ?_))
    have hc1 : (rs[i]).length * 1 ≤ 211106232532992 := by omega
    refine Ev2.posD hc1 ?_
    have hc : ((rs.take i).length + [rs[i]].length) * 24 ≤ 211106232532992 := by rw [NC]; simp only [MC, ML]; omega
    exact Ev2.posD hc ih
theorem GW {j:Nat} {jr:List (List (List Int))} {rs:List (List Int)} (h:jr.getD j []=rs)(hl:rs.length<=100000)(hr:∀ x ∈ rs,x.length<=80):Ev1 (fun k=>CF k xl j4 [inj (.ref 99) (some j),Cr jr]) (rs,jr):=by
 refine Ev1.step (fun k=>xP k (some j) jr) (Ev1.pos rfl ?_);simp only [MN];rw [h];exact (D5 h hl hr rs.length 0 (by omega)).diag
def runE (s:ab)(es:List aD):ab:=es.foldl (fun s e=>(doF s e).1) s
theorem pK (s:ab)(es:List aD)(e:aD):runE s (es++[e])=(doF (runE s es) e).1:=by unfold runE;rw [List.foldl_append];rfl
theorem DO {s:ab} {es:List aD} {i:Nat} (h:i < es.length):runE s (es.take (i+1))=(doF (runE s (es.take i)) es[i]).1:=by rw [Ph h,pK]
theorem zJ {e:aD} (h:evR e):I64 (evL e)/\I64 (rqL e.2.1):=by
 obtain ⟨w,r,key,ok⟩:=e;rcases h with ⟨h1,h2,h3,h4⟩ | ⟨h1,h2,h3,h4⟩ | h
 ·have h1:w=0:=h1;cases h1;exact ⟨aX.2 ⟨by simp,by simpa using h3⟩,h3⟩
 ·have h1:w=1:=h1;have h2:r=(0,0,0,0,0,0,0):=h2;cases h1;cases h2;have h3:0<=key:=h3;have h4:key<=4611686018427387904:=h4;refine ⟨aX.2 ⟨by simp,?_⟩,by simp [rqL,I64]⟩;simp only [show ¬ ((1:Int)=0) by omega,NF,Oa];refine aX.2 ⟨by omega,?_⟩;cases ok<;>simp [I64]
 ·cases h;exact ⟨by simp [evL,I64],by simp [rqL,I64]⟩
theorem tU {s:ab} (hs:Inv s):∀ (es:List aD),(∀ e ∈ es,evR e)->Inv (runE s es)
 | [],_=>hs
 | e::es,h=>tU (x8 hs e (zJ (h e (Nw ..))).2).1 es fun x hx=>h x (M0 _ hx)
abbrev encE (e:aD):List Int:=encs (evL e)
abbrev zT0:ab:=([],[],[],[],0)
theorem AE {d x:Nat} {sb:ab} {evs:List aD} (hsb:Inv sb)(hev:∀ e ∈ evs,evR e)(hl:evs.length<=100000)(ej:List (Option Nat))(c:DC):∀ (dd i:Nat)(es:List ab),i+dd=evs.length->x < es.length->es.getD x zT0=runE sb (evs.take i) ->
  Ev2 (fun k m=>Be k m (some d) x (evs.map encE) (evs.length:Int) (i:Int) c.F c.L c.S ej es c.jd c.jt c.jb c.jr c.jk c.B c.sf) (some x,none,c.F,c.L,c.S,ej,es.set x (runE sb evs),c.jd,c.jt,c.jb,c.jr,c.jk,c.B,c.sf)
 | 0,i,es,hi,hx,hes=>by
  rw [Oc (by omega)] at hes;refine Ev2.step (fun k m=>Bd k m (some d) x (evs.map encE) (evs.length:Int) (i:Int) c.F c.L c.S ej es c.jd c.jt c.jb c.jr c.jk c.B c.sf) (Ev2.negD (by omega) (Ev2.const ?_));rw [Ar es x zT0 hx hes]
 | dd+1,i,es,hi,hx,hes=>by
  have hlt:i < evs.length:=by omega
  have he:(evs.map encE).getD (Int.toNat (i:Int)) []=encE evs[i]:=by rw [MV,bj _ i _ (by rw [NI];exact hlt),PS]
  have hr:=hev _ (Np hlt);have hinv:Inv (runE sb (evs.take i)):=tU hsb _ fun e h=>hev e (Oi h)
  have ih:=AE (d:=d) hsb hev hl ej c dd (i+1) (es.set x (runE sb (evs.take (i+1)))) (by omega) (by rw [MB];exact hx) (ah _ _ _ _ hx);rw [Qk,DO hlt,<- wnat (by omega)] at ih;refine Ev2.step (fun k m=>Bd k m (some d) x (evs.map encE) (evs.length:Int) (i:Int) c.F c.L c.S ej es c.jd c.jt c.jb c.jr c.jk c.B c.sf) (Ev2.posD (by omega) (Ev2.pos (ak (by omega) (by rw [NI];omega)) ?_));rw [he,hes];exact Ev2.bind (GZ _ hr) (Ev2.neg rfl (Ev2.bind (HY hinv evs[i]) ih))
structure Src (t:Nat)(bs:List Int)(rs:List (List Int))(s sb:ab)(evs:List aD):Prop where
 b0:t=0->sb=s0
 b1:t ≠ 0->bs=encs (stL sb)
 inv:Inv sb
 ev:∀ e ∈ evs,evR e
 rs:rs=evs.map encE
 s:s=runE sb evs
theorem Src.invS {t:Nat} {bs:List Int} {rs:List (List Int)} {s sb:ab} {evs:List aD} (h:Src t bs rs s sb evs):Inv s:=by rw [h.s];exact tU h.inv evs h.ev
theorem Src.snoc {t:Nat} {bs:List Int} {rs:List (List Int)} {s sb:ab} {evs:List aD} (h:Src t bs rs s sb evs) {e:aD} (he:evR e):Src t bs (rs++[encE e]) (doF s e).1 sb (evs++[e]) :=
 ⟨h.b0,h.b1,h.inv,fun x hx=>(MU.1 hx).elim (h.ev x) (fun hx=>by rw [Na.1 hx];exact he),by rw [h.rs,Oo];rfl,by rw [pK,h.s]⟩
noncomputable abbrev LC (k d:Nat)(ej:List (Option Nat))(es:List ab)(c:DC):=CF k g_dO n_dO [inj (.ref 29) (some d),Ci c.F,Ck c.L,Cl c.S,Cm ej,Cn es,Co c.jd,Cp c.jt,Cq c.jb,Cr c.jr,Cs c.jk,Ct c.B,Cu c.sf]
theorem FY {c:DC} {d rho t:Nat} {bs:List Int} {rs:List (List Int)} {p:List Int} (h:RS c d rho t bs rs p)(ht:c.jt.length=c.jd.length)(hb:c.jb.length=c.jd.length)(hr:c.jr.length=c.jd.length)(hk:c.jk.length=c.jd.length)(htb:t<=1000000)(ej:List (Option Nat))(es:List ab)(hee:es.length=ej.length) {s sb:ab} {evs:List aD} (hs:Src t bs rs s sb evs) :
  ∃ c',Ev1 (fun k=>LC k d ej es c) (some ej.length,none,c'.F,c'.L,c'.S,ej++[some c.jd.length],es++[s],c'.jd,c'.jt,c'.jb,c'.jr,c'.jk,c'.B,c'.sf)/\JG c' c.jd.length d rho t bs rs/\Ih c c' d:=by
 obtain ⟨c',ho,hJ,hbb,hL⟩:=JW h ht hb hr hk htb;have hfew:=AH hJ;have hrl:∀ x ∈ rs,x.length<=80:=fun x hx=>(h.rcs x hx).2
 have hrec:=GW hJ.jr.2 (by omega) hrl;rw [hs.rs] at hrec hfew;rw [NI] at hfew;have hinv:=hs.inv;have h0:Ev2 (fun k m=>h_dO k m (some d) (some c.jd.length) ej.length c'.F c'.L c'.S (ej++[some c.jd.length]) (es++[sb]) c'.jd c'.jt c'.jb c'.jr c'.jk c'.B c'.sf) (some ej.length,none,c'.F,c'.L,c'.S,ej++[some c.jd.length],es++[s],c'.jd,c'.jt,c'.jb,c'.jr,c'.jk,c'.B,c'.sf):=by
  refine Ev2.step (fun k m=>Lf k m (some d) (some c.jd.length) ej.length c'.F c'.L c'.S (ej++[some c.jd.length]) (es++[sb]) c'.jd c'.jt c'.jb c'.jr c'.jk c'.B c'.sf) (Ev2.bind hrec (Ev1.drop ?_));have:=AE (d:=d) (x:=ej.length) hinv hs.ev (by omega) (ej++[some c.jd.length]) c' evs.length 0 (es++[sb]) (by omega) (by simp [hee]) (aP _ _ _ hee.symm);rw [iR es sb _ hee.symm,<- hs.s] at this;have:=this.diag;rw [NI];exact this
 refine ⟨c',Ev1.step (fun k=>f_dO k (some d) c.F c.L c.S ej es c.jd c.jt c.jb c.jr c.jk c.B c.sf) (Ev1.bind ho (Ev1.neg rfl (Ev1.bind K4 (Ev1.bind (Gz hJ.jt.2) ?_)))),hJ,hL⟩;by_cases t0:t=0
 ·refine Ev1.negD (by omega) ?_;rw [hs.b0 t0] at h0;exact h0.diag
 ·refine Ev1.posD (by omega) (Ev1.bind (Kk (hbb t0) ?_) ?_)
  ·obtain ⟨_,_,_,_,_,hbl,_⟩:=h.files;have:=(hbl t0).1;rw [My] at this;omega
  ·dsimp only;rw [hs.b1 t0];refine Ev1.bind (GX hinv) (Ev1.neg rfl ?_);dsimp only;rw [iR es s0 sb hee.symm];exact h0.diag
end Go.Eng.Top
namespace Go.Eng.Top
open Go.RowKit Go.Eng Go.Eng.LVar Go.Eng.LCrc Go.Eng.LFrm
set_option maxRecDepth 100000
def DE (c:DC)(j d rho T:Nat)(s:ab):Prop:=∃ t bs rs sb evs,JG c j d rho t bs rs/\Src t bs rs s sb evs/\t<=T
def DX (c:DC)(d rho T:Nat)(s s':ab):Prop:=∃ t bs rs p sb evs,DSt c d rho t bs rs p/\Src t bs rs s sb evs/\t<=T/\(p=[]\/∃ e,p=fr (encE e)/\evR e/\(doF s e).1=s')
theorem DE.mono {c:DC} {j d rho T T':Nat} {s:ab} (h:DE c j d rho T s)(hT:T<=T'):DE c j d rho T' s:=by
 obtain ⟨t,bs,rs,sb,evs,h1,h2,h3⟩:=h;exact ⟨t,bs,rs,sb,evs,h1,h2,Nc h3 hT⟩
theorem DX.mono {c:DC} {d rho T T':Nat} {s s':ab} (h:DX c d rho T s s')(hT:T<=T'):DX c d rho T' s s':=by
 obtain ⟨t,bs,rs,p,sb,evs,h1,h2,h3,h4⟩:=h;exact ⟨t,bs,rs,p,sb,evs,h1,h2,Nc h3 hT,h4⟩
theorem DE.inv {c:DC} {j d rho T:Nat} {s:ab} (h:DE c j d rho T s):Inv s:=by
 obtain ⟨t,bs,rs,sb,evs,h1,h2,h3⟩:=h;exact h2.invS
theorem yE {s:ab} (hs:Inv s)(t:Nat)(ht:t ≠ 0):Src t (encs (stL s)) [] s s []:=⟨fun h=>(ht h).elim,fun _=>rfl,hs,fun e he=>(by cases he),rfl,rfl⟩
noncomputable abbrev yj (k x:Nat)(ej:List (Option Nat))(es:List ab)(c:DC):=CF k xp j6 [inj (.ref 30) (some x),Ci c.F,Cj c.R,Ck c.L,Cl c.S,Cm ej,Cn es,Co c.jd,Cp c.jt,Cq c.jb,Cr c.jr,Cs c.jk,Ct c.B,Cu c.sf]
abbrev B1 (e:Option Int)(c:DC)(ej:List (Option Nat))(es:List ab):R8:=(e,c.F,c.R,c.L,c.S,ej,es,c.jd,c.jt,c.jb,c.jr,c.jk,c.B,c.sf)
theorem F0 (c:DC) {x j d rho t:Nat} {bs:List Int} {rs:List (List Int)} {s sb:ab} {evs:List aD} {ej:List (Option Nat)} {es:List ab} (h:JG c j d rho t bs rs)(hS:Src t bs rs s sb evs)(hej:ej.getD x none=some j)(hes:es.getD x zT0=s)(ht:t < 1000000) :
  (∃ e,(e=13/\16374 < (encs (stL s)).length\/e=8)/\Ev1 (fun k=>yj k x ej es c) (B1 (some e) c ej es)) \/
  (∃ c',Ev1 (fun k=>yj k x ej es c) (B1 none c' ej es)/\JG c' j d rho (t+1) (encs (stL s)) []/\Lens c c') \/
  (∃ c',Ev1 (fun k=>yj k x ej es c) (B1 (some 12) c' ej es)/\(∀ s',DX c' d rho (t+1) s s')/\Lens c c'):=by
 have hs:=hS.invS;have hl:=Dw hs;have st:=fun k=>FL k (some x) c.F c.R c.L c.S ej es c.jd c.jt c.jb c.jr c.jk c.B c.sf
 have go:∀ {e:Option Int} {c':DC},Ev1 (fun k=>jv k j (encs (stL s)) c) (iU e c')->Ev1 (fun k=>yj k x ej es c) (B1 e c' ej es):=fun {e c'} he=>by
  refine Ev1.step st (Ev1.pos rfl (Ev1.pos rfl ?_));simp only [MN];rw [hej,hes];exact Ev1.bind (iQ s hs.st) (Ev1.bind he (Ev1.now _))
 rcases JV c h (encs (stL s)) ⟨mJ _,by omega⟩ ht with ⟨e,he,hv⟩ | ⟨c',hv,hJ,hL⟩ | ⟨c',hv,hD,hL⟩
 ·refine .inl ⟨e,?_,go hv⟩;rcases he with ⟨he,hb⟩ | he
  ·refine .inl ⟨he,?_⟩;have hI:I64 [((t+1:Nat):Int)]:=by simp [I64];omega
   have:=aG hI;rw [My] at hb;simp only [MC,ML] at this;omega
  ·exact .inr he
 ·exact .inr (.inl ⟨c',go hv,hJ,hL⟩)
 ·refine .inr (.inr ⟨c',go hv,?_,hL⟩);rcases hD with hD | hD
  ·exact fun _=>⟨t,bs,rs,[],sb,evs,hD,hS,Qn _,.inl rfl⟩
  ·exact fun _=>⟨t+1,_,[],[],s,[],hD,yE hs _ (by omega),MH _,.inl rfl⟩
noncomputable abbrev tu (k x:Nat)(e:aD)(ej:List (Option Nat))(es:List ab)(c:DC):=CF k Fm qd [inj (.ref 30) (some x),inj aI e,Ci c.F,Cj c.R,Ck c.L,Cl c.S,Cm ej,Cn es,Co c.jd,Cp c.jt,Cq c.jb,Cr c.jr,Cs c.jk,Ct c.B,Cu c.sf]
abbrev rL (o:ai)(c:DC)(ej:List (Option Nat))(es:List ab):R9:=(o,c.F,c.R,c.L,c.S,ej,es,c.jd,c.jt,c.jb,c.jr,c.jk,c.B,c.sf)
theorem HW {e:aD} (h:evR e):Byt (encE e)/\(encE e).length<=80:=⟨mJ _,FP e (zJ h).1⟩
theorem Bx (c:DC) {x j d rho t:Nat} {bs:List Int} {rs:List (List Int)} {s:ab} {ej:List (Option Nat)} {es:List ab} (h:JG c j d rho t bs rs)(hs:Inv s)(hej:ej.getD x none=some j)(hx:x < es.length)(hes:es.getD x zT0=s)(e:aD)(hq:(doF s e).1=s) :
  Ev1 (fun k=>tu k x e ej es c) (rL (doF s e).2 c ej es):=by
 have hd:=HY hs e;have hst:=DG s s hs.st hs.st;refine Ev1.step (fun k=>FM k (some x) e c.F c.R c.L c.S ej es c.jd c.jt c.jb c.jr c.jk c.B c.sf s hes.symm) (Ev1.pos rfl ?_);simp only [MN];rw [hej];refine Ev1.bind (iM h.jk.2) (Ev1.neg rfl (Ev1.pos rfl (Ev1.bind hd (Ev1.pos rfl ?_))));dsimp only;rw [hq];exact Ev1.bind hst (Ev1.posD rfl (Ev1.now _))
theorem Mp (c:DC) {x j d rho T:Nat} {s:ab} {ej:List (Option Nat)} {es:List ab} (h:DE c j d rho T s)(hej:ej.getD x none=some j)(hx:x < es.length)(hes:es.getD x zT0=s)(e:aD)(he:evR e)(hsm:(encs (stL s)).length<=16000)(hT:T < 1000000) :
  (∃ c',Ev1 (fun k=>tu k x e ej es c) (rL (doF s e).2 c' ej (es.set x (doF s e).1))/\DE c' j d rho (T+1) (doF s e).1/\Lens c c'/\∀ u,Calm c d u->u+86<=rho->Calm c' d (u+86)) \/
  (∃ c',Ev1 (fun k=>tu k x e ej es c) (rL (8,0) c' ej es)/\DE c' j d rho (T+1) s/\Lens c c'/\∀ u,Calm c d u->rho < u+86) \/
  (∃ c',Ev1 (fun k=>tu k x e ej es c) (rL (12,0) c' ej es)/\(doF s e).1 ≠ s/\DX c' d rho (T+1) s (doF s e).1/\Lens c c'/\∀ u,Calm c d u->rho < u+86):=by
 obtain ⟨t,bs,rs,sb,evs,hJ,hS,htT⟩:=h;have hs:=hS.invS;by_cases hq:(doF s e).1=s
 ·refine .inl ⟨c,?_,⟨t,bs,rs,sb,evs,hJ,by rw [hq];exact hS,by omega⟩,Lens.refl c,fun u hu _=>⟨hu.1,by have:=hu.2;omega⟩⟩;have:=Bx c hJ hs hej hx hes e hq;rw [hq,Ar es x zT0 hx hes];exact this
 have hql:¬ stL s=stL (doF s e).1:=fun h=>hq (Dx h).symm
 obtain ⟨i1,i2⟩:=zJ he;have hd:=HY hs e;have hi:=(x8 hs e i2).1;have hst:=DG s (doF s e).1 hs.st hi.st;have hee:=HV e i1;have tailE:∀ (n:Int) (c1:DC),Ev1 (fun k=>jh k k (some x) (some n) 0 0 (doF s e).1.1 (doF s e).1.2.1 (doF s e).1.2.2.1 (doF s e).1.2.2.2.1 (doF s e).1.2.2.2.2 (doF s e).2.1 (doF s e).2.2 c1.F c1.R c1.L c1.S ej es c1.jd c1.jt c1.jb c1.jr c1.jk c1.B c1.sf) (rL (n,0) c1 ej es):=fun n c1=>by
  have h2:Ev2 (fun k m=>jh k m (some x) (some n) 0 0 (doF s e).1.1 (doF s e).1.2.1 (doF s e).1.2.2.1 (doF s e).1.2.2.2.1 (doF s e).1.2.2.2.2 (doF s e).2.1 (doF s e).2.2 c1.F c1.R c1.L c1.S ej es c1.jd c1.jt c1.jb c1.jr c1.jk c1.B c1.sf) (rL (n,0) c1 ej es) :=
   Ev2.step (fun k m=>wX k m (some x) (some n) 0 0 (doF s e).1.1 (doF s e).1.2.1 (doF s e).1.2.2.1 (doF s e).1.2.2.2.1 (doF s e).1.2.2.2.2 (doF s e).2.1 (doF s e).2.2 c1.F c1.R c1.L c1.S ej es c1.jd c1.jt c1.jb c1.jr c1.jk c1.B c1.sf) (Ev2.pos rfl (Ev2.bind (wq (some n)) (Ev2.now _)))
  exact h2.diag
 have tailN:∀ (c1:DC),Ev1 (fun k=>jh k k (some x) none 0 0 (doF s e).1.1 (doF s e).1.2.1 (doF s e).1.2.2.1 (doF s e).1.2.2.2.1 (doF s e).1.2.2.2.2 (doF s e).2.1 (doF s e).2.2 c1.F c1.R c1.L c1.S ej es c1.jd c1.jt c1.jb c1.jr c1.jk c1.B c1.sf) (rL (doF s e).2 c1 ej (es.set x (doF s e).1)):=fun c1=>by
  have h2:Ev2 (fun k m=>jh k m (some x) none 0 0 (doF s e).1.1 (doF s e).1.2.1 (doF s e).1.2.2.1 (doF s e).1.2.2.2.1 (doF s e).1.2.2.2.2 (doF s e).2.1 (doF s e).2.2 c1.F c1.R c1.L c1.S ej es c1.jd c1.jt c1.jb c1.jr c1.jk c1.B c1.sf) (rL (doF s e).2 c1 ej (es.set x (doF s e).1)) :=
   Ev2.step (fun k m=>wX k m (some x) none 0 0 (doF s e).1.1 (doF s e).1.2.1 (doF s e).1.2.2.1 (doF s e).1.2.2.2.1 (doF s e).1.2.2.2.2 (doF s e).2.1 (doF s e).2.2 c1.F c1.R c1.L c1.S ej es c1.jd c1.jt c1.jb c1.jr c1.jk c1.B c1.sf) (Ev2.neg rfl (Ev2.pos rfl (Ev2.now _)))
  exact h2.diag
 have st:=fun k=>FM k (some x) e c.F c.R c.L c.S ej es c.jd c.jt c.jb c.jr c.jk c.B c.sf s hes.symm
 have hfl:(fr (encE e)).length<=86:=by rw [iJ];have:=(HW he).2;omega
 rcases wL c hJ (encE e) (HW he) with ⟨ha,hca⟩ | ⟨c',ha,hjb,hJ',hL,hca⟩ | ⟨c',ha,hjb,hD,hL,hca⟩
 ·-- no room: a snapshot first
  have hfull:∀ u,Calm c d u->rho < u+86:=fun u hu=>by have:=hca u hu;omega
  rcases F0 c hJ hS hej hes (by omega) with ⟨n,hn,hk⟩ | ⟨c',hk,hJ',hL⟩ | ⟨c',hk,hD,hL⟩
  ·have hn8:n=8:=hn.resolve_left (fun h=>by omega);subst hn8;refine .inr (.inl ⟨c,Ev1.step st (Ev1.pos rfl ?_),⟨t,bs,rs,sb,evs,hJ,hS,by omega⟩,Lens.refl c,hfull⟩);simp only [MN];rw [hej];exact Ev1.bind (iM hJ.jk.2) (Ev1.neg rfl (Ev1.pos rfl (Ev1.bind hd (Ev1.pos rfl (Ev1.bind hst (Ev1.negD hql (Ev1.bind hee (Ev1.pos rfl (Ev1.bind ha (Ev1.pos rfl (Ev1.posD rfl (Ev1.bind hk (Ev1.neg rfl (tailE 8 c))))))))))))))
  ·have hS':=yE hs (t+1) (by omega);have go:∀ {r6:R12} {R:R9},Ev1 (fun k=>lT k j (encE e) c') r6->Ev1 (fun k=>jh k k (some x) r6.1 0 0 (doF s e).1.1 (doF s e).1.2.1 (doF s e).1.2.2.1 (doF s e).1.2.2.2.1 (doF s e).1.2.2.2.2 (doF s e).2.1 (doF s e).2.2 r6.2.1 r6.2.2.1 r6.2.2.2.1 r6.2.2.2.2.1 ej es r6.2.2.2.2.2.1 r6.2.2.2.2.2.2.1 c'.jb r6.2.2.2.2.2.2.2.1 r6.2.2.2.2.2.2.2.2.1 r6.2.2.2.2.2.2.2.2.2.1 r6.2.2.2.2.2.2.2.2.2.2) R->Ev1 (fun k=>tu k x e ej es c) R:=fun {r6 R} h6 hR=>by
    refine Ev1.step st (Ev1.pos rfl ?_);simp only [MN];rw [hej];refine Ev1.bind (iM hJ.jk.2) (Ev1.neg rfl (Ev1.pos rfl (Ev1.bind hd (Ev1.pos rfl (Ev1.bind hst (Ev1.negD hql (Ev1.bind hee (Ev1.pos rfl (Ev1.bind ha (Ev1.pos rfl (Ev1.posD rfl (Ev1.bind hk (Ev1.pos rfl (Ev1.pos rfl ?_))))))))))))));dsimp only;rw [hej];exact Ev1.bind h6 hR
   rcases wL c' hJ' (encE e) (HW he) with ⟨ha2,_⟩ | ⟨c2,ha2,hjb2,hJ2,hL2,_⟩ | ⟨c2,ha2,hjb2,hD2,hL2,_⟩
   ·exact .inr (.inl ⟨c',go ha2 (tailE 8 c'),⟨t+1,_,[],s,[],hJ',hS',by omega⟩,hL,hfull⟩)
   ·have:=tailN c2;rw [hjb2] at this;refine .inl ⟨c2,?_,⟨t+1,_,_,s,_,hJ2,hS'.snoc he,by omega⟩,hL.trans hL2,fun u hu h=>by have:=hfull u hu;omega⟩;exact go ha2 this
   ·have:=tailE 12 c2;rw [hjb2] at this;refine .inr (.inr ⟨c2,?_,hq,⟨t+1,_,[],_,s,[],hD2,hS',by omega,.inr ⟨e,rfl,he,rfl⟩⟩,hL.trans hL2,hfull⟩);exact go ha2 this
  ·refine .inr (.inr ⟨c',Ev1.step st (Ev1.pos rfl ?_),hq,(hD _).mono (by omega),hL,hfull⟩);simp only [MN];rw [hej];exact Ev1.bind (iM hJ.jk.2) (Ev1.neg rfl (Ev1.pos rfl (Ev1.bind hd (Ev1.pos rfl (Ev1.bind hst (Ev1.negD hql (Ev1.bind hee (Ev1.pos rfl (Ev1.bind ha (Ev1.pos rfl (Ev1.posD rfl (Ev1.bind hk (Ev1.neg rfl (tailE 12 c'))))))))))))))
 ·have:=tailN c';rw [hjb] at this;refine .inl ⟨c',Ev1.step st (Ev1.pos rfl ?_),⟨t,bs,_,sb,_,hJ',hS.snoc he,by omega⟩,hL,fun u hu _=>by have:=hca u hu;exact ⟨this.1,Nc this.2 (by omega)⟩⟩;simp only [MN];rw [hej];exact Ev1.bind (iM hJ.jk.2) (Ev1.neg rfl (Ev1.pos rfl (Ev1.bind hd (Ev1.pos rfl (Ev1.bind hst (Ev1.negD hql (Ev1.bind hee (Ev1.pos rfl (Ev1.bind ha (Ev1.pos rfl (Ev1.negD (by simp) this)))))))))))
 ·have:=tailE 12 c';rw [hjb] at this;refine .inr (.inr ⟨c',Ev1.step st (Ev1.pos rfl ?_),hq,⟨t,bs,rs,_,sb,evs,hD,hS,by omega,.inr ⟨e,rfl,he,rfl⟩⟩,hL,fun u hu=>(hca u hu).elim⟩);simp only [MN];rw [hej];exact Ev1.bind (iM hJ.jk.2) (Ev1.neg rfl (Ev1.pos rfl (Ev1.bind hd (Ev1.pos rfl (Ev1.bind hst (Ev1.negD hql (Ev1.bind hee (Ev1.pos rfl (Ev1.bind ha (Ev1.pos rfl (Ev1.negD (show ¬ (some (12:Int)=some 8) by decide) this)))))))))))
end Go.Eng.Top
namespace Go.Eng.Top
open Go.RowKit Go.Eng Go.Eng.LVar Go.Eng.LCrc Go.Eng.LFrm
set_option maxRecDepth 100000
inductive Rch (A:ae->Prop):ab->List dK->List aD->Prop
 | zero:Rch A s0 [] []
 | ask {s:ab} {said:List dK} {done:List aD} (r:ae):A r->Rch A s said done->Rch A (doF s (0,r,0,false)).1 (said++[(r,(doF s (0,r,0,false)).2)]) (done++[(0,r,0,false)])
 | lost {s:ab} {said:List dK} {done:List aD} (r:ae) (o:ai):A r->(o.1=8\/o.1=12)->Rch A s said done->Rch A s (said++[(r,o)]) done
 | kept {s:ab} {said:List dK} {done:List aD} (r:ae) (o:ai):A r->o.1=12->Rch A s said done->Rch A (doF s (0,r,0,false)).1 (said++[(r,o)]) (done++[(0,r,0,false)])
 | ev {s:ab} {said:List dK} {done:List aD} (e:aD):evR e->e.1 ≠ 0->Rch A s said done->Rch A (doF s e).1 said (done++[e])
theorem Rch.said {A:ae->Prop} {s:ab} {said:List dK} {done:List aD} (h:Rch A s said done):∀ x ∈ said,A x.1:=by
 induction h with
 | zero=>intro x hx;cases hx
 | ask r ha _ ih=>intro x hx;rcases MU.1 hx with hx | hx;exact ih x hx;rw [Na.1 hx];exact ha
 | lost r o ha _ _ ih=>intro x hx;rcases MU.1 hx with hx | hx;exact ih x hx;rw [Na.1 hx];exact ha
 | kept r o ha _ _ ih=>intro x hx;rcases MU.1 hx with hx | hx;exact ih x hx;rw [Na.1 hx];exact ha
 | ev e _ _ _ ih=>exact ih
theorem LG {s:ab} (h:Inv s)(r:ae):okO (askF s.2.2.2.1 r).1:=by
 unfold askF;cases hf:fnd r.1 s.2.2.2.1 with
 | none=>exact l7 (by omega)
 | some i =>
  obtain ⟨hi,_⟩:=hZ hf;dsimp only;split
  ·split
   ·rw [bj _ _ _ hi];exact (h.kr _ (Np hi)).2
   ·exact kR (by omega)
  ·exact kR (by omega)
theorem Mn {s:ab} (h:Inv s)(e:aD)(he:evR e):okO (doF s e).2:=by
 obtain ⟨i1,i2⟩:=zJ he;unfold doF;split
 ·unfold subF;split
  ·exact kR (by omega)
  split
  ·exact LG h _
  split
  ·exact kR (by omega)
  have hp:∀ c,(putF s.2.2.2.1 e.2.1).2=some c->c=5\/c=7:=by
   intro c hc;unfold putF at hc;split at hc
   ·cases hc;exact .inl rfl
   ·split at hc
    ·cases hc;exact .inr rfl
    ·cases hc
  cases hq:(putF s.2.2.2.1 e.2.1).2 with
  | some c=>dsimp only;exact kR (by rcases hp c hq with h | h<;>omega)
  | none =>
   dsimp only;split
   ·obtain ⟨q1,q2⟩:=DU h.op e.2.1;cases hc:(resF s e.2.1).2 with
    | some c=>dsimp only;exact kR (q2 c hc)
    | none=>dsimp only;exact kR (by omega)
   ·rename_i hm _ _ hl;have hmt:mayB e.2.1=true:=by cases hq:mayB e.2.1 with | true=>rfl | false=>exact (hm hq).elim
    exact (AP h.op e.2.1 (fun h3=>⟨i2,(uH hmt).2 h3,(uH hmt).1⟩) (Ew hm)).2
 split
 ·unfold tM;cases hf:fndG e.2.2.1 s.2.2.1 with
  | none=>exact kR (by omega)
  | some i =>
   have hi:=qU hf;dsimp only;split
   ·rename_i h1;rw [bj _ _ _ hi] at h1 ⊢;have hg:=(h.gr _ (Np hi)).2.2.2;show okO ((s.2.2.1[i]).2.2.2.2,0);exact kR (by omega)
   split
   ·obtain ⟨q1,q2⟩:=pD h.op (s.2.2.1.getD i zG).1;cases hc:(oK s (s.2.2.1.getD i zG).1).2 with
    | none=>exact l7 (by omega)
    | some c=>exact kR (by omega)
   ·exact kR (by omega)
 split
 ·exact l7 (by omega)
 ·exact kR (by omega)
theorem Al.lens {W W':WC} (h:Al W)(hwd:W'.wd=W.wd)(hwe:W'.we.length=W.we.length)(hws:W'.ws.length=W.ws.length)(hwn:W'.wn.length=W.wn.length)(hwr:W'.wr.length=W.wr.length)(hww:W'.ww.length=W.ww.length)(hwo:W'.wo.length=W.wo.length)(hes:W'.es.length=W.es.length)(hej:W'.ej=W.ej)(hL:Lens W.c W'.c):Al W' :=
 ⟨by rw [hwe,hwd];exact h.we,by rw [hws,hwd];exact h.ws,by rw [hwn,hwd];exact h.wn,by rw [hwr,hwd];exact h.wr,by rw [hww,hwd];exact h.ww,by rw [hwo,hwd];exact h.wo,by rw [hes,hej];exact h.es,by rw [hL.jt,hL.jd];exact h.jt,by rw [hL.jb,hL.jd];exact h.jb,by rw [hL.jr,hL.jd];exact h.jr,by rw [hL.jk,hL.jd];exact h.jk,by rw [hL.R,hL.F];exact h.R,by rw [hL.L,hL.F];exact h.L,by rw [hL.S,hL.F];exact h.S⟩
structure WB (W:WC)(w x d n:Nat)(said:List dK)(done o:List aD):Prop where
 wd:W.wd.getD w none=some d
 we:w < W.we.length/\W.we.getD w none=some x
 ws:w < W.ws.length/\W.ws.getD w []=said
 wn:w < W.wn.length/\W.wn.getD w []=done
 nl:done.length<=n/\said.length<=n
 wr:w < W.wr.length/\W.wr.getD w none=none
 ww:w < W.ww.length
 wo:w < W.wo.length/\W.wo.getD w []=o
 al:Al W
structure WG (W:WC)(w x j d rho T n:Nat)(s:ab)(said:List dK)(done:List aD):Prop where
 b:WB W w x d n said done []
 ej:W.ej.getD x none=some j
 es:x < W.es.length/\W.es.getD x zT=s
 de:DE W.c j d rho T s
structure WX (W:WC)(w x d rho T n:Nat)(s s':ab)(said:List dK)(done o:List aD):Prop where
 b:WB W w x d n said done o
 dx:DX W.c d rho T s s'
 o:(o=[]/\s'=s)\/∃ e,o=[e]/\evR e/\s'=(doF s e).1/\s' ≠ s/\W.ww.getD w zT=s
theorem WB.mono {W:WC} {w x d n n':Nat} {said:List dK} {done o:List aD} (h:WB W w x d n said done o)(hn:n<=n'):WB W w x d n' said done o :=
 ⟨h.wd,h.we,h.ws,h.wn,⟨Nc h.nl.1 hn,Nc h.nl.2 hn⟩,h.wr,h.ww,h.wo,h.al⟩
theorem WG.mono {W:WC} {w x j d rho T T' n n':Nat} {s:ab} {said:List dK} {done:List aD} (h:WG W w x j d rho T n s said done)(hT:T<=T')(hn:n<=n'):WG W w x j d rho T' n' s said done:=⟨h.b.mono hn,h.ej,h.es,h.de.mono hT⟩
theorem ir {W:WC} {w x j d rho T n:Nat} {s:ab} {said:List dK} {done:List aD} (h:WG W w x j d rho T n s said done):Ev1 (fun k=>CF k km eS [inj (.ref 29) (W.wd.getD w none),Cl W.c.S]) (false,W.c.S):=by
 obtain ⟨t,bs,rs,sb,evs,hJ,_⟩:=h.de;rw [h.b.wd];refine Ev1.step (fun k=>oC k (some d) W.c.S) (Ev1.pos rfl (Ev1.const ?_));show some (W.c.S.getD d false,W.c.S)=_;rw [hJ.dg.live]
theorem vS {W:WC} {w x d rho T n:Nat} {s s':ab} {said:List dK} {done o:List aD} (h:WX W w x d rho T n s s' said done o):Ev1 (fun k=>CF k km eS [inj (.ref 29) (W.wd.getD w none),Cl W.c.S]) (true,W.c.S):=by
 obtain ⟨t,bs,rs,p,sb,evs,hD,_⟩:=h.dx;rw [h.b.wd];refine Ev1.step (fun k=>oC k (some d) W.c.S) (Ev1.pos rfl (Ev1.const ?_));show some (W.c.S.getD d false,W.c.S)=_;rw [hD.stop]
theorem Lg {x y:List Int} (hx:x.length<=16384)(hy:y.length<=16384)(h:fr x=fr y):x=y:=by
 have h1:=AQ x [] hx;have h2:=AQ y [] hy;rw [h,h2] at h1;exact (O1 h1).symm
noncomputable abbrev LD (k w:Nat)(keep:Int)(W:WC):=CF k CB ng [inj (.ref 26) (some w),inj (.int .i64) keep,Ca W.wd,Cb W.we,Cd W.wn,Ce W.wc,Cf W.wr,Cg W.ww,Ch W.wo,Ci W.c.F,Ck W.c.L,Cl W.c.S,Cm W.ej,Cn W.es,Co W.c.jd,Cp W.c.jt,Cq W.c.jb,Cr W.c.jr,Cs W.c.jk,Ct W.c.B,Cu W.c.sf]
abbrev outG (W:WC):R4:=(W.wd,W.we,W.wn,W.wc,W.wr,W.ww,W.wo,W.c.F,W.c.L,W.c.S,W.ej,W.es,W.c.jd,W.c.jt,W.c.jb,W.c.jr,W.c.jk,W.c.B,W.c.sf)
theorem rH (W:WC) {w x d rho T n:Nat} {s s':ab} {said:List dK} {done o:List aD} (h:WX W w x d rho T n s s' said done o)(keep:Int)(hT:T<=1000000)(hn:n<=90000) :
  ∃ we wn wc wr wo ej es F L S jd jt jb jr jk B sf x' j' s2 done2,Ev1 (fun k=>LD k w keep W) (outG ⟨W.wd,we,W.ws,wn,wc,wr,W.ww,wo,ej,es,⟨F,W.c.R,L,S,jd,jt,jb,jr,jk,B,sf⟩⟩) /\
   WG ⟨W.wd,we,W.ws,wn,wc,wr,W.ww,wo,ej,es,⟨F,W.c.R,L,S,jd,jt,jb,jr,jk,B,sf⟩⟩ w x' j' d rho T (n+1) s2 said done2/\((s2=s/\done2=done)\/∃ e,o=[e]/\s2=(doF s e).1/\done2=done++[e]):=by
 obtain ⟨t,bs,rs,p,sb,evs,hD,hS,htT,hp⟩:=h.dx;obtain ⟨B',sf',rs',p',hrest,hrs,hRS⟩:=DS hD keep;have hRS:=hRS W.c.jd W.c.jt W.c.jb W.c.jr W.c.jk
 -- the state behind it
 have hsrc:∃ s2 evs2,Src t bs rs' s2 sb evs2/\(s2=s\/s2=s'):=by
  rcases hrs with hrs | ⟨e0,hp0,hrs⟩
  ·exact ⟨s,evs,by rw [hrs];exact hS,.inl rfl⟩
  ·rcases hp with hp | ⟨e,hp,he,hs'⟩
   ·rw [hp] at hp0;have:=congrArg List.length hp0;rw [iJ] at this;simp at this;omega
   ·have hl0:e0.length<=80:=(hRS.rcs e0 (by rw [hrs];simp)).2;have:=(HW he).2;have heq:e0=encE e:=Lg (by omega) (by omega) (hp0.symm.trans hp);rw [hrs,heq];exact ⟨(doF s e).1,evs++[e],hS.snoc he,.inr hs'⟩
 obtain ⟨s2,evs2,hS2,hs2⟩:=hsrc;obtain ⟨c',ho,hJ,hL⟩:=FY hRS h.b.al.jt h.b.al.jb h.b.al.jr h.b.al.jk (by omega) W.ej W.es h.b.al.es hS2;obtain ⟨F,R,L,S,jd,jt,jb,jr,jk,B,sf⟩:=c';have hR:R=W.c.R:=hL.R;subst hR;have hinv2:=hS2.invS;have hwe:(W.we.set w (some W.ej.length)).getD w none=some W.ej.length:=ah _ _ _ _ h.b.we.1;have hst:Ev1 (fun k=>CF k eL bK [inj (.ref 30) ((W.we.set w (some W.ej.length)).getD w none),Cn (W.es++[s2])]) (s2,W.es++[s2]):=by
  rw [hwe];exact eev (aP _ _ _ h.b.al.es.symm)
 have hal:∀ wn':List (List aD),wn'.length=W.wn.length->Al ⟨W.wd,W.we.set w (some W.ej.length),W.ws,wn',W.wc.set w (w64 (W.wc.getD w 0+1)),W.wr.set w none,W.ww,W.wo.set w [],W.ej++[some W.c.jd.length],W.es++[s2],⟨F,W.c.R,L,S,jd,jt,jb,jr,jk,B,sf⟩⟩:=fun wn' h1=>by
  have e0:jd=W.c.jd++[some d]:=hL.jd;have e1:jt.length=W.c.jt.length+1:=hL.jt;have e2:jb.length=W.c.jb.length+1:=hL.jb;have e3:jr.length=W.c.jr.length+1:=hL.jr;have e4:jk.length=W.c.jk.length+1:=hL.jk;have e5:F.length=W.c.F.length:=hL.F;have e6:L.length=(W.c.L.set d (-1)).length:=congrArg List.length hL.L;have e7:S.length=(W.c.S.set d false).length:=congrArg List.length hL.S;have al:=h.b.al;constructor
  all_goals dsimp only
  ·rw [MB];exact al.we
  ·exact al.ws
  ·rw [h1];exact al.wn
  ·rw [MB];exact al.wr
  ·exact al.ww
  ·rw [MB];exact al.wo
  ·simp [al.es]
  ·rw [e0,e1,al.jt];simp
  ·rw [e0,e2,al.jb];simp
  ·rw [e0,e3,al.jr];simp
  ·rw [e0,e4,al.jk];simp
  ·rw [e5];exact al.R
  ·rw [e5,e6,MB];exact al.L
  ·rw [e5,e7,MB];exact al.S
 have base:∀ wn' done',wn'.length=W.wn.length->wn'.getD w []=done'->done'.length<=n+1 ->
   WG ⟨W.wd,W.we.set w (some W.ej.length),W.ws,wn',W.wc.set w (w64 (W.wc.getD w 0+1)),W.wr.set w none,W.ww,W.wo.set w [],W.ej++[some W.c.jd.length],W.es++[s2],⟨F,W.c.R,L,S,jd,jt,jb,jr,jk,B,sf⟩⟩ w W.ej.length W.c.jd.length d rho T (n+1) s2 said done':=fun wn' done' h1 h2 h3 =>
  ⟨⟨h.b.wd,⟨by rw [MB];exact h.b.we.1,hwe⟩,h.b.ws,⟨by rw [h1];exact h.b.wn.1,h2⟩,⟨h3,by have:=h.b.nl.2;omega⟩,⟨by rw [MB];exact h.b.wr.1,ah _ _ _ _ h.b.wr.1⟩,h.b.ww,⟨by rw [MB];exact h.b.wo.1,ah _ _ _ _ h.b.wo.1⟩,
   hal wn' h1⟩,bh _ _ _,⟨by simp [h.b.al.es],aP _ _ _ h.b.al.es.symm⟩,⟨t,bs,rs',sb,evs2,hJ,hS2,htT⟩⟩
 have hdn:=h.b.nl.1
 -- the events that may have been done
 have loop:∃ wn' done2,Ev2 (fun k m=>fI k m (some w) w (((W.wo.getD w []).length:Nat):Int) (0:Int) W.wd (W.we.set w (some W.ej.length)) W.wn (W.wc.set w (w64 (W.wc.getD w 0+1))) (W.wr.set w none) W.ww W.wo F L S (W.ej++[some W.c.jd.length]) (W.es++[s2]) jd jt jb jr jk B sf)
   (outG ⟨W.wd,W.we.set w (some W.ej.length),W.ws,wn',W.wc.set w (w64 (W.wc.getD w 0+1)),W.wr.set w none,W.ww,W.wo.set w [],W.ej++[some W.c.jd.length],W.es++[s2],⟨F,W.c.R,L,S,jd,jt,jb,jr,jk,B,sf⟩⟩)/\wn'.length=W.wn.length/\wn'.getD w []=done2/\done2.length<=n+1/\((s2=s/\done2=done)\/∃ e,o=[e]/\s2=(doF s e).1/\done2=done++[e]):=by
  have ends:∀ (wn':List (List aD)) (N:Nat),Ev2 (fun k m=>fI k m (some w) w (N:Int) (N:Int) W.wd (W.we.set w (some W.ej.length)) wn' (W.wc.set w (w64 (W.wc.getD w 0+1))) (W.wr.set w none) W.ww W.wo F L S (W.ej++[some W.c.jd.length]) (W.es++[s2]) jd jt jb jr jk B sf)
    (outG ⟨W.wd,W.we.set w (some W.ej.length),W.ws,wn',W.wc.set w (w64 (W.wc.getD w 0+1)),W.wr.set w none,W.ww,W.wo.set w [],W.ej++[some W.c.jd.length],W.es++[s2],⟨F,W.c.R,L,S,jd,jt,jb,jr,jk,B,sf⟩⟩):=fun wn' N =>
   Ev2.step (fun k m=>ot k m (some w) w (N:Int) (N:Int) W.wd _ wn' _ _ W.ww W.wo F L S _ _ jd jt jb jr jk B sf _ rfl _ rfl _ rfl _ rfl) (Ev2.negD (by omega) (Ev2.pos rfl (Ev2.now _)))
  rw [h.b.wo.2];rcases h.o with ⟨ho0,hs0⟩ | ⟨e,ho0,heR,hs0,hne,hww⟩
  ·subst ho0;exact ⟨W.wn,done,ends W.wn 0,rfl,h.b.wn.2,by omega,.inl ⟨by rcases hs2 with h | h;exact h;exact h.trans hs0,rfl⟩⟩
  ·subst ho0;have hs:Inv s:=hS.invS;have hi:=(x8 hs e (zJ heR).2).1;have hdo:=HY hs e;have hcd:encs (stL (doF s e).1)=encs (stL s2) ↔ (doF s e).1=s2:=⟨fun h=>Dx (rf (m6 hi.st) (m6 hinv2.st) h),fun h=>by rw [h]⟩
   have st:=fun k m=>ot k m (some w) w (([e]:List aD).length:Int) (0:Int) W.wd (W.we.set w (some W.ej.length)) W.wn (W.wc.set w (w64 (W.wc.getD w 0+1))) (W.wr.set w none) W.ww W.wo F L S (W.ej++[some W.c.jd.length]) (W.es++[s2]) jd jt jb jr jk B sf (1:Int) (by rw [aO (by omega)];rfl) [e] h.b.wo.2.symm done h.b.wn.2.symm e rfl
   by_cases hq:(doF s e).1=s2
   ·refine ⟨W.wn.set w (done++[e]),done++[e],Ev2.step st (Ev2.posD (by simp) (Ev2.pos rfl (Ev2.pos rfl ?_))),MB,ah _ _ _ _ h.b.wn.1,by rw [My];simp only [MC,ML];omega,.inr ⟨e,rfl,hq.symm,rfl⟩⟩;simp only [MN];rw [show W.ww.getD w ([],[],[],[],(0:Int))=s from hww];refine Ev2.bind hdo (Ev2.bind (iQ _ hi.st) (Ev2.pos rfl (Ev2.bind hst (Ev2.bind (iQ _ hinv2.st) (Ev2.pos ?_ (Ev2.pos rfl (Ev2.posD ?_ (Ev2.pos rfl (Ev2.pos (by simp) (ends _ 1))))))))))
    ·exact MJ (hcd.2 hq)
    ·simp only [MC,ML];omega
   ·have h2:s2=s:=by rcases hs2 with h | h;exact h;exact (hq (hs0.symm.trans h.symm)).elim
    refine ⟨W.wn,done,Ev2.step st (Ev2.posD (by simp) (Ev2.pos rfl (Ev2.pos rfl ?_))),rfl,h.b.wn.2,by omega,.inl ⟨h2,rfl⟩⟩;simp only [MN];rw [show W.ww.getD w ([],[],[],[],(0:Int))=s from hww];refine Ev2.bind hdo (Ev2.bind (iQ _ hi.st) (Ev2.pos rfl (Ev2.bind hst (Ev2.bind (iQ _ hinv2.st) (Ev2.neg ?_ (ends _ 1))))));exact MD (fun h=>hq (hcd.1 h))
 obtain ⟨wn',done2,hlp,hw1,hw2,hw3,hw4⟩:=loop;refine ⟨_,wn',_,_,_,_,_,F,L,S,jd,jt,jb,jr,jk,B,sf,_,_,s2,done2,?_,base wn' done2 hw1 hw2 hw3,hw4⟩;refine Ev1.step (fun k=>CI k (some w) keep W.wd W.we W.wn W.wc W.wr W.ww W.wo W.c.F W.c.L W.c.S W.ej W.es W.c.jd W.c.jt W.c.jb W.c.jr W.c.jk W.c.B W.c.sf _ rfl) (Ev1.pos rfl (Ev1.pos rfl (Ev1.pos rfl ?_)));simp only [MN];rw [h.b.wd];refine Ev1.bind hrest (Ev1.pos rfl ?_);dsimp only;refine Ev1.bind ho (Ev1.pos rfl (Ev1.pos rfl (Ev1.pos rfl (Ev1.neg ?_ (Ev1.pos rfl hlp.diag)))));dsimp only;rw [ah _ _ _ _ h.b.wr.1];rfl
theorem FZ (W:WC) {w x j d rho T n:Nat} {s:ab} {said:List dK} {done:List aD} (h:WG W w x j d rho T n s said done)(e:aD)(he:evR e)(hsm:(encs (stL s)).length<=16000)(hT:T < 1000000)(hn:n<=90000) :
  ∃ o wn ww wo es c,Ev1 (fun k=>H7 k w e W) (outD o ⟨W.wd,W.we,W.ws,wn,W.wc,W.wr,ww,wo,W.ej,es,c⟩) /\
   ((o=(doF s e).2/\WG ⟨W.wd,W.we,W.ws,wn,W.wc,W.wr,ww,wo,W.ej,es,c⟩ w x j d rho (T+1) (n+1) (doF s e).1 said (done++[e])/\∀ u,Calm W.c d u->u+86<=rho->Calm c d (u+86)) \/
    (o=(8,0)/\WG ⟨W.wd,W.we,W.ws,wn,W.wc,W.wr,ww,wo,W.ej,es,c⟩ w x j d rho (T+1) (n+1) s said done/\∀ u,Calm W.c d u->rho < u+86) \/
    (o=(12,0)/\WX ⟨W.wd,W.we,W.ws,wn,W.wc,W.wr,ww,wo,W.ej,es,c⟩ w x d rho (T+1) (n+1) s (doF s e).1 said done [e]/\∀ u,Calm W.c d u->rho < u+86)):=by
 have hinv:=h.de.inv;obtain ⟨h8,h12⟩:=(Mn hinv e he).2.2;have hst:Ev1 (fun k=>CF k eL bK [inj (.ref 30) (W.we.getD w none),Cn W.es]) (s,W.es):=by rw [h.b.we.2];exact eev h.es.2
 have hnl:=h.b.nl;have stp:=fun k=>Fw k (some w) e W.we W.wn W.ww W.wo W.c.F W.c.R W.c.L W.c.S W.ej W.es W.c.jd W.c.jt W.c.jb W.c.jr W.c.jk W.c.B W.c.sf _ rfl _ rfl
 have go:∀ {o:ai} {c':DC} {es':List ab} {g:Nat->R9->Option R6} {r:R6},Ev1 (fun k=>tu k x e W.ej W.es W.c) (rL o c' W.ej es')->Ev1 (fun k=>g k (rL o c' W.ej es')) r ->
   Ev1 (fun k=>(CF k Fm qd [inj (.ref 30) (W.we.getD w none),inj aI e,Ci W.c.F,Cj W.c.R,Ck W.c.L,Cl W.c.S,Cm W.ej,Cn W.es,Co W.c.jd,Cp W.c.jt,Cq W.c.jb,Cr W.c.jr,Cs W.c.jk,Ct W.c.B,Cu W.c.sf]).bind (g k)) r:=fun {o c' es' g r} hd hg=>by
  rw [h.b.we.2];exact Ev1.bind hd hg
 rcases Mp W.c h.de h.ej h.es.1 h.es.2 e he hsm hT with ⟨c',hd,hE,hL,hca⟩ | ⟨c',hd,hE,hL,hca⟩ | ⟨c',hd,hne,hX,hL,hca⟩
 ·refine ⟨(doF s e).2,W.wn.set w (W.wn.getD w []++[e]),W.ww.set w s,W.wo,W.es.set x (doF s e).1,c',Ev1.step stp (Ev1.pos rfl (Ev1.bind hst (Ev1.pos rfl (Ev1.pos rfl (go hd ?_))))),.inl ⟨rfl,⟨⟨h.b.wd,h.b.we,h.b.ws,⟨by dsimp only;rw [MB];exact h.b.wn.1,by dsimp only;rw [ah _ _ _ _ h.b.wn.1,h.b.wn.2]⟩,⟨by rw [My];simp only [MC,ML];omega,by omega⟩,h.b.wr,by dsimp only;rw [MB];exact h.b.ww,h.b.wo,h.b.al.lens rfl rfl rfl MB rfl MB rfl MB rfl hL⟩,h.ej,⟨by dsimp only;rw [MB];exact h.es.1,ah _ _ _ _ h.es.1⟩,hE⟩,hca⟩⟩;exact Ev1.negD h12 (Ev1.negD h8 (Ev1.pos rfl (Ev1.posD (by simp only [MN,MC,ML];rw [h.b.wn.2];omega) (Ev1.pos rfl (Ev1.pos (by simp) (Ev1.now _))))))
 ·refine ⟨(8,0),W.wn,W.ww.set w s,W.wo,W.es,c',Ev1.step stp (Ev1.pos rfl (Ev1.bind hst (Ev1.pos rfl (Ev1.pos rfl (go hd ?_))))),.inr (.inl ⟨rfl,⟨⟨h.b.wd,h.b.we,h.b.ws,h.b.wn,⟨by omega,by omega⟩,h.b.wr,by dsimp only;rw [MB];exact h.b.ww,h.b.wo,h.b.al.lens rfl rfl rfl rfl rfl MB rfl rfl rfl hL⟩,h.ej,h.es,hE⟩,hca⟩)⟩;exact Ev1.negD (show ¬ (8:Int)=12 by omega) (Ev1.posD rfl (Ev1.now _))
 ·refine ⟨(12,0),W.wn,W.ww.set w s,W.wo.set w (W.wo.getD w []++[e]),W.es,c',Ev1.step stp (Ev1.pos rfl (Ev1.bind hst (Ev1.pos rfl (Ev1.pos rfl (go hd ?_))))),.inr (.inr ⟨rfl,⟨⟨h.b.wd,h.b.we,h.b.ws,h.b.wn,⟨by omega,by omega⟩,h.b.wr,by dsimp only;rw [MB];exact h.b.ww,⟨by dsimp only;rw [MB];exact h.b.wo.1,by dsimp only;rw [ah _ _ _ _ h.b.wo.1,h.b.wo.2];rfl⟩,h.b.al.lens rfl rfl rfl rfl rfl MB MB rfl rfl hL⟩,hX,.inr ⟨e,rfl,he,rfl,hne,ah _ _ _ _ h.b.ww⟩⟩,hca⟩)⟩;exact Ev1.posD rfl (Ev1.pos rfl (Ev1.posD (by simp only [MN,MC,ML];rw [h.b.wo.2];simp) (Ev1.pos rfl (Ev1.pos (by simp) (Ev1.now _)))))
theorem LJ (W:WC) {w x j d rho T n:Nat} {s:ab} {said:List dK} {done:List aD} (h:WG W w x j d rho T n s said done)(r:ae)(he:evR (0,r,0,false))(hsm:(encs (stL s)).length<=16000)(hT:T < 1000000)(hn:n<=90000) :
  ∃ o ws wn ww wo es c,Ev1 (fun k=>Ki k w r W) (outK ⟨W.wd,W.we,ws,wn,W.wc,W.wr,ww,wo,W.ej,es,c⟩) /\
   ((o=(doF s (0,r,0,false)).2/\WG ⟨W.wd,W.we,ws,wn,W.wc,W.wr,ww,wo,W.ej,es,c⟩ w x j d rho (T+1) (n+1) (doF s (0,r,0,false)).1 (said++[(r,o)]) (done++[(0,r,0,false)])/\∀ u,Calm W.c d u->u+86<=rho->Calm c d (u+86)) \/
    (o=(8,0)/\WG ⟨W.wd,W.we,ws,wn,W.wc,W.wr,ww,wo,W.ej,es,c⟩ w x j d rho (T+1) (n+1) s (said++[(r,o)]) done/\∀ u,Calm W.c d u->rho < u+86) \/
    (o=(12,0)/\WX ⟨W.wd,W.we,ws,wn,W.wc,W.wr,ww,wo,W.ej,es,c⟩ w x d rho (T+1) (n+1) s (doF s (0,r,0,false)).1 (said++[(r,o)]) done [(0,r,0,false)]/\∀ u,Calm W.c d u->rho < u+86)):=by
 obtain ⟨o,wn,ww,wo,es,c,hd,hc⟩:=FZ W h (0,r,0,false) he hsm hT hn;have hnl:=h.b.nl;have mk:∀ {done' o':List aD},WB ⟨W.wd,W.we,W.ws,wn,W.wc,W.wr,ww,wo,W.ej,es,c⟩ w x d (n+1) said done' o'->WB ⟨W.wd,W.we,W.ws.set w (W.ws.getD w []++[(r,o)]),wn,W.wc,W.wr,ww,wo,W.ej,es,c⟩ w x d (n+1) (said++[(r,o)]) done' o':=fun {done' o'} b =>
  ⟨b.wd,b.we,⟨by dsimp only;rw [MB];exact h.b.ws.1,by dsimp only;rw [ah _ _ _ _ h.b.ws.1,h.b.ws.2]⟩,b.wn,⟨b.nl.1,by rw [My];simp only [MC,ML];omega⟩,b.wr,b.ww,b.wo,b.al.lens rfl rfl MB rfl rfl rfl rfl rfl rfl (Lens.refl _)⟩
 refine ⟨o,W.ws.set w (W.ws.getD w []++[(r,o)]),wn,ww,wo,es,c,Ev1.step (fun k=>HJ k (some w) r W.we W.ws W.wn W.ww W.wo W.c.F W.c.R W.c.L W.c.S W.ej W.es W.c.jd W.c.jt W.c.jb W.c.jr W.c.jk W.c.B W.c.sf _ rfl) (Ev1.pos rfl (Ev1.bind hd (Ev1.posD ?_ (Ev1.pos rfl (Ev1.pos (by simp) (Ev1.now _)))))),?_⟩
 ·simp only [MN];rw [h.b.ws.2];simp only [MC,ML];omega
 ·rcases hc with ⟨ho,hG,hca⟩ | ⟨ho,hG,hca⟩ | ⟨ho,hX,hca⟩
  ·exact .inl ⟨ho,⟨mk hG.b,hG.ej,hG.es,hG.de⟩,hca⟩
  ·exact .inr (.inl ⟨ho,⟨mk hG.b,hG.ej,hG.es,hG.de⟩,hca⟩)
  ·exact .inr (.inr ⟨ho,⟨mk hX.b,hX.dx,hX.o⟩,hca⟩)
end Go.Eng.Top
namespace Go.Eng.Top
open Go.RowKit Go.Eng Go.Eng.LVar Go.Eng.LCrc Go.Eng.LFrm
set_option maxRecDepth 100000
theorem Dh {s:ab} (h:Inv s) {q:Int} (hq:q ∈ jz s):0<=q/\q < 1073741824:=by
 obtain ⟨g,hg,e⟩:=Nb.1 hq;have:=(h.gr g hg).1;rw [<- e];unfold mayB at this;split at this
 ·cases this
 ·omega
theorem JG.arm {c:DC} {j d rho t:Nat} {bs:List Int} {rs:List (List Int)} (h:JG c j d rho t bs rs) {L':List Int} (hL:OkL L' d):JG ⟨c.F,c.R,L',c.S,c.jd,c.jt,c.jb,c.jr,c.jk,c.B,c.sf⟩ j d rho t bs rs :=
 ⟨h.dg.next rfl hL,h.jd,h.jt,h.jb,h.jr,h.jk,h.bsf,h.files,h.sum,h.rcs,h.tb⟩
structure AOj (a:aD):Prop where
 kind:0<=a.1/\a.1<=5
 n:0<=a.2.2.1/\a.2.2.1<=1000000
section
variable {A:ae->Prop} (hAR:∀ r,A r->mayB r=true/\I64 (rqL r))(hsm:∀ {s:ab} {said:List dK} {done:List aD},Rch A s said done->(encs (stL s)).length<=16000)
include hAR hsm
theorem Mr (W:WC) {w x j d rho T n:Nat} {s:ab} {said:List dK} {done:List aD} (h:WG W w x j d rho T n s said done)(hR:Rch A s said done)(a:aD)(ha:AOj a)(hA:a.1=0->A a.2.1)(keep:Int)(hT:T < 999990)(hn:n<=89000) :
  ∃ W' x' j' s' said' done',Ev1 (fun k=>Kj k w a keep W) (outW W')/\WG W' w x' j' d rho (T+1) (n+2) s' said' done'/\Rch A s' said' done'/\(a.1<=3->∀ u,Calm W.c d u->u+86<=rho->Calm W'.c d (u+86)/\(s',said')=actF (s,said) a):=by
 have hwr:(W.wr.getD w none).isSome=false:=by rw [h.b.wr.2];rfl
 have step:=fun k=>HL k (some w) a keep W.wd W.we W.ws W.wn W.wc W.wr W.ww W.wo W.c.F W.c.R W.c.L W.c.S W.ej W.es W.c.jd W.c.jt W.c.jb W.c.jr W.c.jk W.c.B W.c.sf said (by simp only [MN];exact h.b.ws.2.symm) _ rfl _ rfl
 have hsl:=h.b.nl.2;have hinv:=h.de.inv;have hsmall:=hsm hR;have evA:∀ r,A r->evR (0,r,0,false):=fun r hr=>.inl ⟨rfl,(hAR r hr).1,(hAR r hr).2,rfl⟩
 by_cases k0:a.1=0
 ·have hr:=hA k0;obtain ⟨o,ws,wn,ww,wo,es,c,hk,hc⟩:=LJ W h a.2.1 (evA _ hr) hsmall (by omega) (by omega);rcases hc with ⟨ho,hG,hca⟩ | ⟨ho,hG,hca⟩ | ⟨ho,hX,hca⟩
  ·subst ho;refine ⟨_,x,j,_,_,_,Ev1.step step (Ev1.pos rfl (Ev1.neg hwr (Ev1.posD k0 (Ev1.bind hk (Ev1.pos rfl (Ev1.bind (ir hG) (Ev1.neg rfl (Ev1.now (outW ⟨W.wd,W.we,ws,wn,W.wc,W.wr,ww,wo,W.ej,es,c⟩))))))))),hG.mono (MH _) (by omega),Rch.ask _ hr hR,fun _ u h1 h2=>⟨hca u h1 h2,?_⟩⟩;unfold actF askS;rw [MK k0]
  ·subst ho;exact ⟨_,x,j,_,_,_,Ev1.step step (Ev1.pos rfl (Ev1.neg hwr (Ev1.posD k0 (Ev1.bind hk (Ev1.pos rfl (Ev1.bind (ir hG) (Ev1.neg rfl (Ev1.now (outW ⟨W.wd,W.we,ws,wn,W.wc,W.wr,ww,wo,W.ej,es,c⟩))))))))),hG.mono (MH _) (by omega),Rch.lost _ _ hr (.inl rfl) hR,fun _ u h1 h2=>by have:=hca u h1;omega⟩
  ·subst ho;obtain ⟨we2,wn2,wc2,wr2,wo2,ej2,es2,F,L,S,jd,jt,jb,jr,jk,B,sf,x',j',s2,done2,hag,hG2,hcs⟩:=rH _ hX keep (by omega) (by omega);refine ⟨_,x',j',s2,_,done2,Ev1.step step (Ev1.pos rfl (Ev1.neg hwr (Ev1.posD k0 (Ev1.bind hk (Ev1.pos rfl (Ev1.bind (vS hX) (Ev1.pos rfl (Ev1.bind hag (Ev1.now (outW ⟨W.wd,we2,ws,wn2,wc2,wr2,ww,wo2,ej2,es2,⟨F,c.R,L,S,jd,jt,jb,jr,jk,B,sf⟩⟩)))))))))),hG2.mono (MH _) (by omega),?_,fun _ u h1 h2=>by have:=hca u h1;omega⟩;rcases hcs with ⟨e1,e2⟩ | ⟨e,e0,e1,e2⟩
   ·rw [e1,e2];exact Rch.lost _ _ hr (.inr rfl) hR
   ·cases e0;rw [e1,e2];exact Rch.kept _ _ hr rfl hR
 by_cases k1:a.1=1
 ·by_cases hs:0 < (said.length:Int)
  ·have hm:=yx ha.n.1 hs;have hmem:=Bn said zS hm;have hr:=hR.said _ hmem;obtain ⟨o,ws,wn,ww,wo,es,c,hk,hc⟩:=LJ W h (said.getD (Int.toNat (Int.tmod a.2.2.1 (said.length:Int))) zS).1 (evA _ hr) hsmall (by omega) (by omega);have hz:(!decide ((said.length:Int)=0))=true:=by rw [MD (show ¬ ((said.length:Int)=0) by omega)];rfl
   rcases hc with ⟨ho,hG,hca⟩ | ⟨ho,hG,hca⟩ | ⟨ho,hX,hca⟩
   ·subst ho;refine ⟨_,x,j,_,_,_,Ev1.step step (Ev1.pos rfl (Ev1.neg hwr (Ev1.negD k0 (Ev1.posD k1 (Ev1.pos rfl (Ev1.posD hs (Ev1.pos rfl (Ev1.pos rfl (Ev1.pos hz (Ev1.pos (ak hm.1 hm.2) (Ev1.bind hk (Ev1.pos rfl (Ev1.bind (ir hG) (Ev1.neg rfl (Ev1.now (outW ⟨W.wd,W.we,ws,wn,W.wc,W.wr,ww,wo,W.ej,es,c⟩)))))))))))))))),hG.mono (MH _) (by omega),Rch.ask _ hr hR,fun _ u h1 h2=>⟨hca u h1 h2,?_⟩⟩;unfold actF askS;rw [MG k0,MK k1,MK hs]
   ·subst ho;exact ⟨_,x,j,_,_,_,Ev1.step step (Ev1.pos rfl (Ev1.neg hwr (Ev1.negD k0 (Ev1.posD k1 (Ev1.pos rfl (Ev1.posD hs (Ev1.pos rfl (Ev1.pos rfl (Ev1.pos hz (Ev1.pos (ak hm.1 hm.2) (Ev1.bind hk (Ev1.pos rfl (Ev1.bind (ir hG) (Ev1.neg rfl (Ev1.now (outW ⟨W.wd,W.we,ws,wn,W.wc,W.wr,ww,wo,W.ej,es,c⟩)))))))))))))))),hG.mono (MH _) (by omega),Rch.lost _ _ hr (.inl rfl) hR,fun _ u h1 h2=>by have:=hca u h1;omega⟩
   ·subst ho;obtain ⟨we2,wn2,wc2,wr2,wo2,ej2,es2,F,L,S,jd,jt,jb,jr,jk,B,sf,x',j',s2,done2,hag,hG2,hcs⟩:=rH _ hX keep (by omega) (by omega);refine ⟨_,x',j',s2,_,done2,Ev1.step step (Ev1.pos rfl (Ev1.neg hwr (Ev1.negD k0 (Ev1.posD k1 (Ev1.pos rfl (Ev1.posD hs (Ev1.pos rfl (Ev1.pos rfl (Ev1.pos hz (Ev1.pos (ak hm.1 hm.2) (Ev1.bind hk (Ev1.pos rfl (Ev1.bind (vS hX) (Ev1.pos rfl (Ev1.bind hag (Ev1.now (outW ⟨W.wd,we2,ws,wn2,wc2,wr2,ww,wo2,ej2,es2,⟨F,c.R,L,S,jd,jt,jb,jr,jk,B,sf⟩⟩))))))))))))))))),hG2.mono (MH _) (by omega),?_,fun _ u h1 h2=>by have:=hca u h1;omega⟩;rcases hcs with ⟨e1,e2⟩ | ⟨e,e0,e1,e2⟩
    ·rw [e1,e2];exact Rch.lost _ _ hr (.inr rfl) hR
    ·cases e0;rw [e1,e2];exact Rch.kept _ _ hr rfl hR
  ·refine ⟨W,x,j,s,said,done,Ev1.step step (Ev1.pos rfl (Ev1.neg hwr (Ev1.negD k0 (Ev1.posD k1 (Ev1.pos rfl (Ev1.negD hs (Ev1.pos rfl (Ev1.bind (ir h) (Ev1.neg rfl (Ev1.now (outW W))))))))))),h.mono (by omega) (by omega),hR,fun _ u h1 h2=>⟨⟨h1.1,by have:=h1.2;omega⟩,?_⟩⟩;unfold actF;rw [MG k0,MK k1,MG hs]
 by_cases k2:a.1=2
 ·have hst:Ev1 (fun k=>CF k eL bK [inj (.ref 30) (W.we.getD w none),Cn W.es]) (s,W.es):=by rw [h.b.we.2];exact eev h.es.2
  have hwt:=Gx hinv.gl;by_cases hs:0 < ((jz s).length:Int)
  ·have hm:=yx ha.n.1 hs;have hmem:=Bn (jz s) 0 hm;have hkey:=Dh hinv hmem;have hz:(!decide (((jz s).length:Int)=0))=true:=by rw [MD (show ¬ (((jz s).length:Int)=0) by omega)];rfl
   have heR:evR (1,zR,(jz s).getD (Int.toNat (Int.tmod a.2.2.1 ((jz s).length:Int))) 0,a.2.2.2):=.inr (.inl ⟨rfl,rfl,by dsimp only;omega,by dsimp only;omega⟩);obtain ⟨o,wn,ww,wo,es,c,hk,hc⟩:=FZ W h _ heR hsmall (by omega) (by omega);rcases hc with ⟨ho,hG,hca⟩ | ⟨ho,hG,hca⟩ | ⟨ho,hX,hca⟩
   ·refine ⟨_,x,j,_,_,_,Ev1.step step (Ev1.pos rfl (Ev1.neg hwr (Ev1.negD k0 (Ev1.negD k1 (Ev1.posD k2 (Ev1.pos rfl (Ev1.bind hst (Ev1.bind hwt (Ev1.posD hs (Ev1.pos hz (Ev1.pos (ak hm.1 hm.2) (Ev1.bind hk (Ev1.pos rfl (Ev1.bind (ir hG) (Ev1.neg rfl (Ev1.now (outW ⟨W.wd,W.we,W.ws,wn,W.wc,W.wr,ww,wo,W.ej,es,c⟩))))))))))))))))),hG.mono (MH _) (by omega),Rch.ev _ heR (by simp) hR,fun _ u h1 h2=>⟨hca u h1 h2,?_⟩⟩;unfold actF;rw [MG k0,MG k1,MK k2,MK hs]
   ·exact ⟨_,x,j,_,_,_,Ev1.step step (Ev1.pos rfl (Ev1.neg hwr (Ev1.negD k0 (Ev1.negD k1 (Ev1.posD k2 (Ev1.pos rfl (Ev1.bind hst (Ev1.bind hwt (Ev1.posD hs (Ev1.pos hz (Ev1.pos (ak hm.1 hm.2) (Ev1.bind hk (Ev1.pos rfl (Ev1.bind (ir hG) (Ev1.neg rfl (Ev1.now (outW ⟨W.wd,W.we,W.ws,wn,W.wc,W.wr,ww,wo,W.ej,es,c⟩))))))))))))))))),hG.mono (MH _) (by omega),hR,fun _ u h1 h2=>by have:=hca u h1;omega⟩
   ·obtain ⟨we2,wn2,wc2,wr2,wo2,ej2,es2,F,L,S,jd,jt,jb,jr,jk,B,sf,x',j',s2,done2,hag,hG2,hcs⟩:=rH _ hX keep (by omega) (by omega);refine ⟨_,x',j',s2,_,done2,Ev1.step step (Ev1.pos rfl (Ev1.neg hwr (Ev1.negD k0 (Ev1.negD k1 (Ev1.posD k2 (Ev1.pos rfl (Ev1.bind hst (Ev1.bind hwt (Ev1.posD hs (Ev1.pos hz (Ev1.pos (ak hm.1 hm.2) (Ev1.bind hk (Ev1.pos rfl (Ev1.bind (vS hX) (Ev1.pos rfl (Ev1.bind hag (Ev1.now (outW ⟨W.wd,we2,W.ws,wn2,wc2,wr2,ww,wo2,ej2,es2,⟨F,c.R,L,S,jd,jt,jb,jr,jk,B,sf⟩⟩)))))))))))))))))),hG2.mono (MH _) (by omega),?_,fun _ u h1 h2=>by have:=hca u h1;omega⟩;rcases hcs with ⟨e1,e2⟩ | ⟨e,e0,e1,e2⟩
    ·rw [e1,e2];exact hR
    ·cases e0;rw [e1,e2];exact Rch.ev _ heR (by simp) hR
  ·refine ⟨W,x,j,s,said,done,Ev1.step step (Ev1.pos rfl (Ev1.neg hwr (Ev1.negD k0 (Ev1.negD k1 (Ev1.posD k2 (Ev1.pos rfl (Ev1.bind hst (Ev1.bind hwt (Ev1.negD hs (Ev1.pos rfl (Ev1.bind (ir h) (Ev1.neg rfl (Ev1.now (outW W)))))))))))))),h.mono (by omega) (by omega),hR,fun _ u h1 h2=>⟨⟨h1.1,by have:=h1.2;omega⟩,?_⟩⟩;unfold actF;rw [MG k0,MG k1,MK k2,MG hs]
 by_cases k3:a.1=3
 ·have heR:evR (2,zR,0,false):=.inr (.inr rfl);obtain ⟨o,wn,ww,wo,es,c,hk,hc⟩:=FZ W h (2,zR,0,false) heR hsmall (by omega) (by omega);rcases hc with ⟨ho,hG,hca⟩ | ⟨ho,hG,hca⟩ | ⟨ho,hX,hca⟩
  ·refine ⟨_,x,j,_,_,_,Ev1.step step (Ev1.pos rfl (Ev1.neg hwr (Ev1.negD k0 (Ev1.negD k1 (Ev1.negD k2 (Ev1.posD k3 (Ev1.bind hk (Ev1.pos rfl (Ev1.bind (ir hG) (Ev1.neg rfl (Ev1.now (outW ⟨W.wd,W.we,W.ws,wn,W.wc,W.wr,ww,wo,W.ej,es,c⟩)))))))))))),hG.mono (MH _) (by omega),Rch.ev _ heR (by simp) hR,fun _ u h1 h2=>⟨hca u h1 h2,?_⟩⟩;unfold actF;rw [MG k0,MG k1,MG k2,MK k3]
  ·exact ⟨_,x,j,_,_,_,Ev1.step step (Ev1.pos rfl (Ev1.neg hwr (Ev1.negD k0 (Ev1.negD k1 (Ev1.negD k2 (Ev1.posD k3 (Ev1.bind hk (Ev1.pos rfl (Ev1.bind (ir hG) (Ev1.neg rfl (Ev1.now (outW ⟨W.wd,W.we,W.ws,wn,W.wc,W.wr,ww,wo,W.ej,es,c⟩)))))))))))),hG.mono (MH _) (by omega),hR,fun _ u h1 h2=>by have:=hca u h1;omega⟩
  ·obtain ⟨we2,wn2,wc2,wr2,wo2,ej2,es2,F,L,S,jd,jt,jb,jr,jk,B,sf,x',j',s2,done2,hag,hG2,hcs⟩:=rH _ hX keep (by omega) (by omega);refine ⟨_,x',j',s2,_,done2,Ev1.step step (Ev1.pos rfl (Ev1.neg hwr (Ev1.negD k0 (Ev1.negD k1 (Ev1.negD k2 (Ev1.posD k3 (Ev1.bind hk (Ev1.pos rfl (Ev1.bind (vS hX) (Ev1.pos rfl (Ev1.bind hag (Ev1.now (outW ⟨W.wd,we2,W.ws,wn2,wc2,wr2,ww,wo2,ej2,es2,⟨F,c.R,L,S,jd,jt,jb,jr,jk,B,sf⟩⟩))))))))))))),hG2.mono (MH _) (by omega),?_,fun _ u h1 h2=>by have:=hca u h1;omega⟩;rcases hcs with ⟨e1,e2⟩ | ⟨e,e0,e1,e2⟩
   ·rw [e1,e2];exact hR
   ·cases e0;rw [e1,e2];exact Rch.ev _ heR (by simp) hR
 by_cases k4:a.1=4
 ·obtain ⟨t,bs,rs,sb,evs,hJ,hS,htT⟩:=h.de;have hke:∀ {e:Option Int} {c':DC},Ev1 (fun k=>yj k x W.ej W.es W.c) (B1 e c' W.ej W.es)->Ev1 (fun k=>CF k xp j6 [inj (.ref 30) (W.we.getD w none),Ci W.c.F,Cj W.c.R,Ck W.c.L,Cl W.c.S,Cm W.ej,Cn W.es,Co W.c.jd,Cp W.c.jt,Cq W.c.jb,Cr W.c.jr,Cs W.c.jk,Ct W.c.B,Cu W.c.sf]) (B1 e c' W.ej W.es):=fun {e c'} he=>by rw [h.b.we.2];exact he
  have lens:∀ c',Lens W.c c'->Al ⟨W.wd,W.we,W.ws,W.wn,W.wc,W.wr,W.ww,W.wo,W.ej,W.es,c'⟩:=fun c' hL=>h.b.al.lens rfl rfl rfl rfl rfl rfl rfl rfl rfl hL
  rcases F0 W.c hJ hS h.ej h.es.2 (by omega) with ⟨e,he,hk⟩ | ⟨c',hk,hJ',hL⟩ | ⟨c',hk,hD,hL⟩
  ·exact ⟨W,x,j,s,said,done,Ev1.step step (Ev1.pos rfl (Ev1.neg hwr (Ev1.negD k0 (Ev1.negD k1 (Ev1.negD k2 (Ev1.negD k3 (Ev1.posD k4 (Ev1.pos rfl (Ev1.bind (hke hk) (Ev1.pos rfl (Ev1.bind (ir h) (Ev1.neg rfl (Ev1.now (outW W)))))))))))))),h.mono (by omega) (by omega),hR,fun h3=>by omega⟩
  ·have hG:WG ⟨W.wd,W.we,W.ws,W.wn,W.wc,W.wr,W.ww,W.wo,W.ej,W.es,c'⟩ w x j d rho (T+1) (n+2) s said done:=⟨⟨h.b.wd,h.b.we,h.b.ws,h.b.wn,⟨by have:=h.b.nl.1;omega,by omega⟩,h.b.wr,h.b.ww,h.b.wo,lens c' hL⟩,h.ej,h.es,⟨t+1,_,[],s,[],hJ',yE hinv _ (by omega),by omega⟩⟩
   exact ⟨_,x,j,s,said,done,Ev1.step step (Ev1.pos rfl (Ev1.neg hwr (Ev1.negD k0 (Ev1.negD k1 (Ev1.negD k2 (Ev1.negD k3 (Ev1.posD k4 (Ev1.pos rfl (Ev1.bind (hke hk) (Ev1.pos rfl (Ev1.bind (ir hG) (Ev1.neg rfl (Ev1.now (outW ⟨W.wd,W.we,W.ws,W.wn,W.wc,W.wr,W.ww,W.wo,W.ej,W.es,c'⟩)))))))))))))),hG,hR,fun h3=>by omega⟩
  ·have hX:WX ⟨W.wd,W.we,W.ws,W.wn,W.wc,W.wr,W.ww,W.wo,W.ej,W.es,c'⟩ w x d rho (T+1) n s s said done []:=⟨⟨h.b.wd,h.b.we,h.b.ws,h.b.wn,h.b.nl,h.b.wr,h.b.ww,h.b.wo,lens c' hL⟩,(hD s).mono (by omega),.inl ⟨rfl,rfl⟩⟩
   obtain ⟨we2,wn2,wc2,wr2,wo2,ej2,es2,F,L,S,jd,jt,jb,jr,jk,B,sf,x',j',s2,done2,hag,hG2,hcs⟩:=rH _ hX keep (by omega) (by omega);refine ⟨_,x',j',s2,_,done2,Ev1.step step (Ev1.pos rfl (Ev1.neg hwr (Ev1.negD k0 (Ev1.negD k1 (Ev1.negD k2 (Ev1.negD k3 (Ev1.posD k4 (Ev1.pos rfl (Ev1.bind (hke hk) (Ev1.pos rfl (Ev1.bind (vS hX) (Ev1.pos rfl (Ev1.bind hag (Ev1.now (outW ⟨W.wd,we2,W.ws,wn2,wc2,wr2,W.ww,wo2,ej2,es2,⟨F,c'.R,L,S,jd,jt,jb,jr,jk,B,sf⟩⟩))))))))))))))),hG2.mono (MH _) (by omega),?_,fun h3=>by omega⟩;rcases hcs with ⟨e1,e2⟩ | ⟨e,e0,e1,e2⟩
   ·rw [e1,e2];exact hR
   ·cases e0
 have k5:a.1=5:=by have:=ha.kind;omega
 obtain ⟨t,bs,rs,sb,evs,hJ,hS,htT⟩:=h.de;have hmax:maxI 0 a.2.2.1=a.2.2.1:=by
  unfold maxI;have:=ha.n.1;by_cases hq:(0:Int) < a.2.2.1
  ·rw [MJ hq];rfl
  ·rw [MD hq,MQ];omega
 have harm:Ev1 (fun k=>CF k HE uD [inj (.ref 29) (W.wd.getD w none),inj (.int .i64) a.2.2.1,Ck W.c.L]) (W.c.L.set d a.2.2.1):=by
  rw [h.b.wd];refine Ev1.step (fun k=>HU k (some d) a.2.2.1 W.c.L) (Ev1.pos rfl (Ev1.const ?_));show some (W.c.L.set d (maxI 0 a.2.2.1))=_;rw [hmax]
 have hOk:OkL (W.c.L.set d a.2.2.1) d:=⟨by rw [MB];exact hJ.dg.L.h,by rw [ah _ _ _ _ hJ.dg.L.h];have:=ha.n.1;omega,by rw [ah _ _ _ _ hJ.dg.L.h];exact ha.n.2⟩
 have hG:WG ⟨W.wd,W.we,W.ws,W.wn,W.wc,W.wr,W.ww,W.wo,W.ej,W.es,⟨W.c.F,W.c.R,W.c.L.set d a.2.2.1,W.c.S,W.c.jd,W.c.jt,W.c.jb,W.c.jr,W.c.jk,W.c.B,W.c.sf⟩⟩ w x j d rho (T+1) (n+2) s said done :=
  ⟨⟨h.b.wd,h.b.we,h.b.ws,h.b.wn,⟨by have:=h.b.nl.1;omega,by omega⟩,h.b.wr,h.b.ww,h.b.wo,h.b.al.lens rfl rfl rfl rfl rfl rfl rfl rfl rfl ⟨rfl,rfl,MB,rfl,rfl,rfl,rfl,rfl,rfl⟩⟩,h.ej,h.es,⟨t,bs,rs,sb,evs,hJ.arm hOk,hS,by omega⟩⟩
 have hst:Ev1 (fun k=>CF k km eS [inj (.ref 29) (W.wd.getD w none),Cl W.c.S]) (false,W.c.S):=ir h;exact ⟨_,x,j,s,said,done,Ev1.step step (Ev1.pos rfl (Ev1.neg hwr (Ev1.negD k0 (Ev1.negD k1 (Ev1.negD k2 (Ev1.negD k3 (Ev1.negD k4 (Ev1.posD k5 (Ev1.pos rfl (Ev1.bind harm (Ev1.pos rfl (Ev1.bind hst (Ev1.neg rfl (Ev1.now (outW ⟨W.wd,W.we,W.ws,W.wn,W.wc,W.wr,W.ww,W.wo,W.ej,W.es,⟨W.c.F,W.c.R,W.c.L.set d a.2.2.1,W.c.S,W.c.jd,W.c.jt,W.c.jb,W.c.jr,W.c.jk,W.c.B,W.c.sf⟩⟩))))))))))))))),hG,hR,fun h3=>by omega⟩
theorem Iv (b:List Int)(ac:List aD)(hl:ac.length<=1000)(hb:6 * ac.length<=b.length)(hok:∀ a ∈ ac,AOj a/\(a.1=0->A a.2.1))(w d rho:Nat):∀ (dd i:Nat)(W:WC)(x j T n:Nat)(s:ab)(said:List dK)(done:List aD),i+dd=ac.length->WG W w x j d rho T n s said done->Rch A s said done->T<=i->n<=2 * i ->
  ∃ W' x' j' T' n' s' said' done',Ev2 (fun k m=>Mg k m b w ac (i:Int) W) (outO w W')/\WG W' w x' j' d rho T' n' s' said' done'/\Rch A s' said' done'/\T'<=1000/\n'<=2000/\((∀ a ∈ ac,a.1<=3)->∀ u,Calm W.c d u->u+86 * dd<=rho->(s',said')=(ac.drop i).foldl actF (s,said))
 | 0,i,W,x,j,T,n,s,said,done,hi,h,hR,hT,hn=>by
  refine ⟨W,x,j,T,n,s,said,done,?_,h,hR,by omega,by omega,fun _ _ _ _=>by rw [No (by omega)];rfl⟩;exact Ev2.step (fun k m=>IG k m b (some w) ac (ac.length:Int) (i:Int) W.wd W.we W.ws W.wn W.wc W.wr W.ww W.wo W.c.F W.c.R W.c.L W.c.S W.ej W.es W.c.jd W.c.jt W.c.jb W.c.jr W.c.jk W.c.B W.c.sf _ rfl) (Ev2.negD (by omega) (Ev2.now _))
 | dd+1,i,W,x,j,T,n,s,said,done,hi,h,hR,hT,hn=>by
  have hlt:i < ac.length:=by omega
  have he:ac.getD (Int.toNat (i:Int)) ((0:Int),((0:Int),(0:Int),(0:Int),(0:Int),(0:Int),(0:Int),(0:Int)),(0:Int),false)=ac[i]:=by rw [MV];exact bj ac i _ hlt
  have hk:((6 * i+5:Nat):Int)=w64 (w64 (6 * (i:Int))+5):=by rw [aO (x:=6 * (i:Int)) (by omega),aO (by omega)];omega
  have st:=fun k m=>IG k m b (some w) ac (ac.length:Int) (i:Int) W.wd W.we W.ws W.wn W.wc W.wr W.ww W.wo W.c.F W.c.R W.c.L W.c.S W.ej W.es W.c.jd W.c.jt W.c.jb W.c.jr W.c.jk W.c.B W.c.sf ((6 * i+5:Nat):Int) hk
  obtain ⟨W1,x1,j1,s1,said1,done1,g1,g2,g3,g4⟩:=Mr hAR hsm W h hR ac[i] (hok _ (Np hlt)).1 (hok _ (Np hlt)).2 (w64 (w64 (b.getD (Int.toNat ((6 * i+5:Nat):Int)) 0) * 7)) (by omega) (by omega);obtain ⟨W',x',j',T',n',s',said',done',h1,h2,h3,h4,h5,h6⟩:=Iv b ac hl hb hok w d rho dd (i+1) W1 x1 j1 (T+1) (n+2) s1 said1 done1 (by omega) g2 g3 (by omega) (by omega);refine ⟨W',x',j',T',n',s',said',done',Ev2.step st (Ev2.posD (by omega) (Ev2.pos (ak (by omega) (by omega)) (Ev2.pos (ak (by omega) (by omega)) ?_))),h2,h3,h4,h5,fun hall u hu hru=>?_⟩
  ·rw [he];refine Ev2.bind g1 ?_;rw [wnat (by omega)];exact h1
  ·obtain ⟨q1,q2⟩:=g4 (hall _ (Np hlt)) u hu (by omega);rw [h6 hall (u+86) q1 (by omega),q2,Nd hlt,Oy]
end
noncomputable abbrev Kg (k:Nat)(rho:Int)(W:WC):=CF k g_wO n_wO [inj I rho,Ca W.wd,Cb W.we,Cc W.ws,Cd W.wn,Ce W.wc,Cf W.wr,Cg W.ww,Ch W.wo,Ci W.c.F,Cj W.c.R,Ck W.c.L,Cl W.c.S,Cm W.ej,Cn W.es,Co W.c.jd,Cp W.c.jt,Cq W.c.jb,Cr W.c.jr,Cs W.c.jk,Ct W.c.B,Cu W.c.sf]
theorem K2 (W:WC)(h:Al W)(hbf:W.c.sf.length=W.c.B.length)(rho:Nat)(hr:rho<=262144) :
  ∃ W',Ev1 (fun k=>Kg k (rho:Int) W) (outO W.wd.length W')/\WG W' W.wd.length W.ej.length W.c.jd.length W.c.F.length rho 0 0 s0 [] []/\Calm W'.c W.c.F.length 0:=by
 have hd:=F1 (F:=W.c.F) (R:=W.c.R) (L:=W.c.L) (S:=W.c.S) (rho:Int);have hroom:maxI 0 (minI (rho:Int) 262144)=(rho:Int):=by
  unfold maxI minI;rw [MD (show ¬ ((262144:Int) < (rho:Int)) by omega),MQ];by_cases hq:(0:Int) < (rho:Int)
  ·rw [MJ hq];rfl
  ·rw [MD hq,MQ];omega
 rw [hroom] at hd;have eF:(W.c.F++[[]]).getD W.c.F.length []=([]:MF):=bh _ _ _;have hRS:RS ⟨W.c.F++[[]],W.c.R++[(rho:Int)],W.c.L++[-1],W.c.S++[false],W.c.jd,W.c.jt,W.c.jb,W.c.jr,W.c.jk,W.c.B,W.c.sf⟩ W.c.F.length rho 0 [] [] []:=by
  refine ⟨by simp,aP _ _ _ h.R.symm,hr,by simp [h.L],aP _ _ _ h.L.symm,by simp [h.S],aP _ _ _ h.S.symm,hbf,?_,?_,?_,?_,⟨none,none,?_,by simp,fun g hg=>(by cases hg),fun h0=>(h0 rfl).elim,fun g hg=>(by cases hg),fun _=>⟨rfl,rfl⟩,fun _ _ hg=>(by cases hg)⟩,fun x hx=>(by cases hx),oZ,by omega⟩
  ·dsimp only;rw [eF];rfl
  ·dsimp only;rw [eF];exact Pb _
  ·dsimp only;rw [eF];intro e he;cases he
  ·dsimp only;rw [eF];exact Pb _
  ·dsimp only;rw [eF];rfl
 have hsrc:Src 0 [] [] s0 s0 []:=⟨fun _=>rfl,fun h0=>(h0 rfl).elim,inv0,fun e he=>(by cases he),rfl,rfl⟩
 obtain ⟨c',ho,hJ,hL⟩:=FY hRS h.jt h.jb h.jr h.jk (by omega) W.ej W.es h.es hsrc;have e1:(W.wd++[some W.c.F.length]).getD W.wd.length none=some W.c.F.length:=bh _ _ _;obtain ⟨F,R,L,S,jd,jt,jb,jr,jk,B,sf⟩:=c';have hR:R=W.c.R++[(rho:Int)]:=hL.R;subst hR;have e0:jd=W.c.jd++[some W.c.F.length]:=hL.jd;have g1:jt.length=W.c.jt.length+1:=hL.jt;have g2:jb.length=W.c.jb.length+1:=hL.jb;have g3:jr.length=W.c.jr.length+1:=hL.jr;have g4:jk.length=W.c.jk.length+1:=hL.jk;have g5:F.length=(W.c.F++[[]]).length:=hL.F;have g6:L=W.c.L++[-1]:=hL.L;have g7:S=W.c.S++[false]:=hL.S;refine ⟨⟨W.wd++[some W.c.F.length],W.we++[some W.ej.length],W.ws++[[]],W.wn++[[]],W.wc++[0],W.wr++[none],W.ww++[zT],W.wo++[[]],W.ej++[some W.c.jd.length],W.es++[s0],⟨F,W.c.R++[(rho:Int)],L,S,jd,jt,jb,jr,jk,B,sf⟩⟩,?_,
  ⟨⟨e1,⟨by simp [h.we],aP _ _ _ h.we.symm⟩,⟨by simp [h.ws],aP _ _ _ h.ws.symm⟩,⟨by simp [h.wn],aP _ _ _ h.wn.symm⟩,⟨by simp,by simp⟩,⟨by simp [h.wr],aP _ _ _ h.wr.symm⟩,by simp [h.ww],⟨by simp [h.wo],aP _ _ _ h.wo.symm⟩,?_⟩,bh _ _ _,⟨by simp [h.es],aP _ _ _ h.es.symm⟩,⟨0,[],[],s0,[],hJ,hsrc,MH _⟩⟩,?_⟩
 ·refine Ev1.step (fun k=>f_wO k (rho:Int) W.wd W.we W.ws W.wn W.wc W.wr W.ww W.wo W.c.F W.c.R W.c.L W.c.S W.ej W.es W.c.jd W.c.jt W.c.jb W.c.jr W.c.jk W.c.B W.c.sf) (Ev1.bind hd ?_);dsimp only;rw [e1];refine Ev1.bind ho (Ev1.const ?_);dsimp only;rw [iR W.we _ _ h.we.symm,iR W.wr _ _ h.wr.symm]
 ·constructor
  all_goals dsimp only
  ·simp [h.we]
  ·simp [h.ws]
  ·simp [h.wn]
  ·simp [h.wr]
  ·simp [h.ww]
  ·simp [h.wo]
  ·simp [h.es]
  ·rw [e0,g1,h.jt];simp
  ·rw [e0,g2,h.jb];simp
  ·rw [e0,g3,h.jr];simp
  ·rw [e0,g4,h.jk];simp
  ·rw [g5];simp [h.R]
  ·rw [g5,g6];simp [h.L]
  ·rw [g5,g7];simp [h.S]
 ·refine ⟨?_,?_⟩
  ·dsimp only;rw [g6];exact aP _ _ _ h.L.symm
  ·have:=hL.fd eF;dsimp only at this ⊢;rw [this];exact MH _
end Go.Eng.Top
namespace Go.Eng.Top
open Go.RowKit Go.Eng Go.Eng.LVar Go.Eng.LChart Go.Eng.LEnt
set_option maxRecDepth 100000
def KX (ks ks':List aM)(r:ae):Prop :=
 ks'=ks\/(∃ o b,fnd r.1 ks=none/\ks'=ks++[(r,o,b)])\/∃ j o,j < ks.length/\(ks.getD j d0).2.2=false/\ks'=ks.set j ((ks.getD j d0).1,o,true)
def Tld (ks:List aM)(x:dK):Prop:=x.2.1=7\/x.2.1=8\/x.2.1=10\/x.2.1=12\/askF ks x.1=(x.2,true)
theorem Gi {ks:List aM} {r:ae} (hf:fnd r.1 ks=none)(o:ai):askF (ks++[(r,o,true)]) r=(o,true):=by
 unfold askF;rw [nJ,hf];simp only [Oa];rw [qM];simp
theorem Ir {s:ab} (h:Inv s)(r:ae):KX s.2.2.2.1 (subF s r).1.2.2.2.1 r/\(mayB r=true->Tld (subF s r).1.2.2.2.1 (r,(subF s r).2)):=by
 unfold subF;by_cases hm:mayB r=false
 ·rw [MK hm];exact ⟨.inl rfl,fun h=>by rw [hm] at h;cases h⟩
 rw [MG hm];by_cases hk:(askF s.2.2.2.1 r).2=true
 ·rw [MK hk];exact ⟨.inl rfl,fun _=>.inr (.inr (.inr (.inr (NX rfl hk))))⟩
 rw [MG hk];have hf:fnd r.1 s.2.2.2.1=none:=by
  rw [Aa] at hk;cases hf:fnd r.1 s.2.2.2.1 with
  | none=>rfl
  | some i=>rw [hf] at hk;simp at hk
 by_cases hl:long r/\16<=(s.2.2.1.length:Int)
 ·rw [MK hl];exact ⟨.inl rfl,fun _=>.inl rfl⟩
 rw [MG hl,AJ hf];by_cases h256:256<=s.2.2.2.1.length
 ·rw [MK h256];exact ⟨.inl rfl,fun _=>.inl rfl⟩
 rw [MG h256];dsimp only;by_cases hlo:long r
 ·rw [MK hlo];cases hc:(resF s r).2 with
  | some c =>
   dsimp only;rw [lW hf];exact ⟨.inr (.inl ⟨_,_,hf,rfl⟩),fun _=>.inr (.inr (.inr (.inr (Gi hf _))))⟩
  | none=>exact ⟨.inr (.inl ⟨_,_,hf,rfl⟩),fun _=>.inr (.inr (.inl rfl))⟩
 ·rw [MG hlo,lW hf];exact ⟨.inr (.inl ⟨_,_,hf,rfl⟩),fun _=>.inr (.inr (.inr (.inr (Gi hf _))))⟩
theorem IM {s t:ab} (h:Inv s)(ht:Op s t) {i:Nat} (hi:i < s.2.2.1.length)(o:ai)(r:ae):KX s.2.2.2.1 (endF t i o).1.2.2.2.1 r:=by
 unfold endF;dsimp only;have e1:t.2.2.1=s.2.2.1:=by rw [ht.rest]
 have e2:t.2.2.2.1=s.2.2.2.1:=by rw [ht.rest]
 rw [e1,e2,bj s.2.2.1 i zG hi];obtain ⟨j,f1,f2⟩:=h.gk _ (Np hi);obtain ⟨hj,_⟩:=hZ f1;rw [yz f1 f2];exact .inr (.inr ⟨j,o,hj,f2,rfl⟩)
theorem Mo {s:ab} (h:Inv s)(e:aD):KX s.2.2.2.1 (doF s e).1.2.2.2.1 e.2.1:=by
 unfold doF;split
 ·exact (Ir h e.2.1).1
 split
 ·unfold tM;cases hf:fndG e.2.2.1 s.2.2.1 with
  | none=>exact .inl rfl
  | some i =>
   have hi:=qU hf;dsimp only;split
   ·exact IM h (tJ h.op _).1 hi _ _
   split
   ·have hs:=pD h.op (s.2.2.1.getD i zG).1;cases hc:(oK s (s.2.2.1.getD i zG).1).2 with
    | none=>exact IM h hs.1 hi _ _
    | some c=>exact .inl rfl
   ·exact .inl rfl
 split
 ·refine .inl ?_;unfold vQ;split
  ·rfl
  ·have h0:Op (s.1,s.2.1,s.2.2.1,s.2.2.2.1,w64 (s.2.2.2.2+1)) (s.1,s.2.1,s.2.2.1,s.2.2.2.1,w64 (s.2.2.2.2+1)):=⟨rfl,h.op.rt,h.op.pl,h.op.ps,MH _⟩
   have h1:=oX (rk s.2.1 (w64 (s.2.2.2.2+1))) _ h0;rw [h1.rest]
 ·exact .inl rfl
theorem KX.reqs {ks ks':List aM} {r:ae} (h:KX ks ks' r):ks'.map (·.1)=ks.map (·.1)\/(fnd r.1 ks=none/\ks'.map (·.1)=ks.map (·.1)++[r]):=by
 rcases h with h | ⟨o,b,hf,h⟩ | ⟨j,o,hj,_,h⟩
 ·exact .inl (by rw [h])
 ·exact .inr ⟨hf,by rw [h,Oo];rfl⟩
 ·refine .inl ?_;rw [h,Qj,bj _ _ _ hj];dsimp only;rw [show (ks[j]).1=(ks.map (·.1))[j]'(by simpa using hj) by simp,OE]
theorem KX.ask {ks ks':List aM} {r:ae} (h:KX ks ks' r) {q:ae} {o:ai} (ha:askF ks q=(o,true))(ho:o.1 ≠ 10):askF ks' q=(o,true):=by
 rcases h with h | ⟨o',b,hf,h⟩ | ⟨j,o',hj,ht,h⟩
 ·rw [h];exact ha
 ·rw [h];unfold askF at ha ⊢;rw [nJ];cases hq:fnd q.1 ks with
  | none=>rw [hq] at ha;cases ha
  | some i =>
   obtain ⟨hi,_⟩:=hZ hq;rw [hq] at ha;dsimp only at ha ⊢;rw [ch _ _ _ hi];exact ha
 ·have hk:bL ks'=bL ks:=by rw [h];exact sX _ _ _ hj (by rw [bj _ _ _ hj])
  have hfq:fnd q.1 ks'=fnd q.1 ks:=by unfold fnd;rw [hk]
  unfold askF at ha ⊢;rw [hfq];cases hq:fnd q.1 ks with
  | none=>rw [hq] at ha;cases ha
  | some i =>
   rw [hq] at ha;dsimp only at ha ⊢;rw [h];by_cases hij:j=i
   ·subst hij;rw [ah _ _ _ _ hj];rw [ht] at ha;split at ha
    ·simp only [Ng,NF,Nv] at ha;exact (ho (by rw [<- ha.1])).elim
    ·rename_i hne;rw [MG hne];exact ha
   ·rw [getD_set_ne _ _ _ hij];exact ha
theorem KX.told {ks ks':List aM} {r:ae} (h:KX ks ks' r) {x:dK} (hx:Tld ks x):Tld ks' x:=by
 by_cases h10:x.2.1=10
 ·exact .inr (.inr (.inl h10))
 rcases hx with hx | hx | hx | hx | hx
 ·exact .inl hx
 ·exact .inr (.inl hx)
 ·exact .inr (.inr (.inl hx))
 ·exact .inr (.inr (.inr (.inl hx)))
 ·exact .inr (.inr (.inr (.inr (h.ask hx h10))))
structure Rok (A:ae->Prop)(s:ab)(said:List dK)(done:List aD):Prop where
 inv:Inv s
 run:s=runE s0 done
 ev:∀ e ∈ done,evR e
 req:∀ k ∈ s.2.2.2.1,A k.1
 nod:(bL s.2.2.2.1).Nodup
 told:∀ x ∈ said,Tld s.2.2.2.1 x
theorem u7 {key:Int}:∀ {l:List Int},fndI key l=none->key ∉ l
 | [],_,h=>by cases h
 | x::l,h,hk=>by
  unfold fndI at h;by_cases hx:x=key
  ·simp [hx] at h
  ·simp only [hx] at h;rcases MO.1 hk with hk | hk
   ·exact hx hk.symm
   ·cases hl:fndI key l with
    | none=>exact u7 hl hk
    | some i=>rw [hl] at h;simp at h
theorem Rok.step {A:ae->Prop} {s:ab} {said:List dK} {done:List aD} (h:Rok A s said done) {e:aD} (he:evR e)(ha:e.1=0->A e.2.1):Rok A (doF s e).1 said (done++[e]):=by
 have hk:=Mo h.inv e;have hreq:(∀ k ∈ (doF s e).1.2.2.2.1,A k.1)/\(bL (doF s e).1.2.2.2.1).Nodup:=by
  have hkey:∀ l:List aM,bL l=(l.map (·.1)).map (·.1):=fun l=>by unfold bL;rw [List.map_map];rfl
  have hmem:∀ (l:List aM),(∀ q ∈ l.map (·.1),A q)->∀ k ∈ l,A k.1:=fun l h k hk=>h _ (Nb.2 ⟨k,hk,rfl⟩)
  have hold:∀ q ∈ s.2.2.2.1.map (·.1),A q:=fun q hq=>by obtain ⟨k,hk,rfl⟩:=Nb.1 hq;exact h.req k hk
  rcases hk.reqs with hr | ⟨hf,hr⟩
  ·exact ⟨hmem _ (by rw [hr];exact hold),by rw [hkey,hr,<- hkey];exact h.nod⟩
  ·by_cases h0:e.1=0
   ·refine ⟨hmem _ (by
     rw [hr];intro q hq;rcases MU.1 hq with hq | hq
     ·exact hold q hq
     ·rw [Na.1 hq];exact ha h0),?_⟩
    rw [hkey,hr,Oo,<- hkey,OT];refine ⟨h.nod,by simp,fun a ha' b hb e'=>?_⟩;simp only [MW,N1,Na] at hb;rw [e',hb] at ha';exact u7 hf ha'
   ·-- no request came
    have hne:(doF s e).1.2.2.2.1.map (·.1)=s.2.2.2.1.map (·.1):=by
     rcases hk with hk | ⟨o,b,hf2,hk⟩ | ⟨j,o,hj,ht,hk⟩
     ·rw [hk]
     ·exfalso;have hlen:=congrArg List.length hk;rw [My] at hlen;have:(doF s e).1.2.2.2.1.length=s.2.2.2.1.length:=by
       have:=(x8 h.inv e (zJ he).2).2;unfold doF;rw [MG h0];split
       ·unfold tM;cases hf:fndG e.2.2.1 s.2.2.1 with
        | none=>rfl
        | some i =>
         have hi:=qU hf;have lenE:∀ (t:ab) (o:ai),Op s t->(endF t i o).1.2.2.2.1.length=s.2.2.2.1.length:=fun t o ht=>by
          unfold endF;dsimp only;have e1:t.2.2.1=s.2.2.1:=by rw [ht.rest]
          have e2:t.2.2.2.1=s.2.2.2.1:=by rw [ht.rest]
          rw [e1,e2,bj s.2.2.1 i zG hi];obtain ⟨j,f1,f2⟩:=h.inv.gk _ (Np hi);rw [yz f1 f2,MB]
         dsimp only;split
         ·exact lenE _ _ (tJ h.inv.op _).1
         split
         ·have hs:=pD h.inv.op (s.2.2.1.getD i zG).1;cases hc:(oK s (s.2.2.1.getD i zG).1).2 with
          | none=>exact lenE _ _ hs.1
          | some c=>rfl
         ·rfl
       split
       ·unfold vQ;split
        ·rfl
        ·have h0:Op (s.1,s.2.1,s.2.2.1,s.2.2.2.1,w64 (s.2.2.2.2+1)) (s.1,s.2.1,s.2.2.1,s.2.2.2.1,w64 (s.2.2.2.2+1)):=⟨rfl,h.inv.op.rt,h.inv.op.pl,h.inv.op.ps,MH _⟩
         have h1:=oX (rk s.2.1 (w64 (s.2.2.2.2+1))) _ h0;dsimp only;rw [h1.rest]
       ·rfl
      simp only [MC,ML] at hlen;omega
     ·have:=KX.reqs (r:=e.2.1) (.inr (.inr ⟨j,o,hj,ht,hk⟩));rcases this with h1 | ⟨_,h1⟩
      ·exact h1
      ·have:=congrArg List.length h1;rw [hk] at this;simp at this
    exact ⟨hmem _ (by rw [hne];exact hold),by rw [hkey,hne,<- hkey];exact h.nod⟩
 exact ⟨(x8 h.inv e (zJ he).2).1,by rw [pK,<- h.run],fun x hx=>(MU.1 hx).elim (h.ev x) (fun hx=>by rw [Na.1 hx];exact he),hreq.1,hreq.2,fun x hx=>hk.told (h.told x hx)⟩
theorem Rch.ok {A:ae->Prop} (hAR:∀ r,A r->mayB r=true/\I64 (rqL r)) {s:ab} {said:List dK} {done:List aD} (h:Rch A s said done):Rok A s said done:=by
 have evA:∀ r,A r->evR (0,r,0,false):=fun r hr=>.inl ⟨rfl,(hAR r hr).1,(hAR r hr).2,rfl⟩
 induction h with
 | zero=>exact ⟨inv0,rfl,fun e he=>(by cases he),fun k hk=>(by cases hk),O7,fun x hx=>(by cases hx)⟩
 | ask r ha h ih =>
  have h1:=ih.step (evA r ha) (fun _=>ha);refine ⟨h1.inv,h1.run,h1.ev,h1.req,h1.nod,fun x hx=>?_⟩;rcases MU.1 hx with hx | hx
  ·exact h1.told x hx
  ·rw [Na.1 hx];exact (Ir ih.inv r).2 (hAR r ha).1
 | lost r o ha ho h ih =>
  refine ⟨ih.inv,ih.run,ih.ev,ih.req,ih.nod,fun x hx=>?_⟩;rcases MU.1 hx with hx | hx
  ·exact ih.told x hx
  ·rw [Na.1 hx];rcases ho with ho | ho
   ·exact .inr (.inl ho)
   ·exact .inr (.inr (.inr (.inl ho)))
 | kept r o ha ho h ih =>
  have h1:=ih.step (evA r ha) (fun _=>ha);refine ⟨h1.inv,h1.run,h1.ev,h1.req,h1.nod,fun x hx=>?_⟩;rcases MU.1 hx with hx | hx
  ·exact h1.told x hx
  ·rw [Na.1 hx];exact .inr (.inr (.inr (.inl ho)))
 | ev e he h0 h ih=>exact ih.step he (fun h=>(h0 h).elim)
def smR (r:ae):Prop:=∀ x ∈ rqL r,0<=x/\x<=8191
theorem xY:∀ (l:List Int),(∀ x ∈ l,0<=x/\x<=8191)->(encs l).length<=2 * l.length
 | [],_=>by simp [encs]
 | n::l,h=>by
  have h1:=h n (Nw ..);have h2:=xY l fun x hx=>h x (M0 _ hx)
  have h3:=zK 1 (zig n) (by unfold zig;split<;>omega);have h4:encs (n::l)=encs [n]++encs l:=aH [n] l;rw [h4,My,pt,MC];omega
theorem FV {α:Type} (f:α->List Int)(c:Nat):∀ (l:List α),(∀ x ∈ l,(encs (f x)).length<=c)->(encs (l.flatMap f)).length<=c * l.length
 | [],_=>by simp [encs]
 | x::l,h=>by
  have h1:=h x (Nw ..);have h2:=FV f c l fun y hy=>h y (M0 _ hy)
  rw [NQ,aH,My,MC,Nat.mul_succ];omega
theorem Dz {s:ab} (h:Inv s)(hs:∀ k ∈ s.2.2.2.1,smR k.1):(encs (stL s)).length<=16000:=by
 have hst:=h.st;have h0:=h.op.rt.hi;have h1:=h.op.pl;have h2:=h.gl;have h3:=h.kl;have one:∀ n:Int,-9223372036854775808<=n/\n<=9223372036854775807->(encs [n]).length<=10:=fun n hn=>aG (ns:=[n]) (by simpa [I64] using hn)
 have k1:(encs (s.2.2.2.1.flatMap knL)).length<=20 * s.2.2.2.1.length:=FV knL 20 _ fun k hk=>by
  have a:=hs k hk;have b:=(h.kr k hk).2;refine Nc (xY (knL k) fun x hx=>?_) (by simp [knL,rqL]);unfold knL at hx;rcases MU.1 hx with hx | hx
  ·exact a x hx
  ·obtain ⟨⟨b1,b2⟩,⟨b3,b4⟩,_⟩:=b;simp only [M7,NL,MO,Nf,NS] at hx;rcases hx with hx | hx | hx
   ·omega
   ·omega
   ·rw [hx];split<;>omega
 have k2:(encs (s.2.2.1.flatMap sagL)).length<=10 * (11 * s.2.2.1.length):=by rw [<- cG sagL 11 (fun _=>rfl)];exact aG hst.gs
 have k3:(encs (s.2.1.flatMap payL)).length<=10 * (8 * s.2.1.length):=by rw [<- cG payL 8 (fun _=>rfl)];exact aG hst.ps
 have k4:(encs (s.1.flatMap acL)).length<=10 * (3 * s.1.length):=by rw [<- cG acL 3 (fun _=>rfl)];exact aG hst.ac
 have o1:=one s.2.2.2.2 hst.now;have o2:=one (s.1.length:Int) (by omega);have o3:=one (s.2.1.length:Int) (by omega);have o4:=one (s.2.2.1.length:Int) (by omega);have o5:=one (s.2.2.2.1.length:Int) (by omega);have e:encs (stL s)=encs [s.2.2.2.2]++(encs [(s.1.length:Int)]++(encs (s.1.flatMap acL)++(encs [(s.2.1.length:Int)]++(encs (s.2.1.flatMap payL)++(encs [(s.2.2.1.length:Int)]++(encs (s.2.2.1.flatMap sagL)++(encs [(s.2.2.2.1.length:Int)]++encs (s.2.2.2.1.flatMap knL)))))))):=by
  unfold stL t1 t2 t3;rw [<- aH,<- aH,<- aH,<- aH,<- aH,<- aH,<- aH,<- aH];congr 1
 rw [e];simp only [My];omega
end Go.Eng.Top
namespace Go.Eng.Top
open Go.Eng
abbrev lq:Sig:=S2
end Go.Eng.Top
namespace Go.Eng.Top
open Go.RowKit Go.Eng Go.Eng.LVar
set_option maxRecDepth 100000
def AR (r:ae):Prop:=mayB r=true/\I64 (rqL r)/\smR r
theorem Gk:∀ r,AR r->mayB r=true/\I64 (rqL r):=fun r h=>⟨h.1,h.2.1⟩
theorem Ia {A:ae->Prop} (hA:∀ r,A r->AR r) {s:ab} {said:List dK} {done:List aD} (h:Rch A s said done):(encs (stL s)).length<=16000:=by
 have hk:=h.ok (fun r hr=>Gk r (hA r hr));exact Dz hk.inv fun k h=>(hA _ (hk.req k h)).2.2
theorem JF {n a1 a2 a3 a4 a5:Int} (hn:0<=n/\n<=8191)(h1:0<=a1/\a1<=255)(h2:0<=a2/\a2<=255)(h3:0<=a3/\a3<=255)(h4:0<=a4/\a4<=255)(h5:0<=a5/\a5<=255):smR (oneR n a1 a2 a3 a4 a5):=by
 simp only [smR,oneR,rqL,MO,Nf,NS,NG,Og];refine ⟨by omega,by omega,?_,by omega,by omega,?_,?_⟩
 ·split
  ·omega
  ·split<;>omega
 ·split<;>omega
 ·split<;>omega
theorem Ha {n a1 a2 a3 a4 a5:Int} (hn:0<=n/\n<=8191)(h1:0<=a1/\a1<=255)(h2:0<=a2/\a2<=255)(h3:0<=a3/\a3<=255)(h4:0<=a4/\a4<=255)(h5:0<=a5/\a5<=255):mayB (oneR n a1 a2 a3 a4 a5)=true:=by
 have ho:0<=a1 % 8/\a1 % 8 < 8:=by omega
 unfold mayB oneR;dsimp only;generalize a1 % 8=o at ho ⊢;have hl:0<=(if o=2 then a5 % 4 else 0)/\(if o=2 then a5 % 4 else 0)<=3/\(0 < (if o=2 then a5 % 4 else 0)->o=2):=by split<;>omega
 have hu:0<=(if o=3 then 1+a5 % 8 else 0)/\(if o=3 then 1+a5 % 8 else 0)<=8:=by split<;>omega
 have ham:amtB (1+a4 * 7)=true:=MJ (by omega);rw [MG (by omega),MG (by omega)];split
 ·exact MJ (by omega)
 split
 ·rfl
 ·rw [MK (by omega)];exact ham
theorem JH {n a1 a2 a3 a4 a5:Int} (hn:0<=n/\n<=8191)(h1:0<=a1/\a1<=255)(h2:0<=a2/\a2<=255)(h3:0<=a3/\a3<=255)(h4:0<=a4/\a4<=255)(h5:0<=a5/\a5<=255):AR (oneR n a1 a2 a3 a4 a5) :=
 ⟨Ha hn h1 h2 h3 h4 h5,Hb (by omega) h1 h2 h3 h4 h5,JF hn h1 h2 h3 h4 h5⟩
theorem L6 {a0 a1 a2 a3 a4 a5 n:Int} (hn:0<=n/\n<=8191)(h0:0<=a0/\a0<=255)(h1:0<=a1/\a1<=255)(h2:0<=a2/\a2<=255)(h3:0<=a3/\a3<=255)(h4:0<=a4/\a4<=255)(h5:0<=a5/\a5<=255):AOj (oneF a0 a1 a2 a3 a4 a5 n)/\((oneF a0 a1 a2 a3 a4 a5 n).1=0->AR (oneF a0 a1 a2 a3 a4 a5 n).2.1/\(oneF a0 a1 a2 a3 a4 a5 n).2.1.2.1=a1 % 8):=by
 unfold oneF;split
 ·exact ⟨⟨by simp,by dsimp only;omega⟩,fun h=>by simp at h⟩
 split
 ·exact ⟨⟨by simp,by dsimp only;omega⟩,fun h=>by simp at h⟩
 split
 ·exact ⟨⟨by simp,by simp⟩,fun h=>by simp at h⟩
 split
 ·split
  ·exact ⟨⟨by simp,by simp⟩,fun h=>by simp at h⟩
  ·exact ⟨⟨by simp,by dsimp only;omega⟩,fun h=>by simp at h⟩
 ·exact ⟨⟨by simp,by simp⟩,fun _=>⟨JH hn h1 h2 h3 h4 h5,rfl⟩⟩
theorem IV {b:List Int} (hb:Byt b)(hl:b.length<=4000):∀ a ∈ acts b,AOj a/\(a.1=0->AR a.2.1):=by
 intro a ha;obtain ⟨i,hi,rfl⟩:=Nb.1 ha;have:=List.mem_range.1 hi;have h:=L6 (n:=(i:Int)) (by omega) (byt_get hb (6 * i)) (byt_get hb (6 * i+1)) (byt_get hb (6 * i+2)) (byt_get hb (6 * i+3)) (byt_get hb (6 * i+4)) (byt_get hb (6 * i+5));exact ⟨h.1,fun h0=>(h.2 h0).1⟩
theorem WG.bf {W:WC} {w x j d rho T n:Nat} {s:ab} {said:List dK} {done:List aD} (h:WG W w x j d rho T n s said done):W.c.sf.length=W.c.B.length:=by
 obtain ⟨t,bs,rs,sb,evs,hJ,_⟩:=h.de;exact hJ.bsf
noncomputable abbrev Ga (k:Nat)(b:List Int)(rho:Int)(W:WC):=CF k g_wR n_wR [inj BB b,inj I rho,Ca W.wd,Cb W.we,Cc W.ws,Cd W.wn,Ce W.wc,Cf W.wr,Cg W.ww,Ch W.wo,Ci W.c.F,Cj W.c.R,Ck W.c.L,Cl W.c.S,Cm W.ej,Cn W.es,Co W.c.jd,Cp W.c.jt,Cq W.c.jb,Cr W.c.jr,Cs W.c.jk,Ct W.c.B,Cu W.c.sf]
theorem DN (W:WC)(h:Al W)(hbf:W.c.sf.length=W.c.B.length)(b:List Int)(hb:Byt b)(hl:b.length<=4000)(rho:Nat)(hr:rho<=262144) {A:ae->Prop} (hA:∀ r,A r->AR r)(hok:∀ a ∈ acts b,AOj a/\(a.1=0->A a.2.1)) :
  ∃ W' x' j' T' n' s said done,Ev1 (fun k=>Ga k b (rho:Int) W) (outO W.wd.length W')/\WG W' W.wd.length x' j' W.c.F.length rho T' n' s said done/\Rch A s said done/\T'<=1000/\n'<=2000/\((∀ a ∈ acts b,a.1<=3)->86 * (acts b).length<=rho->(s,said)=(acts b).foldl actF (s0,[])):=by
 have hal:=Ie b;obtain ⟨W0,h0,hG0,hC0⟩:=K2 W h hbf rho hr;obtain ⟨W',x',j',T',n',s,said,done,h1,h2,h3,h4,h5,h6⟩:=Iv (A:=A) (fun r hr=>Gk r (hA r hr)) (fun {s said done} h=>Ia hA h) b (acts b) (by omega) (by omega) hok W.wd.length W.c.F.length rho (acts b).length 0 W0 W.ej.length W.c.jd.length 0 0 s0 [] [] (by omega) hG0 .zero (by omega) (by omega);refine ⟨W',x',j',T',n',s,said,done,?_,h2,h3,h4,h5,fun q1 q2=>h6 q1 0 hC0 (by omega)⟩;exact Ev1.step (fun k=>f_wR k b (rho:Int) W.wd W.we W.ws W.wn W.wc W.wr W.ww W.wo W.c.F W.c.R W.c.L W.c.S W.ej W.es W.c.jd W.c.jt W.c.jb W.c.jr W.c.jk W.c.B W.c.sf) (Ev1.bind h0 (Ev1.bind (Kq b hb (by omega)) h1.diag))
theorem Ka:(acts (allL exL)).all (fun a=>decide (a.1<=3))=true:=by decide +kernel
theorem Lk:86 * (acts (allL exL)).length<=262144:=by decide +kernel
theorem Gg (W:WC)(h:Al W)(hbf:W.c.sf.length=W.c.B.length):∃ W',Ev1 (fun k=>Gb k W) (outT true W')/\Al W'/\W'.c.sf.length=W'.c.B.length:=by
 have hlen:=BE exL;obtain ⟨W',x',j',T',n',s,said,done,h1,h2,_,_,_,h6⟩:=DN W h hbf (allL exL) IL (by omega) 262144 (by omega) (A:=AR) (fun _ h=>h) (IV IL (by omega));have hc:=h6 (fun a ha=>by have:=NZ.1 Ka a ha;simpa using this) Lk;have hs:s=exS.1:=congrArg Prod.fst hc;have hsd:said=exS.2:=congrArg Prod.snd hc;subst hs hsd;obtain ⟨v1,v2,v3,v4,v5⟩:=Lj;refine ⟨W',?_,h2.b.al,h2.bf⟩;have hst:Ev1 (fun k=>CF k eL bK [inj (.ref 30) (W'.we.getD W.wd.length none),Cn W'.es]) (exS.1,W'.es):=by rw [h2.b.we.2];exact eev h2.es.2
 have h4:Ev2 (fun k m=>h_tw k m (some W.wd.length) W'.wd W'.we W'.ws W'.wn W'.wc W'.wr W'.ww W'.wo W'.c.F W'.c.R W'.c.L W'.c.S W'.ej W'.es W'.c.jd W'.c.jt W'.c.jb W'.c.jr W'.c.jk W'.c.B W'.c.sf) (outT true W'):=by
  refine Ev2.step (fun k m=>La k m (some W.wd.length) W'.wd W'.we W'.ws W'.wn W'.wc W'.wr W'.ww W'.wo W'.c.F W'.c.R W'.c.L W'.c.S W'.ej W'.es W'.c.jd W'.c.jt W'.c.jb W'.c.jr W'.c.jk W'.c.B W'.c.sf) (Ev2.pos rfl (Ev2.bind hst (Ev2.pos rfl (Ev2.pos ?_ (Ev2.pos rfl (Ev2.posD ?_ (Ev2.posD (by rw [v2];rfl) (Ev2.pos (ak (by omega) (by rw [v2];omega)) (Ev2.posD v3 (Ev2.pos (ak (by omega) (by rw [v2];omega)) (Ev2.posD v4 (Ev2.const ?_))))))))))))
  ·show (!(W'.wr.getD W.wd.length none).isSome)=true;rw [h2.b.wr.2];rfl
  ·show ((W'.ws.getD W.wd.length []).length:Int)=13;rw [h2.b.ws.2];show (exS.2.length:Int)=13;rw [v1];rfl
  ·rw [v5];rfl
 refine Ev1.step (fun k=>f_tw k W.wd W.we W.ws W.wn W.wc W.wr W.ww W.wo W.c.F W.c.R W.c.L W.c.S W.ej W.es W.c.jd W.c.jt W.c.jb W.c.jr W.c.jk W.c.B W.c.sf) (Ev1.bind (BF exL (by decide)) (Ev1.bind h1 (Ev1.neg rfl (Ev1.pos rfl (Ev1.neg ?_ h4.diag)))));show (!(W'.we.getD W.wd.length none).isSome)=false;rw [h2.b.we.2];rfl
theorem Ma (r:ae)(x:Int):mayB (r.1,r.2.1,r.2.2.1,x,r.2.2.2.2)=mayB r:=rfl
theorem Gh {ks:List aM} (hn:(bL ks).Nodup) {i:Nat} (hi:i < ks.length) {q:ae} (hk:q.1=(ks[i]).1.1)(hne:(ks[i]).1 ≠ q):askF ks q=((5,0),true):=by
 have hl:(bL ks).length=ks.length:=by simp [bL]
 have hf:fnd q.1 ks=some i:=by
  unfold fnd;have hm:q.1 ∈ bL ks:=by rw [hk];exact Nb.2 ⟨ks[i],Np hi,rfl⟩
  cases hq:fndI q.1 (bL ks) with
  | none=>exact (u7 hq hm).elim
  | some j =>
   obtain ⟨hj,e⟩:=mG hq;have e2:(bL ks)[i]'(by omega)=q.1:=by rw [hk];simp [bL]
   have:=(List.getElem_inj hn).1 (e.trans e2.symm);rw [this]
 unfold askF;rw [hf];dsimp only;rw [bj _ _ _ hi,MG hne]
noncomputable abbrev LA (k:Nat)(b:List Int)(room at_ more:Int)(W:WC):=CF k lq kX [inj BB b,inj (.int .u16) room,inj (.int .u8) at_,inj (.int .i8) more,Ca W.wd,Cb W.we,Cc W.ws,Cd W.wn,Ce W.wc,Cf W.wr,Cg W.ww,Ch W.wo,Ci W.c.F,Cj W.c.R,Ck W.c.L,Cl W.c.S,Cm W.ej,Cn W.es,Co W.c.jd,Cp W.c.jt,Cq W.c.jb,Cr W.c.jr,Cs W.c.jk,Ct W.c.B,Cu W.c.sf]
set_option maxHeartbeats 2000000 in
theorem topOther (b:List Int)(hb:Byt b)(hbl:b.length<=211106232532000)(room:Int)(hroom:0<=room/\room<=65535)(at_:Int)(hat:0<=at_/\at_<=255)(more:Int)(hmore:-128<=more/\more<=127)(W:WC)(h:Al W)(hbf:W.c.sf.length=W.c.B.length):∃ W',Ev1 (fun k=>LA k b room at_ more W) (outT true W'):=by
 have hlen:=BE b;obtain ⟨W1,ha,hA1,hB1⟩:=Gg W h hbf;obtain ⟨rho,hrho⟩:=Nl hroom.1;have hr64:w64 room=(rho:Int):=by rw [aO (by omega)];exact hrho
 obtain ⟨W2,x,j,T,n,s,said,done,hx,hG,hR,hT,hn,_⟩:=DN W1 hA1 hB1 (allL b) (vI hb) (by omega) rho (by omega) (A:=AR) (fun _ h=>h) (IV (vI hb) (by omega));have hok:=hR.ok Gk;have hst:Ev1 (fun k=>CF k eL bK [inj (.ref 30) (W2.we.getD W1.wd.length none),Cn W2.es]) (s,W2.es):=by rw [hG.b.we.2];exact eev hG.es.2
 have hwr:(!(W2.wr.getD W1.wd.length none).isSome)=true:=by rw [hG.b.wr.2];rfl
 refine ⟨W2,Ev1.step (fun k=>rV k b room at_ more W.wd W.we W.ws W.wn W.wc W.wr W.ww W.wo W.c.F W.c.R W.c.L W.c.S W.ej W.es W.c.jd W.c.jt W.c.jb W.c.jr W.c.jk W.c.B W.c.sf) (Ev1.bind ha (Ev1.neg rfl (Ev1.bind (BF b hbl) ?_)))⟩;rw [hr64];refine Ev1.bind hx (Ev1.pos rfl (Ev1.bind hst ?_));by_cases hz:(s.2.2.2.1.length:Int)=0
 ·refine Ev1.posD hz (Ev1.pos rfl (Ev1.const ?_));simp only [MN];rw [hwr]
 refine Ev1.negD hz ?_;by_cases hm0:more=0
 ·refine Ev1.posD hm0 (Ev1.pos rfl (Ev1.const ?_));simp only [MN];rw [hwr]
 refine Ev1.negD hm0 ?_;have hpos:0 < (s.2.2.2.1.length:Int):=by omega
 have hat64:w64 at_=at_:=aO (by omega);have hm:=yx hat.1 hpos;obtain ⟨i,hi⟩:=Nl hm.1;have hil:i < s.2.2.2.1.length:=by omega
 have hkl:=hok.inv.kl;have eget:s.2.2.2.1.getD (Int.toNat (Int.tmod at_ (s.2.2.2.1.length:Int))) (((0:Int),(0:Int),(0:Int),(0:Int),(0:Int),(0:Int),(0:Int)),((0:Int),(0:Int)),false)=s.2.2.2.1[i]:=by
  rw [hi];exact getK _ _ hil
 have hreq:=hok.inv.ks _ (Np hil);have hmay:=(hok.inv.kr _ (Np hil)).1;generalize hkn:(s.2.2.2.1[i]).1=q at hreq hmay;have hqI:I64 (rqL q):=by unfold knL at hreq;rw [hkn] at hreq;exact (cy.1 hreq).1
 have hq4:-9223372036854775808<=q.2.2.2.1/\q.2.2.2.1<=9223372036854775807:=hqI _ (by simp [rqL]);have hmw:w64 more=more:=aO (by omega);obtain ⟨z,hz1,hz2,hz3⟩:=gI (q.2.2.2.1+w64 more);have hne:w64 (q.2.2.2.1+w64 more) ≠ q.2.2.2.1:=by rw [hmw] at hz1 ⊢;omega
 have hev:askF s.2.2.2.1 (q.1,q.2.1,q.2.2.1,w64 (q.2.2.2.1+w64 more),q.2.2.2.2)=((5,0),true):=by
  refine Gh hok.nod hil (by rw [hkn]) (fun e=>hne ?_);rw [hkn] at e;exact (congrArg (fun r:ae=>r.2.2.2.1) e).symm
 have hdo:doF s (0,(q.1,q.2.1,q.2.2.1,w64 (q.2.2.2.1+w64 more),q.2.2.2.2),0,false)=(s,(5,0)):=by
  show subF s (q.1,q.2.1,q.2.2.1,w64 (q.2.2.2.1+w64 more),q.2.2.2.2)=(s,(5,0));unfold subF;rw [Ma,hmay,MG (by simp),hev,MK rfl]
 obtain ⟨t,bs,rs,sb,evs,hJ,hS,_⟩:=hG.de;have hd:=Bx W2.c hJ hok.inv hG.ej hG.es.1 hG.es.2 (0,(q.1,q.2.1,q.2.2.1,w64 (q.2.2.2.1+w64 more),q.2.2.2.2),0,false) (by rw [hdo]);rw [hdo] at hd;have hsm:=DH hok.inv;have hT2:Ev2 (fun k m=>il k m at_ more (some W1.wd.length) s.1 s.2.1 s.2.2.1 s.2.2.2.1 s.2.2.2.2 W2.wd W2.we W2.ws W2.wn W2.wc W2.wr W2.ww W2.wo W2.c.F W2.c.R W2.c.L W2.c.S W2.ej W2.es W2.c.jd W2.c.jt W2.c.jb W2.c.jr W2.c.jk W2.c.B W2.c.sf) (outT true W2):=by
  refine Ev2.step (fun k m=>oL k m at_ more (some W1.wd.length) s.1 s.2.1 s.2.2.1 s.2.2.2.1 s.2.2.2.2 W2.wd W2.we W2.ws W2.wn W2.wc W2.wr W2.ww W2.wo W2.c.F W2.c.R W2.c.L W2.c.S W2.ej W2.es W2.c.jd W2.c.jt W2.c.jb W2.c.jr W2.c.jk W2.c.B W2.c.sf _ rfl (Int.tmod at_ (s.2.2.2.1.length:Int)) (by rw [hat64]) q (by rw [eget,hkn])) (Ev2.pos (by rw [MD hz];rfl) (Ev2.pos (ak hm.1 hm.2) (Ev2.pos rfl ?_)));simp only [MN];rw [hG.b.we.2];have hst2:Ev1 (fun k=>CF k eL bK [inj (.ref 30) (some x),Cn W2.es]) (s,W2.es):=eev hG.es.2;exact Ev2.bind hd (Ev2.pos rfl (Ev2.pos rfl (Ev2.bind hst2 (Ev2.bind hsm (Ev2.const rfl)))))
 exact hT2.diag
end Go.Eng.Top
namespace Go.Proofs.YtbbnmhmfdbcmhaaGreatDoorW.As
open Go.RowKit Go.Extern.Stop Go.Stop Go.Extern Go.Proofs
theorem dC {w W:World} (h:Below w.heap.size w W)(o:Obj):Below w.heap.size w (W.alloc o):=h.alloc h.size o
theorem Ge {w W:World} {g j:Nat} {v:Value} (h:Below w.heap.size w W)(hg:w.heap.size<=g):Below w.heap.size w (W.setCell ⟨g,j,none⟩ v):=h.setCell hg _
def GH (w:World):Prop:=w.cell? ⟨0,0,none⟩=some (.iface 240 (.agg #[.pointer (some ⟨1,34,none⟩)]))
theorem GH.lt {w:World} (h:GH w):0 < w.heap.size:=by
 unfold GH at h;rcases Nat.eq_zero_or_pos w.heap.size with h0 | h1
 ·simp [World.cell?,h0] at h
 ·exact h1
theorem GH.below {B:Nat} {w w':World} (h:GH w)(hb:Below B w w')(hB:w.heap.size<=B):GH w':=by
 have hlt:=h.lt;unfold GH at *;rw [<- h];exact hb.cell (p:=⟨0,0,none⟩) (by show 0 < B;omega)
theorem GH.step {w w':World} (h:GH w)(hb:Below w.heap.size w w'):GH w':=h.below hb (Nat.le_refl _)
theorem LK (t:Value)(w:World) :
  Calls Tryz.prog 73 #[.nilIface,t] w fun e w'=>e=.returned (.bool false)/\w'=w:=by
 go_enter Tryz.func73,Tryz.ntmps73
 go_wp2
 go_ret
 exact ⟨rfl,rfl⟩
theorem Dc (t:Addr)(w:World):(ReflectliteValue.unpack (.iface 154 (.pointer (some t)))).run Tryz.prog w
  = .ok (.agg #[.pointer (some ⟨1,154,none⟩),.pointer (some ⟨w.heap.size,0,none⟩),.int .u64 150]) (w.alloc (.cells #[.pointer (some t)] 154)):=by kernel_rfl
theorem Kt (a : Addr) (w : World) : (ReflectliteValue.methodAny (ReflectliteValue.valueError "reflectlite.Value.Type" 0) (fun t _ _ _ => ReflectliteType.toType t) #[.agg #[.pointer (some ⟨1, 154, none⟩), .pointer (some a), .int .u64 150]]).run Tryz.prog w
  = .ok (.iface 240 (.agg #[.pointer (some ⟨1,154,none⟩)])) w:=by kernel_rfl
theorem yn (h : Value) (w : World) : (Go.method 437 240 (.agg #[h]) "Kind").run Tryz.prog w = .ok (206, h) w := by kernel_rfl
theorem Kv (w:World):((ReflectliteType.abiMethod fun t=>(fun a:Nat=>Value.int IntKind.u8 (a:Int)) <$> Rtype.kind t) #[.pointer (some ⟨1,154,none⟩)]).run Tryz.prog w=.ok (.int .u8 22) w:=by kernel_rfl
theorem Kw (w:World):((ReflectliteType.abiMethod fun t=>(fun a:Nat=>Value.int IntKind.u8 (a:Int)) <$> Rtype.kind t) #[.pointer (some ⟨1,46,none⟩)]).run Tryz.prog w=.ok (.int .u8 2) w:=by kernel_rfl
theorem rlm (z:Sem Value)(f:TypeId->Addr->Nat->Nat->Sem Value)(v:Value) :
  ReflectliteValue.method z f #[v]=(do match <- ReflectliteValue.parts v with | none=>z | some (t,a,fl)=>f t a fl (fl % 32)):=rfl
theorem De (a:Addr)(w:World):(ReflectliteValue.parts (.agg #[.pointer (some ⟨1,154,none⟩),.pointer (some a),.int .u64 150])).run Tryz.prog w=.ok (some (154,a,150)) w:=by kernel_rfl
theorem I1 (a p:Addr)(W:World)(ha:W.cell? a=some (.pointer (some p))) :
  (ReflectliteValue.method (ReflectliteValue.valueError "reflectlite.Value.IsNil" 0) ReflectliteValue.isNil #[.agg #[.pointer (some ⟨1, 154, none⟩), .pointer (some a), .int .u64 150]]).run Tryz.prog W = .ok (.bool false) W := by
 rw [rlm];simp only [Sem.run_bind,De,Result.andThen];simp [ReflectliteValue.isNil,loadVar,isAgg,underlying,Tryz.underlying154,ha,Result.andThen]
theorem yp (h : Value) (w : World) : (Go.method 437 240 (.agg #[h]) "Elem").run Tryz.prog w = .ok (222, .agg #[h]) w := by kernel_rfl
theorem m5 (h : Value) (w : World) : (Go.method 437 240 (.agg #[h]) "Implements").run Tryz.prog w = .ok (223, .agg #[h]) w := by kernel_rfl
theorem lA (h : Value) (w : World) : (Go.method 437 240 (.agg #[h]) "AssignableTo").run Tryz.prog w = .ok (220, .agg #[h]) w := by kernel_rfl
theorem Kx (w:World):(ReflectliteType.method ReflectliteType.elem #[.agg #[.pointer (some ⟨1,154,none⟩)]]).run Tryz.prog w=.ok (.iface 240 (.agg #[.pointer (some ⟨1,46,none⟩)])) w:=by kernel_rfl
theorem vL (w : World) : (ReflectliteType.relation "Implements" ReflectliteType.implements_ #[.agg #[.pointer (some ⟨1, 46, none⟩)], .iface 240 (.agg #[.pointer (some ⟨1, 34, none⟩)])]).run Tryz.prog w = .ok (.bool true) w := by kernel_rfl
theorem Gq (v:Value)(w:World):(ReflectliteType.typeOf #[.iface 46 v]).run Tryz.prog w=.ok (.iface 240 (.agg #[.pointer (some ⟨1,46,none⟩)])) w:=by kernel_rfl
theorem vM (w : World) : (ReflectliteType.relation "AssignableTo" ReflectliteType.assignableTo #[.agg #[.pointer (some ⟨1, 46, none⟩)], .iface 240 (.agg #[.pointer (some ⟨1, 46, none⟩)])]).run Tryz.prog w = .ok (.bool true) w := by kernel_rfl
theorem Dd (c:Int)(w:World):(ReflectliteValue.unpack (.iface 46 (.int .i64 c))).run Tryz.prog w
  = .ok (.agg #[.pointer (some ⟨1,46,none⟩),.pointer (some ⟨w.heap.size,0,none⟩),.int .u64 130]) (w.alloc (.cells #[.int .i64 c] 46)):=by kernel_rfl
theorem Gs (w:World):(Rtype.elem? 154).run Tryz.prog w=.ok (some 46) w:=by kernel_rfl
theorem xmkE (p:Addr)(w:World):(ReflectliteValue.mk 46 p ReflectliteValue.flagAddr).run Tryz.prog w=.ok (.agg #[.pointer (some ⟨1,46,none⟩),.pointer (some p),.int .u64 386]) w:=by kernel_rfl
theorem I2 (a p:Addr)(W:World)(ha:W.cell? a=some (.pointer (some p))) :
  (ReflectliteValue.method (ReflectliteValue.valueError "reflectlite.Value.Elem" 0) ReflectliteValue.elem #[.agg #[.pointer (some ⟨1, 154, none⟩), .pointer (some a), .int .u64 150]]).run Tryz.prog W
   = .ok (.agg #[.pointer (some ⟨1,46,none⟩),.pointer (some p),.int .u64 386]) W:=by
 rw [rlm];simp only [Sem.run_bind,De,Result.andThen];simp [ReflectliteValue.elem,loadVar,isAgg,underlying,Tryz.underlying154,ha,Result.andThen,Gs,xmkE]
theorem rls (v x:Value):ReflectliteValue.set #[v,x]=(do
  let (some (dst,a,fl),some (src,b,_)):=(<- ReflectliteValue.parts v,<- ReflectliteValue.parts x)
   | unsupported (.noEntry "extern/(internal/reflectlite.Value).Set.zeroValue")
  if fl / ReflectliteValue.flagAddr % 2 == 0 then unsupported (.noEntry "extern/(internal/reflectlite.Value).Set.unaddressable")
  let val <- loadVar src b
  if <- Rtype.directlyAssignable dst src then storeVar dst a val
  else if <- Rtype.implements dst src then
   if (<- Rtype.kind src) == 20 then
    match val with
    | .nilIface => unsupported (.noEntry "extern/reflectlite: a nil value of one interface type handed on as a value of another")
    | _=>storeVar dst a val
   else storeVar dst a (.iface src val)
  else panicString ("reflectlite.Set: value of type " ++ (<- Rtype.spelt src) ++ " is not assignable to type " ++ (<- Rtype.spelt dst))
  pure (.tuple #[])):=rfl
theorem Gr (a:Addr)(w:World):(ReflectliteValue.parts (.agg #[.pointer (some ⟨1,46,none⟩),.pointer (some a),.int .u64 386])).run Tryz.prog w=.ok (some (46,a,386)) w:=by kernel_rfl
theorem IY (a:Addr)(w:World):(ReflectliteValue.parts (.agg #[.pointer (some ⟨1,46,none⟩),.pointer (some a),.int .u64 130])).run Tryz.prog w=.ok (some (46,a,130)) w:=by kernel_rfl
theorem Gt (w:World):(Rtype.directlyAssignable 46 46).run Tryz.prog w=.ok true w:=by kernel_rfl
theorem LX (ta b:Addr)(c:Int)(old:Value)(W:World)(hb:W.cell? b=some (.int .i64 c))(ht:W.cell? ta=some old)(hf:W.frozen? ta=false) :
  (ReflectliteValue.set #[.agg #[.pointer (some ⟨1,46,none⟩),.pointer (some ta),.int .u64 386],.agg #[.pointer (some ⟨1,46,none⟩),.pointer (some b),.int .u64 130]]).run Tryz.prog W
   = .ok (.tuple #[]) (W.setCell ta (.int .i64 c)):=by
 rw [rls];simp only [Sem.run_bind,Gr,IY,Result.andThen];simp [ReflectliteValue.flagAddr,loadVar,isAgg,underlying,Tryz.underlying46,hb,Result.andThen,Gt,storeVar,Value.cells,storeCells,Addr.add];rw [run_store Tryz.prog W ta _ _ (by rfl)];simp [ht,hf]
def nS (w:World)(t:Addr)(c:Int):World:=((((w.alloc (.cells #[.pointer (some t)] 154)).alloc (.cells #[.pointer (some ⟨1,154,none⟩),.pointer (some ⟨w.heap.size,0,none⟩),.int .u64 150] 195)).alloc (.cells #[.pointer (some ⟨1,154,none⟩),.pointer (some ⟨w.heap.size,0,none⟩),.int .u64 150] 195)).alloc (.cells #[.int .i64 c] 46)).setCell t (.int .i64 c)
set_option maxHeartbeats 4000000 in
theorem LL (c:Int)(t:Addr)(old:Value)(w:World)(hg:GH w)(ht0:w.cell? t=some old)(hf0:w.frozen? t=false) :
  Calls Tryz.prog 73 #[.iface 46 (.int .i64 c),.iface 154 (.pointer (some t))] w fun ev w'=>ev=.returned (.bool true)/\w'=nS w t c:=by
 unfold GH at hg;unfold nS;have h6:=@run_callFunc_extern Tryz.prog 106 _ (fun args=>ReflectliteValue.unpack (args.getD 0 (.tuple #[]))) Tryz.func106 (by kernel_rfl) (by kernel_rfl) (by kernel_rfl) (by kernel_rfl);have h7 := @run_callFunc_extern Tryz.prog 107 _ (ReflectliteValue.methodAny (ReflectliteValue.valueError "reflectlite.Value.Type" 0) (fun t _ _ _ => ReflectliteType.toType t)) Tryz.func107 (by kernel_rfl) (by kernel_rfl) (by kernel_rfl) (by kernel_rfl)
 have h8 := @run_callFunc_extern Tryz.prog 108 _ (ReflectliteValue.method (ReflectliteValue.valueError "reflectlite.Value.IsNil" 0) ReflectliteValue.isNil) Tryz.func108 (by kernel_rfl) (by kernel_rfl) (by kernel_rfl) (by kernel_rfl)
 have h27:=@run_callFunc_extern Tryz.prog 206 _ (ReflectliteType.abiMethod fun t=>do pure (.int .u8 (<- Rtype.kind t))) Tryz.func206 (by kernel_rfl) (by kernel_rfl) (by kernel_rfl) (by kernel_rfl);have h37:=@run_callFunc_extern Tryz.prog 222 _ (ReflectliteType.method ReflectliteType.elem) Tryz.func222 (by kernel_rfl) (by kernel_rfl) (by kernel_rfl) (by kernel_rfl);have h38 := @run_callFunc_extern Tryz.prog 223 _ (ReflectliteType.relation "Implements" ReflectliteType.implements_) Tryz.func223 (by kernel_rfl) (by kernel_rfl) (by kernel_rfl) (by kernel_rfl)
 have h10:=@run_callFunc_extern Tryz.prog 141 _ ReflectliteType.typeOf Tryz.func141 (by kernel_rfl) (by kernel_rfl) (by kernel_rfl) (by kernel_rfl);have h35 := @run_callFunc_extern Tryz.prog 220 _ (ReflectliteType.relation "AssignableTo" ReflectliteType.assignableTo) Tryz.func220 (by kernel_rfl) (by kernel_rfl) (by kernel_rfl) (by kernel_rfl)
 have h11 := @run_callFunc_extern Tryz.prog 142 _ (ReflectliteValue.method (ReflectliteValue.valueError "reflectlite.Value.Elem" 0) ReflectliteValue.elem) Tryz.func142 (by kernel_rfl) (by kernel_rfl) (by kernel_rfl) (by kernel_rfl)
 have h12:=@run_callFunc_extern Tryz.prog 143 _ ReflectliteValue.set Tryz.func143 (by kernel_rfl) (by kernel_rfl) (by kernel_rfl) (by kernel_rfl);have tO:=Gq;have mA:=lA;have a25:=vM;have v25:=Dd;have f6:=Dc;have f7:=Kt;have mK:=yn;have mE:=yp;have mI:=m5;have k27:=Kv;have k25:=Kw;have e27:=Kx;have i25:=vL;have n8:=I1 ⟨w.heap.size,0,none⟩ t ((w.alloc (.cells #[.pointer (some t)] 154)).alloc (.cells #[.pointer (some ⟨1,154,none⟩),.pointer (some ⟨w.heap.size,0,none⟩),.int .u64 150] 195)) (by simp);have hlt:0 < w.heap.size:=by
  rcases Nat.eq_zero_or_pos w.heap.size with h0 | h
  ·simp [World.cell?,h0] at hg
  ·exact h
 have hg2:((w.alloc (.cells #[.pointer (some t)] 154)).alloc (.cells #[.pointer (some ⟨1,154,none⟩),.pointer (some ⟨w.heap.size,0,none⟩),.int .u64 150] 195)).cell? ⟨0,0,none⟩=some (.iface 240 (.agg #[.pointer (some ⟨1,34,none⟩)])):=by
  rw [World.cell?_alloc_lt _ _ ⟨0,0,none⟩ (by simp),World.cell?_alloc_lt _ _ ⟨0,0,none⟩ hlt];exact hg
 have htl:t.block < w.heap.size:=by
  rcases Nat.lt_or_ge t.block w.heap.size with h | h
  ·exact h
  ·simp [World.cell?,Array.getElem?_eq_none h] at ht0
 have el:=I2 ⟨w.heap.size,0,none⟩ t (((w.alloc (.cells #[.pointer (some t)] 154)).alloc (.cells #[.pointer (some ⟨1,154,none⟩),.pointer (some ⟨w.heap.size,0,none⟩),.int .u64 150] 195)).alloc (.cells #[.pointer (some ⟨1,154,none⟩),.pointer (some ⟨w.heap.size,0,none⟩),.int .u64 150] 195)) (by rw [World.cell?_alloc_lt _ _ ⟨w.heap.size,0,none⟩ (by simp;omega)];simp);have st:=LX t ⟨w.heap.size+1+1+1,0,none⟩ c old ((((w.alloc (.cells #[.pointer (some t)] 154)).alloc (.cells #[.pointer (some ⟨1,154,none⟩),.pointer (some ⟨w.heap.size,0,none⟩),.int .u64 150] 195)).alloc (.cells #[.pointer (some ⟨1,154,none⟩),.pointer (some ⟨w.heap.size,0,none⟩),.int .u64 150] 195)).alloc (.cells #[.int .i64 c] 46))
  (by rw [World.cell?_alloc_at _ _ _ _ (by simp)];rfl)
  (by rw [World.cell?_alloc_lt _ _ t (by simp;omega),World.cell?_alloc_lt _ _ t (by simp;omega),World.cell?_alloc_lt _ _ t (by simp;omega),World.cell?_alloc_lt _ _ t htl];exact ht0)
  (by rw [World.frozen?_alloc_old _ _ t (by simp;omega),World.frozen?_alloc_old _ _ t (by simp;omega),World.frozen?_alloc_old _ _ t (by simp;omega),World.frozen?_alloc_old _ _ t (Nat.ne_of_lt htl)];exact hf0)
 go_enter Tryz.func73,Tryz.ntmps73
 go_wp2
 refine wp_loop_rounds 1 ?_;rw [rounds_succ]
 go_wp2
 go_ret
 exact ⟨rfl,rfl⟩
theorem number_nil (w:World):Calls Tryz.prog 36 #[.nilIface] w fun e w'=>e=.returned (.int .i64 0)/\Below w.heap.size w w':=by
 go_enter Tryz.func36,Tryz.ntmps36
 go_wp2_with (go_at_call 73;refine (LK _ _).mono ?_;rintro e w' ⟨rfl,rfl⟩)
 go_ret
 exact ⟨rfl,dC (Below.refl _ _) _⟩
theorem number_some (c:Int)(w:World)(hg:GH w):Calls Tryz.prog 36 #[.iface 46 (.int .i64 c)] w fun e w'=>e=.returned (.int .i64 c)/\Below w.heap.size w w':=by
 have hg1:GH (w.alloc (.cells #[.int .i64 0] 46)):=hg.step (dC (Below.refl _ _) _);have hb:Below w.heap.size w (nS (w.alloc (.cells #[.int .i64 0] 46)) ⟨w.heap.size,0,none⟩ c):=by
  unfold nS;refine Ge ?_ (Nat.le_refl _);exact dC (dC (dC (dC (dC (Below.refl _ _) _) _) _) _) _
 have hc:(nS (w.alloc (.cells #[.int .i64 0] 46)) ⟨w.heap.size,0,none⟩ c).cell? ⟨w.heap.size,0,none⟩=some (.int .i64 c):=by
  unfold nS;exact World.cell?_setCell_same _ _ _ (u:=.int .i64 0) (by
   rw [World.cell?_alloc_lt _ _ _ (by simp;omega),World.cell?_alloc_lt _ _ _ (by simp;omega),World.cell?_alloc_lt _ _ _ (by simp;omega),World.cell?_alloc_lt _ _ _ (by simp),World.cell?_alloc_at _ _ _ _ (by simp)];rfl)
 go_enter Tryz.func36,Tryz.ntmps36
 go_wp2_with (go_at_call 73;refine (LL c ⟨w.heap.size,0,none⟩ (.int .i64 0) _ hg1 (by simp) (by simp)).mono ?_;rintro e w' ⟨rfl,rfl⟩)
 go_ret
 exact ⟨rfl,hb⟩
end Go.Proofs.YtbbnmhmfdbcmhaaGreatDoorW.As
namespace Go.Proofs.YtbbnmhmfdbcmhaaGreatDoorW.Laid
open Go.ChangeShapes Go.WideShapes Go.RowKit Go.Proofs.YtbbnmhmfdbcmhaaGreatDoor Go.Proofs.YtbbnmhmfdbcmhaaGreatDoorW
theorem et0 : Tryz.prog.globalNamed "errors.errorType" = some 0 := by kernel_rfl
theorem rt0 : (Tryz.prog.cutTypes.find? (·.1 == "internal/reflectlite.rtype")).map (·.2) = some 240 := by kernel_rfl
theorem K0:((List.range 337).filter fun t=>Tryz.prog.rowNamed t [101,114,114,111,114])=[34]:=by kernel_rfl
theorem size:Tryz.prog.types.size=337:=by kernel_rfl
theorem handle_of_laid {W : World} (h : laidMetH Tryz.prog [("errors.errorType", Rows.laid_errors_errorType)] W) : As.GH W := by
 have h' : laidMet Tryz.prog [] W /\ handlesMet Tryz.prog [("errors.errorType", Rows.laid_errors_errorType)] W := h
 obtain ⟨name,u,ty,e1,e2,e3,e4,e5⟩:=h'.2 _ (List.mem_singleton.2 rfl);have en:name=[101,114,114,111,114]:=(Option.some.inj e1).symm;subst en;obtain rfl:=Option.some.inj (rt0.symm.trans e2);have hm:ty ∈ (List.range 337).filter fun t=>Tryz.prog.rowNamed t [101,114,114,111,114]:=List.mem_filter.2 ⟨List.mem_range.2 (by rw [<- size];exact e3),e4⟩
 rw [K0] at hm;obtain rfl:=List.mem_singleton.1 hm;have hh:typeHandle Tryz.prog 34=.pointer (some ⟨1,34,none⟩):=by kernel_rfl
 rw [hh] at e5;unfold As.GH;simpa using World.var?_cell et0 e5 0
noncomputable def laidWorld (os:Os):World :=
 let w0:=World.holding Tryz.prog os ⟨#[],#[],[]⟩
 { w0 with heap:=w0.heap.modify 0 fun
   | .cells _ t frozen=>.cells #[.iface 240 (.agg #[.pointer (some ⟨1,34,none⟩)])] t frozen
   | o=>o }
theorem laidWorld_met (os : Os) (args : Array Value) : laidMetH Tryz.prog [("errors.errorType", Rows.laid_errors_errorType)] ((laidWorld os).forCall (fun _ _ => 0) ⟨#[], args, []⟩).memory :=
 laidMetH_of_parts (laidMet_nil _ _) (by kernel_rfl)
end Go.Proofs.YtbbnmhmfdbcmhaaGreatDoorW.Laid
