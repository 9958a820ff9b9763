/- Definitions and lemmas for the law TopEffect: what the program's functions come to. Conditions: as each lemma says. -/
import Derived.Test.YtbbnmhmfdbcmhaaGreatDoorF1
import Derived.Orders
import Derived.LoopN
import Derived.Deep.Slices
import Derived.SizedLaws
import Derived.ChangeArms
import Derived.Below
set_option linter.all false
set_option linter.unusedVariables false
set_option linter.unusedSimpArgs false
set_option linter.deprecated false
namespace Go.Eng
open Go.RowKit
def Ba (hp:Nat->Option Obj)(cs:List S)(off:Nat):(m:Mode)->(k:K)->k.T->List Nat->List Nat->Prop
 |.dat,k,x,fz,dd=>rei1 hp k ((cs.drop off).take k.size)=some x/\fz=ba ((cs.drop off).take k.size)/\dd=[]
 |.own,.slice e,x,fz,dd=>(cs.drop off).take 1=[.nilS]/\x=([]:List e.T)/\dd=[]
 |.mp,.slice (.prod (.int .i64) (.ref e)),x,fz,dd=>∃id,(cs.drop off).take 1=[.mp id]/\hp id=some (.mp (.ref e) [])/\x=([]:List (Int×Option Nat))/\dd=[id]
 |_,_,_,_,_=>False
theorem Ba.dead {hp:Nat->Option Obj}{cs:List S}{off:Nat}{m:Mode}{k:K}{x:k.T}{fz dd:List Nat}(h:Ba hp cs off m k x fz dd):∀id∈dd,∃e,hp id=some (.mp (.ref e) []):=by
 intro id hid;unfold Ba at h;split at h
 ·rw[h.2.2]at hid;cases hid
 ·rw[h.2.2]at hid;cases hid
 ·obtain⟨id',_,r2,_,rfl⟩:=h;simp at hid;subst hid;exact⟨_,r2⟩
 ·exact h.elim
theorem cA {hp:Nat->Option Obj}{t:Nat}{cs:List S}{d:Nat×Mode×K}{n:Nat}{e:Nat×Obj}{fz dd:List Nat}(h:fB hp t cs d=some (n,e,fz,dd)):
  ∃(xs:List d.2.2.T) (g:Nat) (x:d.2.2.T),hp (aX t d.1)=some (.col t d.1 d.2.1 d.2.2 xs g none)/\xs.length=n/\e=(aX t d.1,.col t d.1 d.2.1 d.2.2 (xs++[x]) g none)/\Ba hp cs d.1 d.2.1 d.2.2 x fz dd:=by
 obtain⟨off,m,k⟩:=d;unfold fB at h;simp only at h;split at h
 ·rename_i t' off' m' k' xs g hid;cases hq:(Nat.beq t' t&&Nat.beq off' off&&decide (m'=m)&&decide (k'=k))with
  |false=>rw[hq]at h;cases h
  |true=>
   rw[hq]at h;simp only[NH]at h;simp only[NM,N0]at hq;obtain⟨⟨⟨q1,q2⟩,q3⟩,q4⟩:=hq;have q1:=NB q1;have q2:=NB q2;subst q1;subst q2;subst q3;subst q4;split at h
   ·split at h
    ·rename_i x hx;simp only[Nz,Ov]at h;obtain⟨rfl,rfl,rfl,rfl⟩:=h;exact⟨_,_,x,hid,rfl,rfl,hx,rfl,rfl⟩
    ·cases h
   ·split at h
    ·rename_i hx;simp only[Nz,Ov]at h;obtain⟨rfl,rfl,rfl,rfl⟩:=h;exact⟨_,_,_,hid,rfl,rfl,hx,rfl,rfl⟩
    ·cases h
   ·split at h
    ·rename_i id hx;split at h
     ·rename_i e' hid2;revert h;cases hb:Nat.beq e' _ with
      |false=>intro h;cases h
      |true=>
       intro h;have:=NB hb;subst this;simp only[NH,Nz,Ov]at h;obtain⟨rfl,rfl,rfl,rfl⟩:=h;exact⟨_,_,_,hid,rfl,rfl,id,hx,hid2,rfl,rfl⟩
     ·cases h
    ·cases h
   ·cases h
 ·cases h
theorem m8 {hp:Nat->Option Obj}{t:Nat}{cs:List S}:∀{ds:List (Nat×Mode×K)} {n:Nat} {cu:Upd} {fz dd:List Nat},m9 hp t cs ds=some (n,cu,fz,dd) ->
  ds≠[]/\(∃d∈ds,∃e fz' dd',fB hp t cs d=some (n,e,fz',dd'))/\(∀d∈ds,∃n' e fz' dd',fB hp t cs d=some (n',e,fz',dd')/\e∈cu/\(∀i∈fz',i∈fz)/\∀i∈dd',i∈dd)/\(∀e∈cu,∃d∈ds,∃n' fz' dd',fB hp t cs d=some (n',e,fz',dd'))/\dd=ds.flatMap (λd=>match fB hp t cs d with|some (_,_,_,l)=>l|none=>[])
 |[],n,cu,fz,dd,h=>by cases h
 |[d],n,cu,fz,dd,h=>by
  simp only[m9]at h;split at h
  ·rename_i n' e fz' dd' hp1;simp only[Nz,Ov]at h;obtain⟨rfl,rfl,rfl,rfl⟩:=h;refine⟨by simp,⟨d,by simp,_,_,_,hp1⟩,λd' hd=>?_,λe' he=>?_,by simp[hp1]⟩
   ·simp at hd;subst hd;exact⟨_,e,_,_,hp1,by simp,λ_ h=>h,λ_ h=>h⟩
   ·simp at he;subst he;exact⟨d,by simp,_,_,_,hp1⟩
  ·cases h
 |d::d2::r,n,cu,fz,dd,h=>by
  simp only[m9]at h;split at h
  ·rename_i n1 e fz1 dd1 n2 u fz2 dd2 hp1 hp2;simp only[Nz,Ov]at h;obtain⟨rfl,rfl,rfl,rfl⟩:=h;obtain⟨_,_,a1,a2,a3⟩:=m8 (ds:=d2::r) hp2;refine⟨by simp,⟨d,by simp,_,_,_,hp1⟩,λd' hd=>?_,λe' he=>?_,?_⟩
   ·rcases NO.1 hd with rfl|hd
    ·exact⟨_,e,_,_,hp1,by simp,λi hi=>by simp[hi],λi hi=>by simp[hi]⟩
    ·obtain⟨n',e',f',d',b1,b2,b3,b4⟩:=a1 d' hd;exact⟨n',e',f',d',b1,by simp[b2],λi hi=>by simp[b3 i hi],λi hi=>by simp[b4 i hi]⟩
   ·rcases NO.1 he with rfl|he
    ·exact⟨d,by simp,_,_,_,hp1⟩
    ·obtain⟨d',b1,b2⟩:=a2 e' he;exact⟨d',NW _ b1,b2⟩
   ·rw[OP,hp1,<- a3]
  ·cases h
theorem tZ {α β:Type}{f:α->List β}:∀{l:List α},(l.flatMap f).Nodup->∀a∈l,∀b∈l,∀x,x∈f a->x∈f b->a=b
 |[],_,a,ha,_,_,_,_,_=>by cases ha
 |c::l,h,a,ha,b,hb,x,hxa,hxb=>by
  rw[OP,PS]at h;obtain⟨_,h2,h3⟩:=h;rcases NO.1 ha with ha|ha<;>rcases NO.1 hb with hb|hb
  ·exact ha.trans hb.symm
  ·exact(h3 x (ha ▸ hxa) x (Oe.2 ⟨b,hb,hxb⟩) rfl).elim
  ·exact(h3 x (hb ▸ hxb) x (Oe.2 ⟨a,ha,hxa⟩) rfl).elim
  ·exact tZ h2 a ha b hb x hxa hxb
section
variable {P:Program} {A:Ann} {fid:Nat} {te0:TE} {w0:World} {M:MS} {c:Cx} {ρ:Operand->AV} {r:Operand->Value} {hp:Nat->Option Obj} {o:Oper} {v:AV} {u:Upd}
theorem xG (hm:Mem w0 M c)(hM:Man A te0 w0 M c):∀(dd:List Nat),(∀id∈dd,∃o0,c.hp id=some o0/\∀t off m k (xs:List k.T) g p,o0≠ .col t off m k xs g p) ->
  ∃c2,c2.w=c.w/\c2.S=c.S/\c2.β=c.β/\c2.te=c.te/\c2.hp=hpU (nC dd) c.hp/\Mem w0 M c2/\Ext c c2/\Man A te0 w0 M c2/\∀j b,Live c2 j b->j ∉ dd/\Live c j b
 |[],_=>⟨c,rfl,rfl,rfl,rfl,rfl,hm,Ext.refl c,hM,λj b h=>⟨by simp,h⟩⟩
 |id::r,h=>by
  obtain⟨c2,e1,e2,e3,e4,e5,e6,e7,e8,e9⟩:=xG hm hM r (λi hi=>h i (by simp[hi]));have hid:∃o0,c2.hp id=some o0/\∀t off m k (xs:List k.T) g p,o0≠ .col t off m k xs g p:=by
   obtain⟨o0,q1,q2⟩:=h id (by simp);rw[e5];unfold hpU;rw[ga];split
   ·rename_i o' ho';split at ho'
    ·cases ho';exact⟨_,rfl,λ_ _ _ _ _ _ _ q=>by cases q⟩
    ·cases ho'
   ·exact⟨o0,q1,q2⟩
  obtain⟨o0,q1,q2⟩:=hid;obtain⟨k1,k2,k3,k4⟩:=BW e6 e8 q1 q2;refine⟨c2.turn id c2.w c2.S (c2.β id) (.box []),e1,e2,?_,e4,?_,k1,e7.trans k2,k3,λj b hl=>?_⟩
  ·rw[<- e3];funext j;simp only[Cx.turn];split
   ·rename_i q;rw[q]
   ·rfl
  ·show upd c2.hp id (.box [])=hpU ((id,.box [])::nC r) c.hp;rw[bO,e5]
  ·obtain⟨y1,y2⟩:=k4 j b hl;obtain⟨y3,y4⟩:=e9 j b y2;exact⟨by simp only[NO,not_or];exact⟨y1,y3⟩,y4⟩
theorem GZ (m:Mode)(k:K):0<csz m k:=by
 unfold csz;split
 ·exact ln _
 ·omega
theorem zl {α:Type}{l:List α}{off:Nat}{a:α}(h:(l.drop off).take 1=[a]):l[off]?=some a:=by
 have:((l.drop off).take 1)[0]?=some a:=by rw[h];rfl
 rw[Ol,NI (by omega),OQ]at this;simpa using this
theorem na:∀{u:Upd} {id:Nat} {o:Obj},hget u id=some o->(id,o)∈u
 |[],_,_,h=>by cases h
 |(j,q)::r,id,o,h=>by
  simp only[hget]at h;cases hb:Nat.beq j id with
  |true=>
   rw[hb]at h;have:=NB hb;simp only[NH,Nz]at h;subst this;subst h;simp
  |false=>rw[hb]at h;exact NW _ (na h)
theorem rl:∀{u:Upd} {id:Nat} {o:Obj},(id,o)∈u->∃o',hget u id=some o'
 |[],_,_,h=>by cases h
 |(j,q)::r,id,o,h=>by
  simp only[hget];cases hb:Nat.beq j id with
  |true=>exact⟨q,rfl⟩
  |false=>
   rcases NO.1 h with h|h
   ·cases h;simp at hb
   ·exact rl h
theorem Ft (hm:Mem w0 M c)(hM:Man A te0 w0 M c)(hh:∀id o,hp id=some o->c.hp id=some o){t:Nat}{T:TypeId}{cs:List S}{vx:Value}(hx:RepV c (.val true cs) vx)(h:xy hp t cs (A.man t)=.okm true v u):
  cG A te0 w0 M c (.ok (.value (.pointer (some ⟨c.w.heap.size,0,none⟩))) (bY c.w (.cells vx.cells T (0,0)))) v u:=by
 unfold xy at h;split at h
 ·rename_i n cu fz dd hparts;cases hd:dupF dd with
  |false=>rw[hd]at h;cases h
  |true=>
   rw[hd]at h;simp only[NH]at h;split at h
   ·rename_i uf huf;simp only[Out.okm.injEq,Oh]at h;obtain⟨rfl,rfl⟩:=h;obtain⟨hne,⟨d0,hd0,e0,fz0,dd0,hq0⟩,hp1',hp2',hdd⟩:=m8 hparts;have hnd:=oQ hd;have hlen:∀d n' e fz' dd',fB hp t cs d=some (n',e,fz',dd')->n'=n:=by
     intro d n' e fz' dd' q;obtain⟨xs,g,x,r1,r2,_⟩:=cA q;obtain⟨xs0,g0,x0,s1,s2,_⟩:=cA hq0;have h1:=hM.r.dom _ _ _ _ _ _ _ _ (hh _ _ r1);have h2:=hM.r.dom _ _ _ _ _ _ _ _ (hh _ _ s1);rcases PF n' n with q|q|q
     ·have:=(h1 n').2 ((h2 n').1 (by omega));omega
     ·exact q
     ·have:=(h2 n).2 ((h1 n).1 (by omega));omega
    have hp1:∀d∈A.man t,∃e fz' dd',fB hp t cs d=some (n,e,fz',dd')/\e∈cu/\(∀i∈fz',i∈fz)/\∀i∈dd',i∈dd:=by
     intro d hd;obtain⟨n',e,fz',dd',q1,q2⟩:=hp1' d hd;have:=hlen _ _ _ _ _ q1;subst this;exact⟨e,fz',dd',q1,q2⟩
    have hp2:∀e∈cu,∃d∈A.man t,∃fz' dd',fB hp t cs d=some (n,e,fz',dd'):=by
     intro e he;obtain⟨d,hd,n',fz',dd',q1⟩:=hp2' e he;have:=hlen _ _ _ _ _ q1;subst this;exact⟨d,hd,fz',dd',q1⟩
    clear hlen;obtain⟨c1,f1,f2,m1,x1,p1,p2,M1,ceq⟩:=Gg hm hM hh huf
    -- the cells
    have hl:=bZ hx;have hlen:=hl.length
    -- maps that are given away
    have hmaps:∀id∈dd,∃e,hp id=some (.mp (.ref e) []):=by
     intro id hid;rw[hdd]at hid;obtain⟨d,hd1,hd2⟩:=Oe.1 hid;obtain⟨e,fz',dd',q1,_⟩:=hp1 d hd1;rw[q1]at hd2;simp only at hd2;obtain⟨xs,g,x,_,_,_,q2⟩:=cA q1;exact q2.dead id hd2
    have hrowhp:∀id o',c.hp id=some o'->(∀k xs gen hist frz,o'≠ .row k xs gen hist frz)->c1.hp id=some o':=by
     intro id o' ho hnr;rw[p1];unfold hpU;cases hg:hget uf id with
     |none=>exact ho
     |some o2=>
      obtain⟨k,xs,gen,hist,frz,z1,_⟩:=iE huf hg;rw[hh _ _ z1]at ho;cases ho;exact(hnr _ _ _ _ _ rfl).elim
    obtain⟨c2,g1,g2,g3,g4,g5,m2,x2,M2,l2⟩:=xG m1 M1 dd (λid hid=>by
     obtain⟨e,q⟩:=hmaps id hid;exact⟨_,hrowhp id _ (hh _ _ q) (λ_ _ _ _ _ q=>by cases q),λ_ _ _ _ _ _ _ q=>by cases q⟩)
    have hx2:=(x1.trans x2).repV hx;have hl2:=bZ hx2;have hw2:c2.w=c.w:=g1.trans f1
    -- columns stand as they were
    have hcol2:∀{cid t' off m k} {xs:List (K.T k)} {g p},c.hp cid=some (.col t' off m k xs g p)->c2.hp cid=some (.col t' off m k xs g p):=by
     intro cid t' off m k xs g p q;rw[g5];unfold hpU;rw[ga];split
     ·rename_i o2 ho2;split at ho2
      ·rename_i hmem;obtain⟨e,q'⟩:=hmaps cid hmem;rw[hh _ _ q']at q;cases q
      ·cases ho2
     ·exact hrowhp _ _ q (λ_ _ _ _ _ q=>by cases q)
    let F:Nat->Option Nat:=λcid=>match cs[cid-(1048576+t*64)]? with|some (.mp id)=>c.β id|_=>none
    let G:Nat->Value:=λcid=>vx.cells.toList.getD (cid-(1048576+t*64)) undef
    have hcid:∀off,aX t off-(1048576+t*64)=off:=λoff=>by unfold aX;omega
    have hF:∀d∈A.man t,d.2.1≠ .dat->∀b',F (aX t d.1)=some b'->∃id e,cs[d.1]?=some (.mp id)/\hp id=some (.mp (.ref e) [])/\c.β id=some b'/\id∈dd/\id∈(match fB hp t cs d with|some (_,_,_,l)=>l|none=>[]):=by
     intro d hd1 hmd b' hb';obtain⟨e,fz',dd',q1,_,_,q3⟩:=hp1 d hd1;obtain⟨xs,g,x,_,_,_,q2⟩:=cA q1;rw[q1];obtain⟨off,m,k⟩:=d;have hmd:m≠ .dat:=hmd;simp only at q2;simp only[F,hcid]at hb';unfold Ba at q2;split at q2
     ·exact(hmd rfl).elim
     ·rw[zl q2.1]at hb';cases hb'
     ·obtain⟨id,r1,r2,_,r3⟩:=q2;rw[zl r1]at hb';exact⟨id,_,zl r1,r2,hb',q3 id (by rw[r3];simp),by rw[r3];simp⟩
     ·exact q2.elim
    have hnb:eE A w0 M c2 t n vx.cells T F G (hpU cu c2.hp):=by
     refine⟨hne,λd hd1=>?_,λid hid=>?_,λx hxm=>LR.ones hl x hxm,λd hd1=>?_,λd hd1 hmd b' hb'=>?_,λd hd1 d' hd2 hmd hmd' b' hb' hb2=>?_⟩
     ·-- a column
      obtain⟨e,fz',dd',q1,q2,q3,q4⟩:=hp1 d hd1;obtain⟨xs,g,x,r1,r2,r3,r4⟩:=cA q1;subst r3;refine⟨xs,g,x,hcol2 (hh _ _ r1),r2,?_,?_⟩
      ·unfold hpU;obtain⟨o',ho'⟩:=rl q2;rw[ho'];obtain⟨d2,y1,fz2,dd2,y2⟩:=hp2 _ (na ho');obtain⟨xs2,g2',x2',z1,z2,z3,z4⟩:=cA y2;have hd2:=(hM.r.lay t).1 _ y1;have hd1':=(hM.r.lay t).1 _ hd1;have heq:d2=d:=by
        have h3:aX t d.1=aX t d2.1:=by
         have:=congrArg Prod.fst z3;exact this
        have h4:d2.1=d.1:=by unfold aX at h3;omega
        rcases(hM.r.lay t).2 _ y1 _ hd1 with e|e|e
        ·exact e
        ·have:0<csz d2.2.1 d2.2.2:=GZ _ _;omega
        ·have:0<csz d.2.1 d.2.2:=GZ _ _;omega
       subst heq;rw[q1]at y2;simp only[Nz,Ov,Oh]at y2;rw[<- y2.1]
      ·-- what is in it
       have hbox:∀b arr,(c2.te.tnew A t n c2.w.heap.size F G).ι t n=some b->Blk (bY c2.w (.cells vx.cells T (0,0))) b arr->arr=vx.cells:=by
        intro b arr hb hbk;simp[TE.tnew]at hb;subst hb;exact hbk.uniqM (cB c2.w vx.cells T).blk
       have hgrew:Grew c2.w (bY c2.w (.cells vx.cells T (0,0))):=cI _ _;have htle:TLe c2.te (c2.te.tnew A t n c2.w.heap.size F G):=by
        refine⟨rfl,λt' i b hb=>?_⟩;simp only[TE.tnew];split
        ·rename_i qq;obtain⟨rfl,rfl⟩:=qq;have:=(M2.r.dom _ _ _ _ _ _ _ _ (hcol2 (hh _ _ r1)) i).2 (by rw[hb];rfl);omega
        ·exact hb
       obtain⟨off,m,k⟩:=d;simp only at r4 ⊢;unfold Ba at r4;split at r4
       ·-- a datum
        intro b arr hb hbk;have:=hbox b arr hb hbk;subst this;obtain⟨y1,y2,y3⟩:=r4;have hsub:∃vs,LR (RepS c) ((cs.drop off).take k.size) vs/\∀(j:Nat) u,vs[j]?=some u->vx.cells.toList[off+j]?=some u:=by
         refine LR.sub hl (o:=off) λj s hs=>?_
         rw[Ol]at hs;split at hs
         ·rw[OQ]at hs;exact hs
         ·cases hs
        obtain⟨vs,s1,s2⟩:=hsub;refine⟨vs,?_,λj u hu=>by rw[<- NR];exact s2 j u hu⟩;have hrep:RepT c.te c.w c1.S k x vs:=dV hm hh x1.sub (λj hj=>p2 j (q3 j (by rw[y2];exact hj))) s1 y1;rw[<- x1.te,<- g4]at hrep;refine RepT.move htle (λb' hb'=>?_) (λb' hb'=>by rw[g2];exact hb') hrep;rw[<- hw2];exact hgrew.2.2.2.2 b' (m2.below b' (by rw[g2];exact hb'))
       ·-- nothing yet
        obtain⟨y1,y2,y3⟩:=r4;subst y2;have hcell:=zl y1;obtain⟨v1,z1,z2⟩:=hl.get _ _ hcell;have hFn:F (aX t off)=none:=by simp only[F,hcid];rw[hcell]
        have hGn:G (aX t off)=.slice none 0 0:=by
         simp only[G,hcid];rw[NP,z1];exact z2
        rw[hFn,hGn];refine⟨⟨rfl,rfl⟩,λ_ b arr hb hbk=>?_⟩;rw[hbox b arr hb hbk,<- NR,z1,show v1=_ from z2]
       ·-- a map of its own
        obtain⟨id,y1,y2,y3,y4⟩:=r4;subst y3;have hcell:=zl y1;obtain⟨v1,z1,z2⟩:=hl.get _ _ hcell;have hidc:=hh _ _ y2;obtain⟨_,ob,t1,t2⟩:=z2;rw[hidc]at t1;cases t1;obtain⟨b',t3,rfl⟩:=t2 rfl;obtain⟨b2,ents,clock,t4,t5,t6⟩:=hm.obj id _ hidc;rw[t3]at t4;cases t4;have hents:ents=#[]:=by
         have:=t6.length;apply O5;exact Qp this.symm
        subst hents;have hFn:F (aX t off)=some b':=by simp only[F,hcid];rw[hcell];exact t3
        have hGn:G (aX t off)=.map (some b'):=by
         simp only[G,hcid];rw[NP,z1];rfl
        rw[hFn,hGn];refine⟨b',#[],clock,rfl,rfl,?_,⟨trivial,MapKept.stamped_empty _⟩,λb arr hb hbk=>?_⟩
        ·rw[hgrew.2.2.2.2 b' (by rw[hw2];exact bE t5),hw2];exact t5
        ·rw[hbox b arr hb hbk,<- NR,z1]
       ·exact r4.elim
     ·-- other names
      unfold hpU;cases hg:hget cu id with
      |none=>rfl
      |some o2=>
       obtain⟨d2,y1,fz2,dd2,y2⟩:=hp2 _ (na hg);obtain⟨xs2,g2',x2',z1,z2,z3,z4⟩:=cA y2;have:id=aX t d2.1:=congrArg Prod.fst z3;rw[cf.2 ⟨d2,y1,this⟩]at hid;cases hid
     ·-- room
      obtain⟨e,fz',dd',q1,q2,q3,q4⟩:=hp1 d hd1;obtain⟨xs,g,x,r1,r2,r3,r4⟩:=cA q1;rw[<- O7,<- hlen];obtain⟨off,m,k⟩:=d;simp only at r4 ⊢;unfold Ba at r4;split at r4
      ·obtain⟨y1,y2,y3⟩:=r4;have hsub:∃vs,LR (RepS c) ((cs.drop off).take k.size) vs/\∀(j:Nat) u,vs[j]?=some u->vx.cells.toList[off+j]?=some u:=by
        refine LR.sub hl (o:=off) λj s hs=>?_
        rw[Ol]at hs;split at hs
        ·rw[OQ]at hs;exact hs
        ·cases hs
       obtain⟨vs,s1,s2⟩:=hsub;have hrep:RepT c.te c.w c1.S k x vs:=dV hm hh x1.sub (λj hj=>p2 j (q3 j (by rw[y2];exact hj))) s1 y1;have:=RepT.len hrep;have h1:=s1.length;have h2:=ln k;simp only[OA,OT]at h1;simp only[csz];omega
      ·have:=(NJ.1 (zl r4.1)).1;simp only[csz];omega
      ·obtain⟨id,y1,_⟩:=r4;have:=(NJ.1 (zl y1)).1;simp only[csz];omega
      ·exact r4.elim
     ·-- a map's block
      obtain⟨id,e,y1,y2,y3,y4,_⟩:=hF d hd1 hmd b' hb';have hidc:=hh _ _ y2;have hlv:Live c id b':=⟨y3,_,hidc,rfl⟩
      have hid1:=hrowhp id _ hidc (λ_ _ _ _ _ q=>by cases q);have hlv1:Live c1 id b':=⟨by rw[f2];exact y3,_,hid1,rfl⟩
      obtain⟨z1,z2,z3⟩:=m1.live id b' hlv1;refine⟨by rw[g1];exact z1,by rw[g2];exact z2,λj hj=>?_,λl hl=>?_,z3.imp (λq=>q) .inl⟩
      ·obtain⟨s1,s2⟩:=l2 j b' hj;have:=m1.one _ _ _ s2 hlv1;subst this;exact s1 y4
      ·have hl':OwnX c1 l b':=by
        have hback:∀{cid t' off m k} {xs:List (K.T k)} {g p},c2.hp cid=some (.col t' off m k xs g p)->c1.hp cid=some (.col t' off m k xs g p):=by
         intro cid t' off m k xs g p q;rw[g5]at q;unfold hpU at q;rw[ga]at q;by_cases hmem:cid∈dd
         ·rw[NI hmem]at q;cases q
         ·rw[ND hmem]at q;exact q
        cases l with
        |man t3 i3=>
         obtain⟨⟨c3,off3,m3,k3,xs3,g3',p3,q⟩,q'⟩:=hl;exact⟨⟨c3,off3,m3,k3,xs3,g3',p3,hback q⟩,by rw[<- g4];exact q'⟩
        |own c3 i3=>
         obtain⟨⟨t3,off3,m3,k3,xs3,g3',p3,q,qq⟩,q'⟩:=hl;exact⟨⟨t3,off3,m3,k3,xs3,g3',p3,hback q,qq⟩,by rw[<- g4];exact q'⟩
       exact(M1.r.sep l b' hl').2.2 id hlv1
     ·-- one map for each
      obtain⟨id,e,y1,y2,y3,y4,y5⟩:=hF d hd1 hmd b' hb';obtain⟨id',e',y1',y2',y3',y4',y5'⟩:=hF d' hd2 hmd' b' hb2;have:=hm.one id id' b' ⟨y3,_,hh _ _ y2,rfl⟩ ⟨y3',_,hh _ _ y2',rfl⟩;subst this;exact tZ (hdd ▸ hnd) d hd1 d' hd2 id y5 y5'
    refine cG.after (u:=cu++nC dd) x1 p1 ?_ |> λq=>by rw[<- N7];exact q
    refine cG.after (u:=cu) x2 g5 ?_;refine⟨.value (.pointer (some ⟨c.w.heap.size,0,none⟩)),c2.bnew A t n vx.cells T F G (hpU cu c2.hp),?_,(hnb.turns m2 M2).mem m2,(hnb.turns m2 M2).ext m2,rfl,hnb.man m2 M2,.inl ⟨_,rfl,aB ?_⟩⟩
    ·show _=Result.ok _ (bY c2.w (.cells vx.cells T (0,0)));rw[hw2]
    ·exact⟨c2.w.heap.size,by simp[Cx.bnew,TE.tnew],by rw[hw2]⟩
   ·cases h
 ·cases h
theorem I2 (hm:Mem w0 M c)(hM:Man A te0 w0 M c)(hh:∀id o,hp id=some o->c.hp id=some o)(hr:∀x,RepV c (ρ x) (r x))(hmo:mOp o.op=true)(h:core P A fid ρ hp o=.okm true v u):
  cG A te0 w0 M c ((execOp r o).run P c.w) v u:=by
 cases ho:o.op with
 |store t a x=>
  simp only[core,ho]at h;simp only[execOp,ho];split at h
  ·revert h;generalize Nat.beq _ _=q;cases q with
   |false=>simp
   |true=>
    simp only[NH];intro h;split at h
    ·revert h;generalize (_&&_&&_)=q;cases q with
     |false=>simp
     |true=>simp only[NH];intro h;split at h<;>cases h
    ·revert h;generalize (_&&_)=q;cases q with
     |false=>simp
     |true=>
      simp only[NH];intro h;split at h
      ·split at h<;>cases h
      ·cases h
    ·cases h
  ·rename_i t' i off gg new n hsl ex hs;cases hb:Nat.beq new.length n with
   |false=>rw[hb]at h;cases h
   |true=>
    rw[hb]at h;have hx:=hr x;rw[ex]at hx;exact AX hm hM hh (aF hr hsl) hx hs (NB hb) h
  ·cases h
 |box e x=>
  simp only[core,ho]at h;simp only[execOp,ho];split at h
  ·split at h<;>cases h
  ·rename_i d dr hman;split at h
   ·rename_i cs hcs;rw[<- hman]at h;have hx:=hr x;rw[hcs]at hx;have:=Ft (T:=e) hm hM hh hx h;have e1:((do pure (Next.value (<- Instr.box e (r x))):Sem Next).run P c.w)=.ok (.value (.pointer (some ⟨c.w.heap.size,0,none⟩))) (bY c.w (.cells (r x).cells e (0,0))):=by
     refine aM ?_;unfold Instr.box;rw[run_ok (nR e (r x))];rfl
    rw[e1];exact this
   ·cases h
 |mapUpdate t x ix y=>exact m6 hm hM hh hr (.inl ho) h
 |insert t x ix y=>exact m6 hm hM hh hr (.inr ho) h
 |call cc=>simp[core,ho]at h
 |_=>rw[ho]at hmo;cases hmo
end
end Go.Eng
namespace Go.Eng
open Go.RowKit
structure OkAt (A:Ann)(te0:TE)(Gl:Nat->Option Go.Obj)(w0:World)(M:MS)(n lo:Nat)(a0:Array Value)(env:List (Nat×AV))(hp:Nat->Option Obj)(a:Act)(c:Cx):Prop where
 te:c.te.te=A.te
 hp:c.hp=hp
 mem:Mem w0 M c
 regs:Regs c n env a
 glob:Glob Gl c.S c.w
 pin:∀j,j<lo->a.tmps.getD j undef=a0.getD j undef
 man:Man A te0 w0 M c
def Ok (A:Ann)(te0:TE)(Gl:Nat->Option Go.Obj)(w0:World)(M:MS)(n lo:Nat)(a0:Array Value)(σ:St)(a:Act)(w:World):Prop:=∃c,c.w=w/\OkAt A te0 Gl w0 M n lo a0 σ.env (hget σ.heap) a c
theorem rn (h:List (Nat×Obj))(u:Upd):hget (hput h u)=hpU u (hget h):=by
 funext id;unfold hput hpU;exact cD u h id
theorem Glob.ext {Gl:Nat->Option Go.Obj}{c c':Cx}(h:Glob Gl c.S c.w)(he:ExtM c c'):Glob Gl c'.S c'.w:=λb o hb=>⟨he.sub b (h b o hb).1,(he.stab b (h b o hb).1).trans (h b o hb).2⟩
theorem kF (t:Nat)(v:AV)(e:List (Nat×AV))(u:Nat):look ((t,v)::e) u=if t=u then v else look e u:=by
 simp only[look];by_cases h:t=u
 ·subst h;simp
 ·have:Nat.beq t u=false:=by
   cases hq:Nat.beq t u with
   |true=>exact(h (NB hq)).elim
   |false=>rfl
  rw[this,ND h];rfl
theorem HX (a:Act)(d:Nat)(v:Value)(t:Nat)(hd:d<a.tmps.size):(a.put (some d) v).tmps.getD t undef=if d=t then v else a.tmps.getD t undef:=by
 simp only[Act.put,N2];by_cases h:d=t
 ·subst h;simp[hd]
 ·rw[ND h,Ou h]
theorem Regs.put {c:Cx}{n:Nat}{env:List (Nat×AV)}{a:Act}(h:Regs c n env a){dst:Option Nat}{v:AV}{v':Value}(hd:∀d,dst=some d->d<n)(hv:RepV c v v'):Regs c n (Eng.put env dst v) (a.put dst v'):=by
 cases dst with
 |none=>exact h
 |some d=>
  have hd:=hd d rfl;refine⟨by simp[Act.put,h.size],h.defers,λt=>?_⟩;rw[HX a d v' t (by rw[h.size];exact hd)];show RepV c (look ((d,v)::env) t) _;rw[kF];split
  ·exact hv
  ·exact h.rep t
theorem De {ids:List Nat}{h:List (Nat×Obj)}{id:Nat}{o:Obj}(hr:ka ids h id=some o):hget h id=some o:=by
 unfold ka at hr;cases hc:ids.contains id with
 |true=>rw[hc]at hr;exact hr
 |false=>rw[hc]at hr;cases hr
theorem EO {A:Ann}{ev:Operand->AV}{hl:List (Nat×Obj)}{o:Oper}{d:Nat}(hd:o.dst=some d)(h:ka (idsE A o ev) hl d=none):hget hl d=none:=by
 unfold ka at h;have:(idsE A o ev).contains d=true:=by
  rw[OL];simp[idsE,hd]
 rw[this]at h;exact h
theorem Kq {c:Cx}{n:Nat}{env:List (Nat×AV)}{a:Act}(h:Regs c n env a)(o:Oper)(x:Operand):RepV c (evO env o x) (a.eval x):=by
 cases x with
 |tmp t=>
  show RepV c (bif(tJ o.op.operands.toList).contains t then look env t else .undef) _;cases (tJ o.op.operands.toList).contains t with
  |true=>exact h.rep t
  |false=>trivial
 |const v=>exact xi c v
 |global g=>trivial
 |func f=>exact⟨_,rfl,rfl⟩
theorem CP {n lo:Nat}{o:Oper}(h:pJ n lo o=true):∀d,o.dst=some d->d<n/\lo<=d:=by
 intro d hd;unfold pJ at h;rw[hd]at h;simp only[NM]at h;exact⟨N3 h.1,N3 h.2⟩
theorem zH {n lo:Nat}{o:Oper}{a:Act}{a0:Array Value}(h:pJ n lo o=true)(hp:∀j,j<lo->a.tmps.getD j undef=a0.getD j undef)(v:Value):∀j,j<lo->(a.put o.dst v).tmps.getD j undef=a0.getD j undef:=by
 intro j hj;rw[<- hp j hj];cases hq:o.dst with
 |none=>rfl
 |some d=>
  have:=(CP h d hq).2;simp only[Act.put,N2];rw[Ou (by omega)]
section
variable {P:Program} {A:Ann} {te0:TE} {fid:Nat} {Gl:Nat->Option Go.Obj} {C:ic} {w0:World} {M:MS} {n lo:Nat} {a0:Array Value} {R:Type}
theorem nV {σ:St}{o:Oper}{a:Act}{c:Cx}{v:AV}{u:Upd}{c':Cx}{v':Value}(hd:pJ n lo o=true)(h:OkAt A te0 Gl w0 M n lo a0 σ.env (hget σ.heap) a c)(hm:Mem w0 M c')(he:ExtM c c')(hM:Man A te0 w0 M c')(hp:c'.hp=hpU u c.hp)(hv:RepV c' v v'):
  Ok A te0 Gl w0 M n lo a0 ⟨put σ.env o.dst v,hput σ.heap u⟩ (a.put o.dst v') c'.w:=by
 refine⟨c',rfl,he.te.1.trans h.te,?_,hm,?_,h.glob.ext he,zH hd h.pin v',hM⟩
 ·rw[hp,h.hp,rn]
 ·exact(he.regs h.regs).put (λd hd'=>(CP hd d hd').1) hv
theorem Gk {kt et:TypeId}(h:fmOk P kt et=true)(w:World):P.underlying kt=some (.int .i64)/\(zeroValue et).run P w=.ok .nilFunc w:=by
 unfold fmOk at h;split at h
 ·rename_i i h1 h2;split at h
  ·rename_i hz;refine⟨h1,?_⟩;unfold zeroValue;rw[run_ok (bK h2 w)];simp only[hz];rfl
  ·cases h
 ·cases h
theorem Gj {c:Cx}{K:AV->Upd->Option R}(n:Int):∀(es:List (Int×Nat×Nat))(l:List MapEntry)(i:Nat),LR (λ(e:Int×Nat×Nat)(m:MapEntry)=>m.key=.int .i64 e.1/\RepS c (.bm e.2.1 e.2.2) m.val) es l ->
  (Instr.findNow (.int .i64) (.int .i64 n) l i=some none/\sV K n es=K (.val false [.fn none]) []) \/
  ∃(j:Nat) (m:MapEntry) (e:Nat×Nat),Instr.findNow (.int .i64) (.int .i64 n) l i=some (some (i+j,m.val))/\RepS c (.bm (Prod.fst e) (Prod.snd e)) m.val/\sV K n es=K (.val false [.bm (Prod.fst e) (Prod.snd e)]) []
 |[],[],i,_=>.inl ⟨rfl,rfl⟩
 |e::es,m::l,i,h=>by
  obtain⟨⟨hk,hv⟩,hr⟩:=h;by_cases q:n=e.1
  ·refine .inr ⟨0,m,e.2,?_,hv,?_⟩
   ·simp only[Instr.findNow,hk,ca,q,PJ,Pz]
   ·unfold sV;rw[NK q];rfl
  ·have hne:(n==e.1)=false:=by rw[O6];exact q
   rcases Gj n es l (i+1) hr with⟨h1,h2⟩|⟨j,m',e',h1,h2,h3⟩
   ·refine .inl ⟨?_,?_⟩
    ·simp only[Instr.findNow,hk,ca,hne];exact h1
    ·unfold sV;rw[NF q];exact h2
   ·refine .inr ⟨j+1,m',e',?_,h2,?_⟩
    ·simp only[Instr.findNow,hk,ca,hne];rw[h1,show i+1+j=i+(j+1) by omega]
    ·unfold sV;rw[NF q];exact h3
 |[],_::_,_,h=>h.elim
 |_::_,[],_,h=>h.elim
theorem Bj (hC:j8 P A Gl C){σ:St}{o:Oper}{K:AV->Upd->Option R}{rr:R}{a:Act}{w:World}{next:Act->World->Prop}{Q:Exit->Act->World->Prop}
  (hs:wZ P A fid C σ o K=some rr) (hok:Ok A te0 Gl w0 M n lo a0 σ a w) (hd:pJ n lo o=true)
  (hn:∀v u v' w',K v u=some rr->Ok A te0 Gl w0 M n lo a0 ⟨put σ.env o.dst v,hput σ.heap u⟩ (a.put o.dst v') w'->next (a.put o.dst v') w'):o.wp P a w next Q:=by
 obtain⟨c,rfl,h⟩:=hok;have hh:∀id o',ka (idsE A o (evO σ.env o)) σ.heap id=some o'->c.hp id=some o':=λid o' hr=>by rw[h.hp];exact De hr
 have hf:∀d,o.dst=some d->ka (idsE A o (evO σ.env o)) σ.heap d=none->c.hp d=none:=λd hd' hr=>by rw[h.hp];exact EO hd' hr
 have hr:=Kq h.regs o;have hcv:∀v,a.eval (.const v)=v:=λ_=>rfl
 have fin:∀{v:AV} {u:Upd},cG A te0 w0 M c ((execOp a.eval o).run P c.w) v u->K v u=some rr->o.wp P a c.w next Q:=by
  rintro v u ⟨nv,c',e1,e2,e3,e4,e6,e5⟩ hk;unfold Oper.wp;rw[e1];rcases e5 with⟨v',rfl,hv⟩|⟨rfl,rfl⟩
  ·exact hn v u v' c'.w hk (nV hd h e2 e3 e6 e4 hv)
  ·exact hn .undef u undef c'.w hk (nV hd h e2 e3 e6 e4 trivial)
 have quiet:∀{v:AV} {v':Value},(execOp a.eval o).run P c.w=.ok (.value v') c.w->RepV c v v'->K v []=some rr->o.wp P a c.w next Q:=by
  intro v v' h1 h2 hk;exact fin ⟨_,c,h1,h.mem,ExtM.refl c,rfl,h.man,.inl ⟨v',rfl,h2⟩⟩ hk
 have okk:∀{q:Out},okK (mOp o.op) o.dst (ka (idsE A o (evO σ.env o)) σ.heap) K q=some rr->∃v u,K v u=some rr/\((q=.ok true v u/\jS o.dst (ka (idsE A o (evO σ.env o)) σ.heap) u=true)\/(q=.okm true v u/\mOp o.op=true)):=by
  intro q hq;unfold okK at hq;split at hq
  ·rename_i cb v u;cases hs:jS o.dst (ka (idsE A o (evO σ.env o)) σ.heap) u with
   |false=>rw[hs]at hq;cases hq
   |true=>
    rw[hs]at hq;cases cb with
    |true=>exact⟨v,u,hq,.inl ⟨rfl,hs⟩⟩
    |false=>cases hq
  ·rename_i cb v u;cases hmo:mOp o.op with
   |false=>rw[hmo]at hq;cases hq
   |true=>
    rw[hmo]at hq;cases cb with
    |true=>exact⟨v,u,hq,.inr ⟨rfl,rfl⟩⟩
    |false=>cases hq
  ·cases hq
 have corek:okK (mOp o.op) o.dst (ka (idsE A o (evO σ.env o)) σ.heap) K (core P A fid (evO σ.env o) (ka (idsE A o (evO σ.env o)) σ.heap) o)=some rr->o.wp P a c.w next Q:=by
  intro hq;obtain⟨v,u,e2,⟨e1,e3⟩|⟨e1,e3⟩⟩:=okk hq
  ·exact fin (aU.man h.mem h.man hh hf e3 (Lh h.mem.here h.man.r h.te hh hf hr hcv e1)) e2
  ·exact fin (I2 h.mem h.man hh hr e3 e1) e2
 have callk':∀{own mvs:List Bool} {cids:List Nat} {cb:Bool} {f:Nat} {ats:List TypeId} {avs:List AV} {vs:Array Value},LR (RepV c) avs vs.toList->(execOp a.eval o).run P c.w=(callFunc f vs).run P c.w ->
   sF C K (gX P (ka (idsE A o (evO σ.env o)) σ.heap) o.dst o.type own mvs cids cb f ats avs)=some rr->o.wp P a c.w next Q:=by
  intro own mvs cids cb f ats avs vs hlr hrun hq;cases hco:gX P (ka (idsE A o (evO σ.env o)) σ.heap) o.dst o.type own mvs cids cb f ats avs with
  |bad=>rw[hco]at hq;cases hq
  |ok b v u=>rw[hco]at hq;cases hq
  |okm b v u=>rw[hco]at hq;cases hq
  |call b sg f' as post=>
   rw[hco]at hq;simp only[sF]at hq;cases b with
   |false=>cases hq
   |true=>
    simp only[NH]at hq;cases hcr:C sg f' as with
    |none=>rw[hcr]at hq;cases hq
    |some r=>
     rw[hcr]at hq;simp only[O3]at hq;obtain⟨rfl,_,⟨fn,t1,t2,t3⟩,hcalls⟩:=D7 hC h.mem h.man h.te h.glob hh hf hlr hco hcr;unfold Oper.wp;rw[hrun,xd t1 t2 t3];show Calls P f' vs c.w _;refine hcalls.mono λe w'=>?_
     rintro⟨v',c',rfl,rfl,e2,e3,e4,e5,e6⟩;exact hn _ _ v' c'.w hq (nV hd h e2 e3 e6 e4 e5)
 have callk:∀{cc:Call} {own mvs:List Bool} {cids:List Nat} {cb:Bool} {f:Nat},(execOp a.eval o).run P c.w=(callFunc f (cc.args.map a.eval)).run P c.w ->
   sF C K (gX P (ka (idsE A o (evO σ.env o)) σ.heap) o.dst o.type own mvs cids cb f cc.argTypes.toList (cc.args.toList.map (evO σ.env o)))=some rr->o.wp P a c.w next Q:=by
  intro cc own mvs cids cb f hrun hq;exact callk' (by rw[OO];exact xA _ hr) hrun hq
 unfold wZ Da at hs;split at hs
 ·-- pick
  rename_i x b d ho;split at hs
  ·rename_i q hq;have hx:a.eval x=.bool q:=aF hr hq;have hrun:(execOp a.eval o).run P c.w=.ok (.value (if q then a.eval b else a.eval d)) c.w:=by
    simp only[execOp,ho];rw[hx,run_ok (show(asBool (.bool q)).run P c.w=.ok q c.w from rfl)];rfl
   cases q with
   |true=>exact quiet hrun (hr b) hs
   |false=>exact quiet hrun (hr d) hs
  ·cases hs
 ·rename_i cc ho;split at hs
  ·rename_i b hb;obtain⟨v,u,e2,⟨e1,e3⟩|⟨e1,e3⟩⟩:=okk hs
   ·exact fin (aU.man h.mem h.man hh hf e3 (yU h.mem.here h.man.r hh hf hr ho hb e1)) e2
   ·exact fin (A0 h.mem h.man hh hr ho hb e1) e2
  ·rename_i f hb;refine callk (cc:=cc) ?_ hs;simp only[execOp,ho,resolve,hb];show((Deferred.ofValue (.func (.func f) #[] #[]) (cc.args.map a.eval)) >>= λd=>invoke d.target d.args).run P c.w=_;unfold Deferred.ofValue;simp only[];rw[run_pb];simp only[invoke];simp
  ·rename_i g _ hb;split at hs
   ·rename_i r hs2;have hg:=aF hr hs2;simp only[RepS]at hg;cases r with
    |none=>
     exfalso
     -- a call of nil is none
     cases hco:gX P (ka (idsE A o (evO σ.env o)) σ.heap) o.dst o.type [] [] [] (none:Option Nat).isSome ((none:Option Nat).getD 0) cc.argTypes.toList (cc.args.toList.map (evO σ.env o))with
     |bad=>rw[hco]at hs;cases hs
     |ok b v u=>rw[hco]at hs;cases hs
     |okm b v u=>rw[hco]at hs;cases hs
     |call b sg f' as post=>
      rw[hco]at hs;simp only[sF]at hs;have hb0:b=false:=by
       unfold gX at hco;split at hco
       ·dsimp only at hco;rename_i tup ks hs' cos' _ _ _;cases hcnd:(E6 [] ks&&Nat.ble (lf []) 1&&(Nat.beq (lf []) 0 || (fresh (ka (idsE A o (evO σ.env o)) σ.heap) o.dst).isSome)&&exOk (DU (cc.args.toList.map (evO σ.env o)) hs')&&hs'.all (λh=>disj h.excl h.frz)&&(tup == !(Nat.beq ks.length 1))&&dupF [])with
        |false=>rw[hcnd]at hco;cases hco
        |true=>
         rw[hcnd]at hco;simp only[NH]at hco;split at hco
         ·cases hco;rfl
         ·cases hco
       ·cases hco
      subst hb0;cases hs
    |some f=>
     refine callk (cc:=cc) ?_ hs;simp only[execOp,ho,resolve,hb];rw[hg];show((Deferred.ofValue (.func (.func f) #[] #[]) (cc.args.map a.eval)) >>= λd=>invoke d.target d.args).run P c.w=_;unfold Deferred.ofValue;simp only[];rw[run_pb];simp only[invoke];simp
   ·rename_i f k x hs2;have hg:=aF hr hs2;obtain⟨b,o',vs',g1,g2,g3,g4⟩:=hg;refine callk' (vs:=cc.args.map a.eval++#[.pointer (some ⟨b,o',none⟩)]) ?_ ?_ hs
    ·rw[Q4,OO];refine(xA _ hr).append ⟨⟨_,rfl,λs hs=>(by cases hs),b,o',vs',g1,by simp[aS],g3,g4⟩,trivial⟩
    ·simp only[execOp,ho,resolve,hb];rw[g2];show((Deferred.ofValue (.func (.func f) #[] #[.pointer (some ⟨b,o',none⟩)]) (cc.args.map a.eval)) >>= λd=>invoke d.target d.args).run P c.w=_;unfold Deferred.ofValue;simp only[];rw[run_pb];simp only[invoke];simp
   ·rename_i f id hs2;have hg:=aF hr hs2;obtain⟨p,hv,o',g1,g2⟩:=hg;split at hs
    rotate_left
    ·cases hs
    rename_i c0 cr hid;have hid':=hh _ _ hid;rw[hid']at g1;cases g1;obtain⟨b,q1,q2⟩:=g2 _ rfl (by simp);refine callk' (vs:=#[p]++cc.args.map a.eval) ?_ ?_ hs
    ·rw[Q4,OO];refine LR.append (l:=[_]) (m:=[_]) ⟨⟨_,rfl,?_⟩,trivial⟩ (xA _ hr);exact⟨by rw[q2];rfl,_,hid',(λs hs=>by cases hs),λcs e _=>(by cases e;exact⟨b,q1,by rw[q2];simp[aS],rfl,rfl⟩),λk xs gen hist frz e=>(by cases e)⟩
    ·simp only[execOp,ho,resolve,hb];rw[hv];show((Deferred.ofValue (.func (.func f) #[p] #[]) (cc.args.map a.eval)) >>= λd=>invoke d.target d.args).run P c.w=_;unfold Deferred.ofValue;simp only[];rw[run_pb];simp only[invoke];simp
   ·cases hs
  ·cases hs
 ·-- a key's function
  rename_i t x ix ho;split at hs
  ·rename_i id n hx hi;split at hs
   ·rename_i es kt et hid hu;cases hfm:fmOk P kt et with
    |false=>rw[hfm]at hs;cases hs
    |true=>
     rw[hfm]at hs;simp only[NH]at hs;obtain⟨hkt,z1⟩:=Gk hfm c.w;have hid':=hh _ _ hid;obtain⟨b,ents,clock,q1,q3,q4⟩:=h.mem.obj id _ hid';have hvx:a.eval x=.map (some b):=by
      obtain⟨_,oo,t1,t2⟩:=aF hr hx;rw[hid']at t1;cases t1;obtain⟨b2,y1,y2⟩:=t2 rfl;rw[q1]at y1;cases y1;exact y2
     obtain⟨q5,_⟩:=aF hr hi;have hck:=MapKept.run_checkKey (w:=c.w) (k:=.int .i64 n) hkt rfl ents.isEmpty 9999;have e0:(execOp a.eval o).run P c.w=((do pure (Next.value (<- Instr.lookup t (a.eval x) (a.eval ix) false)):Sem Next)).run P c.w:=by simp only[execOp,ho]
     rcases Gj (K:=K) n es ents.toList 0 q4 with⟨f1,f2⟩|⟨j,m,e,f1,f2,f3⟩
     ·rw[f2]at hs;refine quiet (v:=.val false [.fn none]) (v':=.nilFunc) ?_ (aB rfl) hs;rw[e0,hvx,q5];refine aM ?_;unfold Instr.lookup;rw[run_ok (run_underlying hu c.w)];simp only[];rw[run_ok (MapKept.run_getObj_map q3)];simp only[];rw[run_pb,run_ok hck,run_ok (MapKept.run_findKey hkt f1)];simp only[];rw[run_ok z1];rfl
     ·rw[f3]at hs;refine quiet (v:=.val false [.bm e.1 e.2]) (v':=m.val) ?_ (aB f2) hs;rw[e0,hvx,q5];refine aM ?_;unfold Instr.lookup;rw[run_ok (run_underlying hu c.w)];simp only[];rw[run_ok (MapKept.run_getObj_map q3)];simp only[];rw[run_pb,run_ok hck,run_ok (MapKept.run_findKey hkt f1)];rfl
   ·exact corek hs
  ·exact corek hs
 ·exact corek hs
theorem By (c:Cx):RepV c (.tup []) undef:=⟨#[],rfl,trivial⟩
theorem xT {all:Array Oper}{σ:St}{o:Oper}{K:Bool->List (Nat×AV)->Option R}{rr:R}{a:Act}{w:World}(hs:rS all σ o K=some rr)(hok:Ok A te0 Gl w0 M n lo a0 σ a w):
  ∃want env,K want env=some rr/\Region.wanted o (yielded all a.tmps)=want/\Ok A te0 Gl w0 M n lo a0 ⟨env,σ.heap⟩ a w:=by
 unfold rS at hs;split at hs
 ·rename_i hg;exact⟨true,σ.env,hs,by simp[Region.wanted,hg],hok⟩
 ·rename_i j want hg;split at hs
  ·cases hs
  ·rename_i t ht;split at hs
   ·rename_i b hb;obtain⟨c,rfl,h⟩:=hok;have hv:a.tmps.getD t undef=.bool b:=by
     have:=h.regs.rep t;rw[hb]at this;exact aT this
    have hlt:t<a.tmps.size:=by
     rcases Oy t a.tmps.size with q|q
     ·exact q
     ·rw[N2,Ow q]at hv;cases hv
    have hv':a.tmps[t]?=some (.bool b):=by
     rw[N2,OB hlt]at hv;rw[OB hlt];simpa using hv
    have hy:yielded all a.tmps j=some b:=by
     unfold yielded;rw[ht];simp only[O3,hv']
    have hreg:∀q:Bool,q=b->OkAt A te0 Gl w0 M n lo a0 ((t,.val false [.bool q])::σ.env) (hget σ.heap) a c:=by
     rintro q rfl;refine⟨h.te,h.hp,h.mem,⟨h.regs.size,h.regs.defers,λu=>?_⟩,h.glob,h.pin,h.man⟩;rw[kF];split
     ·rename_i e;subst e;rw[hv];exact aB rfl
     ·exact h.regs.rep u
    cases b with
    |true=>
     simp only[NH]at hs;refine⟨want,_,hs,?_,c,rfl,hreg true rfl⟩;simp only[Region.wanted,hg,hy];cases want<;>rfl
    |false=>
     simp only[NS]at hs;refine⟨!want,_,hs,?_,c,rfl,hreg false rfl⟩;simp only[Region.wanted,hg,hy];cases want<;>rfl
   ·rename_i hb;obtain⟨c,hcw,h⟩:=hok;refine⟨false,σ.env,hs,?_,c,hcw,h⟩;have hv:a.tmps.getD t undef=undef:=by
     have:=h.regs.rep t;rw[hb]at this;obtain⟨arr,e,hl⟩:=this;have:arr=#[]:=by
      have hn:=hl.length;apply O5;exact Qp hn.symm
     rw[e,this];rfl
    have hy:yielded all a.tmps j=none:=by
     unfold yielded;rw[ht];simp only[O3];cases hq:a.tmps[t]? with
     |none=>rfl
     |some v=>
      rw[N2,hq]at hv;simp at hv;subst hv;rfl
    simp only[Region.wanted,hg,hy];cases want<;>rfl
   ·cases hs
theorem xg (hC:j8 P A Gl C){all:Array Oper}{Q:Exit->Act->World->Prop}{K:St->Option R}{rr:R}(hK:∀σ a w,K σ=some rr->Ok A te0 Gl w0 M n lo a0 σ a w->Q .normal a w):
  ∀(l:List Oper) (is:List Nat) (σ:St) (a:Act) (w:World),l.length=is.length->(∀(j i:Nat),is[j]?=some i->all[i]?=l[j]?)->tS P A fid n lo C all l σ K=some rr->Ok A te0 Gl w0 M n lo a0 σ a w->wpOps P all Q is a w
 |[],[],σ,a,w,_,_,h,hok=>hK σ a w h hok
 |o::l,i::is,σ,a,w,hl,hi,h,hok=>by
  simp only[tS]at h;have ho:all[i]?=some o:=by have:=hi 0 i rfl;simpa using this
  cases hd:pJ n lo o with
  |false=>rw[hd]at h;cases h
  |true=>
   rw[hd]at h;simp only[NH]at h;obtain⟨want,env,h1,h2,h3⟩:=xT h hok;simp only[wpOps,ho,h2];have hrec:∀(σ:St) (a:Act) (w:World),tS P A fid n lo C all l σ K=some rr->Ok A te0 Gl w0 M n lo a0 σ a w->wpOps P all Q is a w:=
    λσ a w=>xg hC hK l is σ a w (by simpa using hl) (λj i hj=>by have:=hi (j+1) i (by simpa using hj);simpa using this)
   cases want with
   |true=>
    simp only[NH]at h1;simp only[O8];exact .inl (Bj hC h1 h3 hd λv u v' w' hk hok'=>hrec _ _ _ hk hok')
   |false=>
    simp only[NS]at h1;simp only[Od,OE];obtain⟨c,rfl,hc⟩:=h3;exact hrec _ _ _ h1 ⟨c,rfl,hc.te,hc.hp,hc.mem,hc.regs.put (λd hd'=>(CP hd d hd').1) (By _),hc.glob,zH hd hc.pin undef,hc.man⟩
 |[],_::_,_,_,_,hl,_,_,_=>by simp at hl
 |_::_,[],_,_,_,hl,_,_,_=>by simp at hl
end
end Go.Eng
namespace Go.Eng
open Go.RowKit
section
variable {P:Program} {A:Ann} {te0:TE} {fid:Nat} {Gl:Nat->Option Go.Obj} {C:ic} {w0:World} {M:MS} {n lo:Nat} {a0:Array Value} {R:Type}
theorem C9 {ev:Operand->AV}{hp:Nat->Option Obj}{o:Oper}{K:AV->Upd->Option R}{rr:R}(h:Da P A fid C ev hp o K=some rr):∃v u,Da P A fid C ev hp o (λv u=>some (v,u))=some (v,u)/\K v u=some rr:=by
 have okk:∀{mo:Bool} {d:Option Nat} {q:Out},okK mo d hp K q=some rr->∃v u,okK mo d hp (λv u=>some (v,u)) q=some (v,u)/\K v u=some rr:=by
  intro mo d q hq;cases q with
  |bad=>cases hq
  |call=>cases hq
  |ok c v u=>
   simp only[okK]at hq ⊢;cases hs:jS d hp u with
   |false=>rw[hs]at hq;cases hq
   |true=>
    rw[hs]at hq;cases c with
    |true=>exact⟨v,u,rfl,hq⟩
    |false=>cases hq
  |okm c v u=>
   simp only[okK]at hq ⊢;cases hs:(mo&&c)with
   |true=>rw[hs]at hq;exact⟨v,u,rfl,hq⟩
   |false=>rw[hs]at hq;cases hq
 have pickk:∀(n:Int) (es:List (Int×Nat×Nat)),sV K n es=some rr->∃v u,sV (λv u=>some (v,u)) n es=some (v,u)/\K v u=some rr:=by
  intro n es
  induction es with
  |nil=>intro hq;exact⟨_,_,rfl,hq⟩
  |cons e r ih=>
   intro hq;unfold sV at hq ⊢;cases hb:decide (n=e.1)with
   |true=>rw[hb]at hq;exact⟨_,_,rfl,hq⟩
   |false=>rw[hb]at hq;exact ih hq
 have callk:∀{q:Out},sF C K q=some rr->∃v u,sF C (λv u=>some (v,u)) q=some (v,u)/\K v u=some rr:=by
  intro q hq;cases q with
  |bad=>cases hq
  |ok=>cases hq
  |okm=>cases hq
  |call c sg f as post=>
   cases c with
   |false=>cases hq
   |true=>
    simp only[sF,NH]at hq ⊢;cases hc:C sg f as with
    |none=>rw[hc]at hq;cases hq
    |some r=>
     rw[hc]at hq;exact⟨_,_,rfl,hq⟩
 unfold Da at h ⊢;split at h
 ·split at h
  ·rename_i q _;cases q with
   |true=>exact⟨_,_,rfl,h⟩
   |false=>exact⟨_,_,rfl,h⟩
  ·cases h
 ·split at h
  ·exact okk h
  ·exact callk h
  ·split at h
   ·exact callk h
   ·exact callk h
   ·split at h
    ·exact callk h
    ·cases h
   ·cases h
  ·cases h
 ·split at h
  ·split at h
   ·rename_i es kt et _ _;cases hfm:fmOk P kt et with
    |false=>rw[hfm]at h;cases h
    |true=>rw[hfm]at h;exact pickk _ _ h
   ·exact okk h
  ·exact okk h
 ·exact okk h
structure Ev where
 want:Bool
 v:AV
 u:Upd
 log:Log
def tB (E:Nat->AV)(o:Oper):Operand->AV
 |.tmp t=>bif(tJ o.op.operands.toList).contains t then E t else .undef
 |.const v=>qN v
 |.func f=>.val false [.fn (some f)]
 |.global _=>.undef
theorem wF (env:List (Nat×AV))(o:Oper):evO env o=tB (look env) o:=by
 funext x;cases x<;>rfl
def xh (ids:List Nat)(H:Nat->Option Obj)(id:Nat):Option Obj:=bif ids.contains id then H id else none
theorem tT (ids:List Nat)(h:List (Nat×Obj)):ka ids h=xh ids (hget h):=rfl
def Ed (P:Program)(A:Ann)(fid:Nat)(C:ic)(all:Array Oper)(E:Nat->AV)(H:Nat->Option Obj)(o:Oper)(ev:Ev):Prop:=
 (match o.guard with
  |none=>ev.want=true
  |some (j,w)=>∃t,(all[j]?).bind (·.dst)=some t/\((∃b,E t=.val false [.bool b]/\ev.want=(b==w))\/(E t=.tup []/\ev.want=false))) /\
 (if ev.want=true then Da P A fid C (tB E o) (xh (idsE A o (tB E o)) H) o (λv u=>some (v,u))=some (ev.v,ev.u)/\ev.log=⟨idsE A o (tB E o),ev.u.map (·.1)⟩
  else ev.v=.tup []/\ev.u=[]/\ev.log=⟨[],[]⟩)
def putF (E:Nat->AV)(d:Option Nat)(v:AV):Nat->AV:=match d with|some t=>λx=>if t=x then v else E x|none=>E
theorem pZ (e:List (Nat×AV))(d:Option Nat)(v:AV):look (put e d v)=putF (look e) d v:=by
 cases d with
 |none=>rfl
 |some t=>funext x;exact kF t v e x
inductive Run (P:Program)(A:Ann)(fid:Nat)(C:ic)(all:Array Oper):List Oper->(Nat->AV)->(Nat->Option Obj)->List Ev->(Nat->AV)->(Nat->Option Obj)->Prop
 |nil (E H):Run P A fid C all [] E H [] E H
 |cons {o l E H ev evs E' H'}:Ed P A fid C all E H o ev->Run P A fid C all l (putF E o.dst ev.v) (hpU ev.u H) evs E' H'->Run P A fid C all (o::l) E H (ev::evs) E' H'
theorem xC (env:List (Nat×AV))(t:Nat)(v:AV)(h:look env t=v):look ((t,v)::env)=look env:=by
 funext x;rw[kF];split
 ·rename_i e;subst e;exact h.symm
 ·rfl
theorem lZ {all:Array Oper}{rr:R}:∀(l:List Oper)(lg:List Log)(σ:St)(K:List Log->St->Option R),jx P A fid n lo C all l lg σ K=some rr ->
  ∃evs σ',Run P A fid C all l (look σ.env) (hget σ.heap) evs (look σ'.env) (hget σ'.heap)/\(∀o∈l,pJ n lo o=true)/\K ((evs.map Ev.log).reverse++lg) σ'=some rr
 |[],lg,σ,K,h=>⟨[],σ,.nil _ _,by simp,by simpa[jx]using h⟩
 |o::l,lg,σ,K,h=>by
  simp only[jx]at h;cases hd:pJ n lo o with
  |false=>rw[hd]at h;cases h
  |true=>
   rw[hd]at h;simp only[NH]at h;have hgd:∃want env,look env=look σ.env/\(match o.guard with
     |none=>want=true
     |some (j,w)=>∃t,(all[j]?).bind (·.dst)=some t/\((∃b,look σ.env t=.val false [.bool b]/\want=(b==w))\/(look σ.env t=.tup []/\want=false))) /\
     (bif want then wZ P A fid C ⟨env,σ.heap⟩ o (λv u=>jx P A fid n lo C all l (Ij A ⟨env,σ.heap⟩ o u::lg) ⟨put env o.dst v,hput σ.heap u⟩ K)
      else jx P A fid n lo C all l (⟨[],[]⟩::lg) ⟨put env o.dst (.tup []),σ.heap⟩ K)=some rr:=by
    unfold rS at h;split at h
    ·rename_i hg;exact⟨true,σ.env,rfl,by simp[hg],h⟩
    ·rename_i j w hg;split at h
     ·cases h
     ·rename_i t ht;split at h
      ·rename_i b hb;cases b with
       |true=>exact⟨w,_,xC _ _ _ hb,by rw[hg];exact⟨t,ht,.inl ⟨true,hb,by cases w<;>rfl⟩⟩,h⟩
       |false=>exact⟨!w,_,xC _ _ _ hb,by rw[hg];exact⟨t,ht,.inl ⟨false,hb,by cases w<;>rfl⟩⟩,h⟩
      ·rename_i hb;exact⟨false,_,rfl,by rw[hg];exact⟨t,ht,.inr ⟨hb,rfl⟩⟩,h⟩
      ·cases h
   obtain⟨want,env,e1,e2,e3⟩:=hgd;cases want with
   |true=>
    simp only[NH]at e3;unfold wZ at e3;obtain⟨v,u,s1,s2⟩:=C9 e3;rw[wF,e1]at s1;rw[tT]at s1;obtain⟨evs,σ',q1,q2,q3⟩:=lZ l _ _ K s2;refine⟨⟨true,v,u,Ij A ⟨env,σ.heap⟩ o u⟩::evs,σ',.cons ⟨e2,?_⟩ ?_,?_,?_⟩
    ·simp only[O8];exact⟨s1,by simp only[Ij];rw[wF,e1]⟩
    ·simp only;rw[pZ,e1,rn]at q1;exact q1
    ·intro o' ho';rcases NO.1 ho' with rfl|ho'
     ·exact hd
     ·exact q2 o' ho'
    ·simpa using q3
   |false=>
    simp only[NS]at e3;obtain⟨evs,σ',q1,q2,q3⟩:=lZ l _ _ K e3;refine⟨⟨false,.tup [],[],⟨[],[]⟩⟩::evs,σ',.cons ⟨e2,?_⟩ ?_,?_,?_⟩
    ·simp
    ·simp only;rw[pZ,e1]at q1;exact q1
    ·intro o' ho';rcases NO.1 ho' with rfl|ho'
     ·exact hd
     ·exact q2 o' ho'
    ·simpa using q3
def envS (s:Nat->Bool):Nat->List Oper->List Ev->(Nat->AV)->(Nat->AV)
 |i,o::l,e::evs,E=>envS s (i+1) l evs (if s i=true then putF E o.dst e.v else E)
 |_,_,_,E=>E
def ib (s:Nat->Bool):Nat->List Oper->List Ev->(Nat->Option Obj)->(Nat->Option Obj)
 |i,_::l,e::evs,H=>ib s (i+1) l evs (if s i=true then hpU e.u H else H)
 |_,_,_,H=>H
theorem ji {s s':Nat->Bool}{t:Nat}:∀(l:List Oper)(evs:List Ev)(i:Nat)(E E':Nat->AV),E t=E' t->(∀(j:Nat) o,l[j]?=some o->o.dst=some t->s (i+j)=s' (i+j))->envS s i l evs E t=envS s' i l evs E' t
 |[],_,_,_,_,h,_=>by simpa[envS]using h
 |_::_,[],_,_,_,h,_=>by simpa[envS]using h
 |o::l,e::evs,i,E,E',h,hs=>by
  simp only[envS];refine ji l evs (i+1) _ _ ?_ (λj o' ho hd=>by have:=hs (j+1) o' (by simpa using ho) hd;rw[show i+1+j=i+(j+1) by omega];exact this);by_cases hd:o.dst=some t
  ·have:=hs 0 o rfl hd;simp only[Pz]at this;rw[this];cases s' i with
   |true=>simp[putF,hd]
   |false=>simpa using h
  ·have hp:∀(E:Nat->AV) v,putF E o.dst v t=E t:=by
    intro E v;cases hq:o.dst with
    |none=>rfl
    |some u=>
     show(if u=t then v else E t)=E t;rw[ND];rintro rfl;exact hd hq
   cases s i<;>cases s' i<;>simp[hp,h]
theorem gD {s s':Nat->Bool}{id:Nat}:∀(l:List Oper)(evs:List Ev)(i:Nat)(H H':Nat->Option Obj),H id=H' id->(∀(j:Nat) e,evs[j]?=some e->j<l.length->hget e.u id≠none->s (i+j)=s' (i+j))->ib s i l evs H id=ib s' i l evs H' id
 |[],_,_,_,_,h,_=>by simpa[ib]using h
 |_::_,[],_,_,_,h,_=>by simpa[ib]using h
 |o::l,e::evs,i,H,H',h,hs=>by
  simp only[ib];refine gD l evs (i+1) _ _ ?_ (λj e' ho hl hd=>by have:=hs (j+1) e' (by simpa using ho) (by simpa using hl) hd;rw[show i+1+j=i+(j+1) by omega];exact this);by_cases hd:hget e.u id=none
  ·have hp:∀(H:Nat->Option Obj),hpU e.u H id=H id:=by intro H;unfold hpU;rw[hd]
   cases s i<;>cases s' i<;>simp[hp,h]
  ·have:=hs 0 e rfl (by simp) hd;simp only[Pz]at this;rw[this];cases s' i with
   |true=>
    simp only[O8];unfold hpU;cases hq:hget e.u id with
    |none=>exact(hd hq).elim
    |some o=>rfl
   |false=>simpa using h
theorem kY {s:Nat->Bool}:∀(l:List Oper)(evs:List Ev)(i:Nat)(E:Nat->AV),(∀j,i<=j->s j=false)->envS s i l evs E=E
 |[],_,_,_,_=>by simp[envS]
 |_::_,[],_,_,_=>by simp[envS]
 |o::l,e::evs,i,E,h=>by
  simp only[envS];rw[h i (NG _)];exact kY l evs (i+1) E λj hj=>h j (by omega)
theorem iY {s:Nat->Bool}:∀(l:List Oper)(evs:List Ev)(i:Nat)(H:Nat->Option Obj),(∀j,i<=j->s j=false)->ib s i l evs H=H
 |[],_,_,_,_=>by simp[ib]
 |_::_,[],_,_,_=>by simp[ib]
 |o::l,e::evs,i,H,h=>by
  simp only[ib];rw[h i (NG _)];exact iY l evs (i+1) H λj hj=>h j (by omega)
theorem yN:∀(l:List Oper)(evs:List Ev)(i j:Nat)(E:Nat->AV)(o:Oper)(e:Ev),l[j]?=some o->evs[j]?=some e ->
  envS (λx=>decide (x<i+j+1)) i l evs E=putF (envS (λx=>decide (x<i+j)) i l evs E) o.dst e.v
 |[],_,_,_,_,_,_,h,_=>by simp at h
 |_::_,[],_,_,_,_,_,_,h=>by simp at h
 |o::l,e::evs,i,0,E,o',e',h1,h2=>by
  simp at h1 h2;subst h1;subst h2;simp only[envS];rw[kY l evs (i+1) _ (λj hj=>by simp;omega),kY l evs (i+1) _ (λj hj=>by simp;omega)];simp
 |o::l,e::evs,i,j+1,E,o',e',h1,h2=>by
  simp only[envS];have:=yN l evs (i+1) j (putF E o.dst e.v) o' e' (by simpa using h1) (by simpa using h2);rw[show i+1+j+1=i+(j+1)+1 by omega,show i+1+j=i+(j+1) by omega]at this;simp only[show(i<i+(j+1)+1)=True by simp;omega,show(i<i+(j+1))=True by simp,OZ,O8];exact this
theorem uF:∀(l:List Oper)(evs:List Ev)(i j:Nat)(H:Nat->Option Obj)(o:Oper)(e:Ev),l[j]?=some o->evs[j]?=some e ->
  ib (λx=>decide (x<i+j+1)) i l evs H=hpU e.u (ib (λx=>decide (x<i+j)) i l evs H)
 |[],_,_,_,_,_,_,h,_=>by simp at h
 |_::_,[],_,_,_,_,_,_,h=>by simp at h
 |o::l,e::evs,i,0,H,o',e',h1,h2=>by
  simp at h1 h2;subst h1;subst h2;simp only[ib];rw[iY l evs (i+1) _ (λj hj=>by simp;omega),iY l evs (i+1) _ (λj hj=>by simp;omega)];simp
 |o::l,e::evs,i,j+1,H,o',e',h1,h2=>by
  simp only[ib];have:=uF l evs (i+1) j (hpU e.u H) o' e' (by simpa using h1) (by simpa using h2);rw[show i+1+j+1=i+(j+1)+1 by omega,show i+1+j=i+(j+1) by omega]at this;simp only[show(i<i+(j+1)+1)=True by simp;omega,show(i<i+(j+1))=True by simp,OZ,O8];exact this
theorem EF {all:Array Oper}{l:List Oper}{E E':Nat->AV}{H H':Nat->Option Obj}{evs:List Ev}(h:Run P A fid C all l E H evs E' H'):∀(i:Nat),
  evs.length=l.length/\E'=envS (λ_=>true) i l evs E/\H'=ib (λ_=>true) i l evs H /\
   ∀(j:Nat) o e,l[j]?=some o->evs[j]?=some e->Ed P A fid C all (envS (λx=>decide (x<i+j)) i l evs E) (ib (λx=>decide (x<i+j)) i l evs H) o e:=by
 induction h with
 |nil E H=>intro i;exact⟨rfl,rfl,rfl,by simp⟩
 | @cons o l E H ev evs E' H' hs _ ih=>
  intro i;obtain⟨q1,q2,q3,q4⟩:=ih (i+1);refine⟨by simp[q1],?_,?_,λj o' e' h1 h2=>?_⟩
  ·simp only[envS,O8];exact q2
  ·simp only[ib,O8];exact q3
  ·cases j with
   |zero=>
    simp at h1 h2;subst h1;subst h2;rw[kY _ _ i _ (λj hj=>by simp;omega),iY _ _ i _ (λj hj=>by simp;omega)];exact hs
   |succ j=>
    have:=q4 j o' e' (by simpa using h1) (by simpa using h2);simp only[envS,ib,show(i<i+(j+1))=True by simp,OZ,O8];rw[show i+1+j=i+(j+1) by omega]at this;exact this
def nJ (acc:Array Nat)(o:Oper):Nat:=o.after.foldl (λs e=>if Region.binds .any e then s ||| 2^e.on ||| acc.getD e.on 0 else s) 0
theorem A1 (acc:Array Nat)(o:Oper)(i:Nat)(h:(nJ acc o).testBit i=true):∃e∈o.after.toList,Region.binds .any e=true/\(e.on=i\/(acc.getD e.on 0).testBit i=true):=by
 unfold nJ at h;rw[<- Qw]at h;have:∀(l:List Edge) (s:Nat),(l.foldl (λs e=>if Region.binds .any e then s ||| 2^e.on ||| acc.getD e.on 0 else s) s).testBit i=true->s.testBit i=true\/∃e∈l,Region.binds .any e=true/\(e.on=i\/(acc.getD e.on 0).testBit i=true):=by
  intro l
  induction l with
  |nil=>intro s h;exact .inl h
  |cons a r ih=>
   intro s h;rw[Pf]at h;rcases ih _ h with h1|⟨e,h1,h2⟩
   ·split at h1
    ·rename_i hb;rw[Nat.testBit_or,Nat.testBit_or,Nat.testBit_two_pow]at h1;simp only[Qk,N0]at h1;rcases h1 with(h1|h1)|h1
     ·exact .inl h1
     ·exact .inr ⟨a,by simp,hb,.inl h1⟩
     ·exact .inr ⟨a,by simp,hb,.inr h1⟩
    ·exact .inl h1
   ·exact .inr ⟨e,by simp[h1],h2⟩
 rcases this _ _ h with h1|h1
 ·simp at h1
 ·exact h1
theorem D9 (l:List Oper):∀(acc:Array Nat)(j:Nat) o,l[j]?=some o ->
  ∃acc':Array Nat,acc'.size=acc.size+j/\(∀k,k<acc'.size->(l.foldl (λacc o=>acc.push (nJ acc o)) acc)[k]?=acc'[k]?)/\(l.foldl (λacc o=>acc.push (nJ acc o)) acc)[acc.size+j]?=some (nJ acc' o):=by
 have keep:∀(l:List Oper) (acc:Array Nat) (k:Nat),k<acc.size->(l.foldl (λacc o=>acc.push (nJ acc o)) acc)[k]?=acc[k]?:=by
  intro l
  induction l with
  |nil=>intro acc k _;rfl
  |cons a r ih=>
   intro acc k hk;rw[Pf,ih _ _ (by simp;omega),PZ,ND (by omega)]
 induction l with
 |nil=>intro acc j o h;simp at h
 |cons a r ih=>
  intro acc j o h;cases j with
  |zero=>
   simp at h;subst h;refine⟨acc,by simp,λk hk=>?_,?_⟩
   ·rw[Pf,keep _ _ _ (by simp;omega),PZ,ND (by omega)]
   ·rw[Pf,Pz,keep _ _ _ (by simp)];simp
  |succ j=>
   obtain⟨acc',h1,h2,h3⟩:=ih (acc.push (nJ acc a)) j o (by simpa using h);refine⟨acc',by simp at h1;omega,λk hk=>by rw[Pf];exact h2 k hk,?_⟩;rw[Pf];have:acc.size+(j+1)=(acc.push (nJ acc a)).size+j:=by simp;omega
   rw[this];exact h3
theorem A2 (ops:Array Oper):Region.before ops=ops.toList.foldl (λacc o=>acc.push (nJ acc o)) #[]:=by
 unfold Region.before;rw[<- Qw];rfl
def JS (ops:Array Oper)(s:Nat->Bool):Prop:=∀(j:Nat) o,ops[j]?=some o->s j=true->∀e∈o.after.toList,Region.binds .any e=true->s e.on=true
theorem uT {ops:Array Oper}{s:Nat->Bool}(hs:JS ops s):∀(i:Nat) o,ops[i]?=some o->(∀e∈o.after.toList,Region.binds .any e=true->s e.on=true)->∀j,((Region.before ops).getD i 0).testBit j=true->s j=true:=by
 intro i
 induction i using Nat.strongRecOn with
 |_ i ih=>
  intro o ho hp j hb;obtain⟨acc',h1,h2,h3⟩:=D9 ops.toList #[] i o (by rw[NR];exact ho);rw[<- A2]at h2 h3;simp only[QG,NL,Ox]at h1 h3;rw[N2,h3,NN]at hb;obtain⟨e,e1,e2,e3⟩:=A1 acc' o j hb;rcases e3 with rfl|e3
  ·exact hp e e1 e2
  ·have hlt:e.on<acc'.size:=by
    rcases Oy e.on acc'.size with q|q
    ·exact q
    ·rw[N2,Ow q]at e3;simp at e3
   have hi:i<ops.size:=(OX.1 ho).1;have hse:=hp e e1 e2;have hoe:ops[e.on]?=some ops[e.on]:=OB (by omega);refine ih e.on (by omega) _ hoe (hs e.on _ hoe hse) j ?_;rw[N2,h2 _ hlt,<- N2];exact e3
theorem qz {all:Array Oper}{bef:Array Nat}{i:Nat}{o:Oper}{l:Log}:∀(ps:List Oper)(ms:List Log)(j:Nat),Bt all bef i o l j ps ms=true ->
  ∀(k:Nat) p m,ps[k]?=some p->ms[k]?=some m->(bef.getD (j+k) 0).testBit i=true\/xl all o p l m=true
 |[],_,_,_,_,_,_,h,_=>by simp at h
 |_::_,[],_,_,_,_,_,_,h=>by simp at h
 |p::ps,m::ms,j,h,k,p',m',h1,h2=>by
  simp only[Bt,NM,Qk]at h;cases k with
  |zero=>simp at h1 h2;subst h1;subst h2;exact h.1
  |succ k=>
   have:=qz ps ms (j+1) h.2 k p' m' (by simpa using h1) (by simpa using h2);rw[show j+(k+1)=j+1+k by omega];exact this
theorem oz {all:Array Oper}{bef:Array Nat}:∀(os:List Oper)(ls:List Log)(i0:Nat),zQ all bef i0 os ls=true ->
  ∀(i j:Nat) a b la lb,i<j->os[i]?=some a->os[j]?=some b->ls[i]?=some la->ls[j]?=some lb->(bef.getD (i0+j) 0).testBit (i0+i)=true\/xl all a b la lb=true
 |[],_,_,_,_,_,_,_,_,_,_,h,_,_,_=>by simp at h
 |_::_,[],_,_,_,_,_,_,_,_,_,_,_,h,_=>by simp at h
 |o::os,l::ls,i0,h,i,j,a,b,la,lb,hij,h1,h2,h3,h4=>by
  simp only[zQ,NM]at h;cases j with
  |zero=>omega
  |succ j=>
   cases i with
   |zero=>
    simp at h1 h3;subst h1;subst h3;have:=qz os ls (i0+1) h.1 j b lb (by simpa using h2) (by simpa using h4);rw[show i0+(j+1)=i0+1+j by omega];exact this
   |succ i=>
    have:=oz os ls (i0+1) h.2 i j a b la lb (by omega) (by simpa using h1) (by simpa using h2) (by simpa using h3) (by simpa using h4);rw[show i0+(j+1)=i0+1+j by omega,show i0+(i+1)=i0+1+i by omega];exact this
theorem pw:∀(os:List Oper)(i0:Nat),mq i0 os=true->∀(i:Nat) o,os[i]?=some o->∀e∈o.after.toList,Region.binds .any e=true->e.on<i0+i
 |[],_,_,_,_,h=>by simp at h
 |o::os,i0,h,i,o',h1=>by
  simp only[mq,NM]at h;cases i with
  |zero=>
   simp at h1;subst h1;intro e he hb;have:=OW.1 h.1 e he;rw[hb]at this;simp only[Pw,Q1]at this;have:=N3 this;omega
  |succ i=>
   intro e he hb;have:=pw os (i0+1) h.2 i o' (by simpa using h1) e he hb;omega
theorem lJ {a b:List Nat}(h:disj a b=true){x:Nat}(ha:x∈a)(hb:x∈b):False:=nB h ha hb
structure Pair (all:Array Oper)(a b:Oper)(la lb:Log):Prop where
 wt:∀x∈la.wr,x∈lb.tch->False
 tw:∀x∈lb.wr,x∈la.tch->False
 ww:∀x∈la.wr,x∈lb.wr->False
 dl:∀x,a.dst=some x->x∈Dw all b->False
 ld:∀x,b.dst=some x->x∈Dw all a->False
 dd:∀x,a.dst=some x->b.dst=some x->False
theorem qK {all:Array Oper}{a b:Oper}{la lb:Log}(h:xl all a b la lb=true):Pair all a b la lb:=by
 simp only[xl,NM]at h;obtain⟨⟨⟨⟨h1,h2⟩,h3⟩,h4⟩,h5⟩:=h;have hd:∀{o:Oper} {x:Nat},o.dst=some x->x∈dstL o:=by intro o x h;simp[dstL,h]
 exact⟨λx p q=>lJ h1 p q,λx p q=>lJ h2 p q,λx p q=>lJ h3 p q,λx p q=>lJ h4 (hd p) (PG _ q),λx p q=>lJ h5 (hd p) q,λx p q=>lJ h4 (hd p) (Qh _ (hd q))⟩
theorem zV {u:Upd}{id:Nat}(h:hget u id≠none):id∈u.map (·.1):=by
 induction u with
 |nil=>exact(h rfl).elim
 |cons p r ih=>
  obtain⟨t,o⟩:=p;simp only[hget]at h;cases hq:Nat.beq t id with
  |true=>simp[NB hq]
  |false=>rw[hq]at h;exact NW _ (ih h)
theorem Ed.of {all:Array Oper}{E E':Nat->AV}{H H':Nat->Option Obj}{o:Oper}{ev:Ev}(h:Ed P A fid C all E H o ev)(he:∀t∈Dw all o,E' t=E t)(hh:∀id∈ev.log.tch,H' id=H id):Ed P A fid C all E' H' o ev:=by
 obtain⟨h1,h2⟩:=h;have hE:tB E' o=tB E o:=by
  funext x;cases x with
  |tmp t=>
   simp only[tB];cases hc:(tJ o.op.operands.toList).contains t with
   |true=>
    rw[he t (PG _ (OL.1 hc))]
   |false=>rfl
  |_=>rfl
 refine⟨?_,?_⟩
 ·split at h1
  ·exact h1
  ·rename_i j w hg;obtain⟨t,e1,e2⟩:=h1;refine⟨t,e1,?_⟩;rw[he t ?_];exact e2;unfold Dw;rw[hg];simp only[e1];exact Qh _ (by simp)
 ·split at h2
  ·rename_i hw;rw[NI hw,hE];refine⟨?_,h2.2⟩;have:xh (idsE A o (tB E o)) H'=xh (idsE A o (tB E o)) H:=by
    funext id;unfold xh;cases hc:(idsE A o (tB E o)).contains id with
    |true=>
     simp only[NH];refine hh id ?_;rw[h2.2];exact OL.1 hc
    |false=>rfl
   rw[this];exact h2.1
  ·rename_i hw;rw[ND hw];exact h2
theorem Ho (hC:j8 P A Gl C){ops:Array Oper}{Q:Exit->Act->World->Prop}{evs:List Ev}{E E':Nat->AV}{H H':Nat->Option Obj}
  (hrun:Run P A fid C ops ops.toList E H evs E' H') (hdst:∀o∈ops.toList,pJ n lo o=true) (hed:mq 0 ops.toList=true) (hlog:zQ ops (Region.before ops) 0 ops.toList (evs.map Ev.log)=true)
  (hQ:∀(σ:St) a w,look σ.env=E'->hget σ.heap=H'->Ok A te0 Gl w0 M n lo a0 σ a w->Q .normal a w):
  ∀(fuel:Nat) (listed:Array Bool) (σ:St) (a:Act) (w:World),listed.size=ops.size->listed.toList.count false<=fuel->JS ops (λi=>listed.getD i false) ->
   look σ.env=envS (λi=>listed.getD i false) 0 ops.toList evs E->hget σ.heap=ib (λi=>listed.getD i false) 0 ops.toList evs H->Ok A te0 Gl w0 M n lo a0 σ a w->wpAny P .any ops Q fuel listed a w:=by
 obtain⟨hlen,hE',hH',hst⟩:=EF hrun 0;have hev:∀(i:Nat) o,ops[i]?=some o->∃e,evs[i]?=some e:=by
  intro i o ho;have:i<ops.size:=(OX.1 ho).1;have:i<evs.length:=by rw[hlen,O7];exact this
  exact⟨evs[i],NT this⟩
 have hoe:∀(i:Nat) e,evs[i]?=some e->∃o,ops[i]?=some o:=by
  intro i e he;have:i<evs.length:=(NJ.1 he).1;have:i<ops.size:=by rw[hlen,O7]at this;exact this
  exact⟨ops[i],OB this⟩
 have htl:∀(i:Nat),ops.toList[i]?=ops[i]?:=λi=>NR
 have hend:∀(listed:Array Bool) (σ:St) (a:Act) (w:World),listed.size=ops.size->Region.ready .any ops listed=[] ->
   look σ.env=envS (λi=>listed.getD i false) 0 ops.toList evs E->hget σ.heap=ib (λi=>listed.getD i false) 0 ops.toList evs H->Ok A te0 Gl w0 M n lo a0 σ a w->Q .normal a w:=by
  intro listed σ a w hsz hr h1 h2 hok;have hall:∀i,i<ops.size->listed.getD i false=true:=by
   intro i
   induction i using Nat.strongRecOn with
   |_ i ih=>
    intro hi;cases hq:listed.getD i false with
    |true=>rfl
    |false=>
     exfalso;have ho:ops[i]?=some ops[i]:=OB hi;have:i∈Region.ready .any ops listed:=by
      rw[mem_ready];refine⟨?_,_,ho,λe he hb=>?_⟩
      ·rw[N2,OB (by omega)]at hq ⊢;exact hq
      ·have:=pw ops.toList 0 hed i _ (by rw[htl];exact ho) e (by simpa using he) hb;exact ih e.on (by omega) (by omega)
     rw[hr]at this;simp at this
  refine hQ σ a w ?_ ?_ hok
  ·rw[h1,hE'];funext t;refine ji _ _ _ _ _ rfl λj o ho _=>?_
   rw[htl]at ho;simp only[Ox];exact hall j (OX.1 ho).1
  ·rw[h2,hH'];funext t;refine gD _ _ _ _ _ rfl λj e he hl _=>?_
   simp only[Ox];exact hall j (by simpa using hl)
 intro fuel
 induction fuel with
 |zero=>
  intro listed σ a w hsz hc hcl h1 h2 hok;have hr:Region.ready .any ops listed=[]:=by
   cases hq:Region.ready .any ops listed with
   |nil=>rfl
   |cons x xs=>
    exfalso;have hx:x∈Region.ready .any ops listed:=by rw[hq];simp
    rw[mem_ready]at hx;have hx:=hx.1;have hlt:x<listed.size:=by
     rcases Oy x listed.size with q|q
     ·exact q
     ·rw[N2,Ow q]at hx;simp at hx
    have:0<listed.toList.count false:=by
     rw[PO];rw[N2,OB hlt]at hx;simp only[NN]at hx;rw[<- hx];simp
    omega
  exact⟨hr,hend listed σ a w hsz hr h1 h2 hok⟩
 |succ fuel ih=>
  intro listed σ a w hsz hc hcl h1 h2 hok;refine⟨λhr=>hend listed σ a w hsz hr h1 h2 hok,λi hi=>?_⟩;rw[mem_ready]at hi;obtain⟨hli,o,ho,hpre⟩:=hi;have hpre:∀e∈o.after.toList,Region.binds .any e=true->listed.getD e.on false=true:=λe he hb=>hpre e (by simpa using he) hb
  obtain⟨ev,hevi⟩:=hev i o ho;have hin:i<ops.size:=(OX.1 ho).1;have hlif:listed.getD i false=false:=by
   rw[N2,OB (by omega)]at hli ⊢;exact hli
  have ho':ops.toList[i]?=some o:=by rw[htl];exact ho
  -- who is not before or behind stands apart
  have hlt:∀(j:Nat) oj ej,ops[j]?=some oj->evs[j]?=some ej->j<i->listed.getD j false=false->Pair ops oj o ej.log ev.log:=by
   intro j oj ej hoj hej hji hs;rcases oz ops.toList (evs.map Ev.log) 0 hlog j i oj o ej.log ev.log hji (by rw[htl];exact hoj) ho' (by simp[hej]) (by simp[hevi])with hb|hb
   ·simp only[Ox]at hb;have:listed.getD j false=true:=uT hcl i o ho hpre j hb;rw[hs]at this;cases this
   ·exact qK hb
  have hgt:∀(j:Nat) oj ej,ops[j]?=some oj->evs[j]?=some ej->i<j->listed.getD j false=true->Pair ops o oj ev.log ej.log:=by
   intro j oj ej hoj hej hji hs;rcases oz ops.toList (evs.map Ev.log) 0 hlog i j o oj ev.log ej.log hji ho' (by rw[htl];exact hoj) (by simp[hevi]) (by simp[hej])with hb|hb
   ·simp only[Ox]at hb;have:listed.getD i false=true:=uT hcl j oj hoj (hcl j oj hoj hs) i hb;rw[hlif]at this;cases this
   ·exact qK hb
  have hsf:=hst i o ev ho' hevi;simp only[Ox]at hsf
  -- the step,where we are
  have hsf':Ed P A fid C ops (look σ.env) (hget σ.heap) o ev:=by
   refine hsf.of (λt ht=>?_) (λid hid=>?_)
   ·rw[h1];refine ji _ _ _ _ _ rfl λj oj hoj hd=>?_
    rw[htl]at hoj;obtain⟨ej,hej⟩:=hev j oj hoj;simp only[Ox];rcases PF j i with q|rfl|q
    ·simp only[q,OZ];cases hs:listed.getD j false with
     |true=>rfl
     |false=>exact((hlt j oj ej hoj hej q hs).dl t hd ht).elim
    ·simp[hlif]
    ·have:¬ j<i:=by omega
     simp only[this,PU];cases hs:listed.getD j false with
     |false=>rfl
     |true=>exact((hgt j oj ej hoj hej q hs).ld t hd ht).elim
   ·rw[h2];refine gD _ _ _ _ _ rfl λj ej hej hl hd=>?_
    obtain⟨oj,hoj⟩:=hoe j ej hej;have hw:id∈ej.log.wr:=by
     have hs:=(hst j oj ej (by rw[htl];exact hoj) hej).2;split at hs
     ·rw[hs.2];exact zV hd
     ·rw[hs.2.1]at hd;exact(hd rfl).elim
    simp only[Ox];rcases PF j i with q|rfl|q
    ·simp only[q,OZ];cases hs:listed.getD j false with
     |true=>rfl
     |false=>exact((hlt j oj ej hoj hej q hs).wt id hw hid).elim
    ·simp[hlif]
    ·have:¬ j<i:=by omega
     simp only[this,PU];cases hs:listed.getD j false with
     |false=>rfl
     |true=>exact((hgt j oj ej hoj hej q hs).tw id hw hid).elim
  -- what comes next
  have hset:∀j,(listed.setIfInBounds i true).getD j false=(if j=i then true else listed.getD j false):=by
   intro j;by_cases hj:j=i
   ·subst hj;rw[NI rfl,N2,O1];simp[show j<listed.size by omega]
   ·rw[ND hj,getD_set_ne false (λh=>hj h.symm)]
  have hnext:∀(σ':St) (a':Act) (w':World),look σ'.env=putF (look σ.env) o.dst ev.v->hget σ'.heap=hpU ev.u (hget σ.heap)->Ok A te0 Gl w0 M n lo a0 σ' a' w'->wpAny P .any ops Q fuel (listed.setIfInBounds i true) a' w':=by
   intro σ' a' w' e1 e2 hok';refine ih _ σ' a' w' (by simp[hsz]) ?_ ?_ ?_ ?_ hok'
   ·have hi':i<listed.toList.length:=by simp;omega
    have hfi:listed.toList[i]=false:=by
     rw[N2,OB (by omega)]at hlif;simpa using hlif
    have:=List.count_set (a:=true) (b:=false) (l:=listed.toList) (i:=i) hi';rw[QD,this,hfi];simp only[PJ,O8];have hpos:0<listed.toList.count false:=by
     rw[PO,<- hfi];exact N8 hi'
    have hz:(if(true==false)=true then 1 else 0)=0:=rfl;rw[hz];clear this;omega
   ·intro j oj hoj hs e he hb;simp only[]at hs ⊢;rw[hset]at hs ⊢;split
    ·rfl
    ·split at hs
     ·rename_i hji;subst hji;rw[ho]at hoj;cases hoj;exact hpre e he hb
     ·exact hcl j oj hoj hs e he hb
   ·rw[e1,h1];funext t;by_cases ht:o.dst=some t
    ·rw[ht];simp only[putF,O8];have hle:=yN ops.toList evs 0 i E o ev ho' hevi;have:envS (λx=>decide (x<0+i+1)) 0 ops.toList evs E t=ev.v:=by rw[hle,ht];simp[putF]
     rw[<- this];refine ji _ _ _ _ _ rfl λj oj hoj hd=>?_
     rw[htl]at hoj;obtain⟨ej,hej⟩:=hev j oj hoj;simp only[Ox,hset];rcases PF j i with q|rfl|q
     ·have hne:¬ j=i:=by omega
      have hl:j<i+1:=by omega
      simp only[hne,hl,OZ,OE];cases hs:listed.getD j false with
      |true=>rfl
      |false=>exact((hlt j oj ej hoj hej q hs).dd t hd ht).elim
     ·simp
     ·have hne:¬ j=i:=by omega
      have hl:¬ j<i+1:=by omega
      simp only[hne,hl,PU,OE];cases hs:listed.getD j false with
      |false=>rfl
      |true=>exact((hgt j oj ej hoj hej q hs).dd t ht hd).elim
    ·have:∀(E:Nat->AV) v,putF E o.dst v t=E t:=by
      intro E v;cases hq:o.dst with
      |none=>rfl
      |some u=>
       show(if u=t then v else E t)=E t;rw[ND];rintro rfl;exact ht hq
     rw[this];refine ji _ _ _ _ _ rfl λj oj hoj hd=>?_
     rw[htl]at hoj;simp only[Ox,hset];split
     ·rename_i hji;subst hji;rw[ho]at hoj;cases hoj;exact(ht hd).elim
     ·rfl
   ·rw[e2,h2];funext id;by_cases ht:hget ev.u id=none
    ·have:∀(H:Nat->Option Obj),hpU ev.u H id=H id:=by intro H;unfold hpU;rw[ht]
     rw[this];refine gD _ _ _ _ _ rfl λj ej hej hl hd=>?_
     simp only[Ox,hset];split
     ·rename_i hji;subst hji;rw[hevi]at hej;cases hej;exact(hd ht).elim
     ·rfl
    ·have hle:=uF ops.toList evs 0 i H o ev ho' hevi;have:hpU ev.u (ib (λi=>listed.getD i false) 0 ops.toList evs H) id=ib (λx=>decide (x<0+i+1)) 0 ops.toList evs H id:=by
      rw[hle];unfold hpU;cases hq:hget ev.u id with
      |none=>exact(ht hq).elim
      |some o=>rfl
     rw[this];have hwi:id∈ev.log.wr:=by
      have hs:=hsf.2;split at hs
      ·rw[hs.2];exact zV ht
      ·rw[hs.2.1]at ht;exact(ht rfl).elim
     refine gD _ _ _ _ _ rfl λj ej hej hl hd=>?_
     obtain⟨oj,hoj⟩:=hoe j ej hej;have hw:id∈ej.log.wr:=by
      have hs:=(hst j oj ej (by rw[htl];exact hoj) hej).2;split at hs
      ·rw[hs.2];exact zV hd
      ·rw[hs.2.1]at hd;exact(hd rfl).elim
     simp only[Ox,hset];rcases PF j i with q|rfl|q
     ·have hne:¬ j=i:=by omega
      have hl:j<i+1:=by omega
      simp only[hne,hl,OZ,OE];cases hs:listed.getD j false with
      |true=>rfl
      |false=>exact((hlt j oj ej hoj hej q hs).ww id hw hwi).elim
     ·simp
     ·have hne:¬ j=i:=by omega
      have hl:¬ j<i+1:=by omega
      simp only[hne,hl,PU,OE];cases hs:listed.getD j false with
      |false=>rfl
      |true=>exact((hgt j oj ej hoj hej q hs).ww id hwi hw).elim
  have hg:rS ops σ o (λwant _=>some want)=some ev.want:=by
   have:=hsf'.1;unfold rS;split at this
   ·rename_i hg;rw[hg];simp[this]
   ·rename_i j wn hg;obtain⟨t,t1,t2⟩:=this;rw[hg];rcases t2 with⟨b,t2,t3⟩|⟨t2,t3⟩
    ·simp only[t1,t2];rw[t3];cases b<;>cases wn<;>rfl
    ·simp only[t1,t2];rw[t3]
  obtain⟨want,_,g1,g2,_⟩:=xT hg hok;cases g1;have hd:pJ n lo o=true:=hdst o (NX ho');unfold wpOp;rw[ho];simp only[g2];cases hwant:ev.want with
  |true=>
   simp only[O8];have hs2:=hsf'.2;rw[NI hwant]at hs2;have hsk:wZ P A fid C σ o (λv u=>some (v,u))=some (ev.v,ev.u):=by
    unfold wZ;rw[wF,tT];exact hs2.1
   refine .inl (Bj hC hsk hok hd λv u v' w' hk hok'=>?_);cases hk;exact hnext _ _ _ (pZ _ _ _) (rn _ _) hok'
  |false=>
   simp only[Od,OE];have hs2:=hsf'.2;rw[hwant]at hs2;simp only[Od,OE]at hs2;obtain⟨c,hcw,hc'⟩:=hok;refine hnext ⟨put σ.env o.dst (.tup []),σ.heap⟩ _ _ ?_ ?_ ⟨c,hcw,hc'.te,hc'.hp,hc'.mem,hc'.regs.put (λd hd'=>(CP hd d hd').1) (By _),hc'.glob,zH hd hc'.pin undef,hc'.man⟩
   ·rw[hs2.1];exact pZ _ _ _
   ·rw[hs2.2.1];funext id;rfl
theorem KK {σ:St}{a:Act}{w w':World}(h:Ok A te0 Gl w0 M n lo a0 σ a w)(g:Grew w w'):Ok A te0 Gl w0 M n lo a0 σ a w':=by
 obtain⟨c,rfl,h⟩:=h;have he:=Ext.grew h.mem g;exact⟨{ c with w:=w' },rfl,h.te,h.hp,h.mem.grew g,he.regs h.regs,h.glob.ext he.m,h.pin,h.man.lift rfl he (h.mem.here.grew g) (λ_ _ _ _ _ _ _ _=>Rm)⟩
theorem Dj (hC:j8 P A Gl C)(hmx:P.follows .mixedOrders=true){id:Nat}{ops:Array Oper}{Q:Exit->Act->World->Prop}{K:List Log->St->Option R}{rr:R}{σ:St}{a:Act}{w:World}
  (hs:jx P A fid n lo C ops ops.toList [] σ K=some rr) (hed:mq 0 ops.toList=true)
  (hK:∀lg σ',K lg σ'=some rr->zQ ops (Region.before ops) 0 ops.toList lg.reverse=true/\∀σ'' a w,look σ''.env=look σ'.env->hget σ''.heap=hget σ'.heap->Ok A te0 Gl w0 M n lo a0 σ'' a w->Q .normal a w)
  (hok:Ok A te0 Gl w0 M n lo a0 σ a w):(Code.region id ops true).wp P Q a w:=by
 obtain⟨evs,σ',h1,h2,h3⟩:=lZ _ _ _ _ hs;obtain⟨k1,k2⟩:=hK _ _ h3;rw[Oq,List.reverse_reverse]at k1;refine wp_region_any hmx (Ho hC h1 h2 hed k1 (λσ'' a w e1 e2 hk=>k2 σ'' a w e1 e2 hk) ops.size _ σ a _ (by simp) (by simp) ?_ ?_ ?_ (KK hok ⟨rfl,rfl,rfl,NG _,λ_ _=>rfl⟩))
 ·intro j o ho hs;simp only[]at hs;rw[N2,P5]at hs;split at hs<;>cases hs
 ·rw[kY];intro j _;rw[N2,P5];split<;>rfl
 ·rw[iY];intro j _;rw[N2,P5];split<;>rfl
end
end Go.Eng
namespace Go.Eng
open Go.RowKit
theorem uS {a b:Nat}(h:a≠b):Nat.beq a b=false:=by
 cases hb:Nat.beq a b with
 |true=>exact(h (NB hb)).elim
 |false=>rfl
theorem JN (a:Nat):Nat.beq a a=true:=Nat.beq_refl a
theorem BR:∀{l:List (Nat×Nat)} {n:Nat},(l.map (·.2)).contains n=false->lkr l n=none
 |[],_,_=>rfl
 |(o,m)::r,n,h=>by
  simp only[NV,OM,Ph,O6,ne_eq]at h;simp only[lkr,uS (λe=>h.1 e.symm),NS];exact BR h.2
theorem vP:∀{l:List (Nat×Nat)} {n o:Nat},lkr l n=some o->(o,n)∈l
 |(o,m)::r,n,u,h=>by
  simp only[lkr]at h;cases hb:Nat.beq m n with
  |true=>
   rw[hb]at h;have:=NB hb;simp only[NH,Nz]at h;subst h;subst this;simp
  |false=>rw[hb]at h;exact NW _ (vP h)
theorem Fz:∀{l:List (Nat×Nat)} {n o:Nat},lk l o=some n->(o,n)∈l
 |(o,m)::r,n,u,h=>by
  simp only[lk]at h;cases hb:Nat.beq o u with
  |true=>
   rw[hb]at h;have:=NB hb;simp only[NH,Nz]at h;subst h;subst this;simp
  |false=>rw[hb]at h;exact NW _ (Fz h)
theorem uC:∀{l:List (Nat×Nat)} {n o:Nat},dupF (l.map (·.2))=true->(o,n)∈l->lkr l n=some o
 |(o',m)::r,n,o,hd,h=>by
  simp only[NV,dupF,NM,Oz]at hd;rcases NO.1 h with h|h
  ·cases h;simp[lkr]
  ·have hne:m≠n:=by
    rintro rfl;have:(r.map (·.2)).contains m=true:=by simp only[Qm,N0];exact N9.2 ⟨_,h,rfl⟩
    rw[this]at hd;cases hd.1
   simp only[lkr,uS hne,NS];exact uC hd.2 h
theorem zL:∀{l:List (Nat×Nat)} {n n' o:Nat},dupF (l.map (·.1))=true->(o,n)∈l->(o,n')∈l->n=n'
 |(o',m)::r,n,n',o,hd,h,h'=>by
  simp only[NV,dupF,NM,Oz]at hd;have hnot:∀x,(o',x)∈r->False:=by
   intro x hx;have:(r.map (·.1)).contains o'=true:=by simp only[Qm,N0];exact N9.2 ⟨_,hx,rfl⟩
   rw[this]at hd;cases hd.1
  rcases NO.1 h with h|h<;>rcases NO.1 h' with h'|h'
  ·cases h;cases h';rfl
  ·cases h;exact(hnot _ h').elim
  ·cases h';exact(hnot _ h).elim
  ·exact zL hd.2 h h'
theorem B6 (f:Obj->Obj)(h:List (Nat×Obj))(n:Nat):∀(l:List (Nat×Nat)),dupF (l.map (·.2))=true ->
  hget (l.filterMap λp=>match hget h p.1 with|some o=>some (p.2,f o)|none=>none) n=(lkr l n).bind λo=>(hget h o).map f
 |[],_=>rfl
 |(o,m)::r,hd=>by
  simp only[NV,dupF,NM,Oz]at hd;have ih:=B6 f h n r hd.2;rw[List.filterMap_cons];by_cases e:m=n
  ·subst e;simp only[lkr,JN,NH,O3];cases hq:hget h o with
   |none=>
    simp only;rw[ih,BR hd.1];rfl
   |some ob=>simp only[hget,JN,NH];rfl
  ·simp only[lkr,uS e,NS];cases hq:hget h o with
   |none=>simp only;exact ih
   |some ob=>simp only[hget,uS e,NS];exact ih
theorem xD (f:AV->AV)(hf:f .undef=.undef)(env:List (Nat×AV))(t:Nat):∀(keep:List Nat),look (keep.map λt=>(t,f (look env t))) t=f (look env t)\/look (keep.map λt=>(t,f (look env t))) t=.undef
 |[]=>.inr rfl
 |u::r=>by
  simp only[NV,look];cases hq:Nat.beq u t with
  |true=>
   have:=NB hq;subst this;exact .inl rfl
  |false=>exact xD f hf env t r
section
variable {P:Program} {A:Ann} {te0:TE} {fid:Nat} {Gl:Nat->Option Go.Obj} {C:ic} {w0:World} {M:MS} {n lo:Nat} {a0:Array Value} {R:Type}
theorem Di {c c':Cx}{l:List (Nat×Nat)}{h:List (Nat×Obj)}(hte:c'.te=c.te)(hw:c'.w=c.w)(hS:c'.S=c.S)(hsub:∀id o,hget h id=some o->c.hp id=some o)
  (hβ:∀id n,lk l id=some n->c'.β n=c.β id) (hhp:∀id n,lk l id=some n->c'.hp n=(hget h id).map (o8 l h))
  {s:S} {v:Value} (hr:RepS c s v):RepS c' (cP l h s) v:=by
 cases s with
 |undef=>exact hr
 |bool b=>exact hr
 |int k n=>exact hr
 |str s=>exact hr
 |err e=>simp only[cP,RepS]at hr ⊢;rw[hte];exact hr
 |fn f=>exact hr
 |nilS=>exact hr
 |sl k xs=>simp only[cP,RepS]at hr ⊢;rw[hte,hw,hS];exact hr
 |vw id g=>
  simp only[cP];split
  ·rename_i k xs gen hist frz nn hq hl;cases hg:Nat.beq g gen with
   |false=>exact hr.1
   |true=>
    have hg:=NB hg;subst hg;obtain⟨h1,o,h2,h3⟩:=hr;have:=hsub id _ hq;rw[h2]at this;cases this;refine⟨h1,_,by rw[hhp id nn hl,hq];rfl,?_⟩;intro k' xs' gen' hist' frz' he;cases he;refine⟨NG _,λ_=>?_,λh=>(h rfl).elim⟩;have:=(h3 _ _ _ _ _ rfl).2.1 rfl;unfold cz at this ⊢;rw[hβ id nn hl,hw];exact this
  ·exact hr.1
 |pv id g off len=>
  simp only[cP];split
  ·rename_i k xs gen hist frz nn hq hl;cases hg:Nat.beq g gen with
   |false=>exact hr.1
   |true=>
    have hg:=NB hg;subst hg;obtain⟨h1,o,h2,h3⟩:=hr;have:=hsub id _ hq;rw[h2]at this;cases this;refine⟨h1,_,by rw[hhp id nn hl,hq];rfl,?_⟩;intro k' xs' gen' hist' frz' he;cases he;refine⟨NG _,λ_=>?_⟩;have:=(h3 _ _ _ _ _ rfl).2 rfl;unfold cz at this ⊢;rw[hβ id nn hl,hw];exact this
  ·exact hr.1
 |ptr id g i p=>
  simp only[cP];split
  ·rename_i k xs gen hist frz nn hq hl;cases hg:Nat.beq g gen with
   |false=>exact hr.1
   |true=>
    have hg:=NB hg;subst hg;obtain⟨h1,o,h2,h3,h4,h5⟩:=hr;have:=hsub id _ hq;rw[h2]at this;cases this;refine⟨h1,_,by rw[hhp id nn hl,hq];rfl,h3,λcs he=>?_,λk' xs' gen' hist' frz' he=>?_⟩
    ·cases he
    ·cases he;refine⟨NG _,λ_=>?_⟩;have:=(h5 _ _ _ _ _ rfl).2 rfl;rw[hβ id nn hl];exact this
  ·rename_i cs nn hq hl;obtain⟨h1,o,h2,h3,h4,h5⟩:=hr;have:=hsub id _ hq;rw[h2]at this;cases this;refine⟨h1,_,by rw[hhp id nn hl,hq];rfl,h3,λcs' he hne=>?_,λk' xs' gen' hist' frz' he=>?_⟩
   ·cases he;rw[hβ id nn hl];exact h4 cs rfl (by rintro rfl;exact hne rfl)
   ·cases he
  ·exact hr.1
 |mp id=>
  simp only[cP];split
  ·rename_i k es nn hq hl;obtain⟨h1,o,h2,h3⟩:=hr;have:=hsub id _ hq;rw[h2]at this;cases this;refine⟨h1,_,by rw[hhp id nn hl,hq];rfl,λhe=>?_⟩;rw[hβ id nn hl];exact h3 rfl
  ·exact hr.1
 |ov id g i=>
  simp only[cP];split
  ·rename_i t off m k xs gen p nn hq hl;cases hg:(Nat.beq g gen&&Nat.beq nn id)with
   |false=>exact hr.1
   |true=>
    simp only[NM]at hg;have e1:=NB hg.1;have e2:=NB hg.2;subst e1;subst e2;obtain⟨h1,o,h2,h3⟩:=hr;have:=hsub _ _ hq;rw[h2]at this;cases this;refine⟨h1,_,by rw[hhp _ _ hl,hq];rfl,λt' off' m' k' xs' g' p' he=>?_⟩;cases he;refine⟨NG _,λ_=>?_⟩;rw[hte];exact(h3 _ _ _ _ _ _ _ rfl).2 rfl
  ·exact hr.1
 |oe id g i j p=>exact hr.1
 |bm f id=>
  simp only[cP];split
  ·rename_i cs nn hq hl;obtain⟨p,hv,o,h2,h3⟩:=hr;have:=hsub id _ hq;rw[h2]at this;cases this;refine⟨p,hv,_,by rw[hhp id nn hl,hq];rfl,λcs' he hne=>?_⟩;cases he;rw[hβ id nn hl];exact h3 cs rfl (by rintro rfl;exact hne rfl)
  ·exact mN hr
 |rp t i off=>simp only[cP,RepS]at hr ⊢;rw[hte];exact hr
 |rb t i=>simp only[cP,RepS]at hr ⊢;rw[hte];exact hr
 |ref t i=>simp only[cP,RepS]at hr ⊢;rw[hte];exact hr
 |nilP=>exact hr
 |co=>exact hr
 |clo f k x=>simp only[cP,RepS]at hr ⊢;rw[hte,hw,hS];exact hr
 |ipt k x p=>simp only[cP,RepS]at hr ⊢;rw[hte,hw,hS];exact hr
 |mv k xs=>exact hr
 |io k x=>exact hr
theorem pY {c c':Cx}{l:List (Nat×Nat)}{h:List (Nat×Obj)}(hs:∀s v,RepS c s v->RepS c' (cP l h s) v):∀{cs:List S} {vs:List Value},LR (RepS c) cs vs->LR (RepS c') (cs.map (cP l h)) vs
 |[],[],_=>trivial
 |_::_,_::_,q=>⟨hs _ _ q.1,pY hs q.2⟩
 |[],_::_,q=>q.elim
 |_::_,[],q=>q.elim
theorem q9 {c c':Cx}{l:List (Nat×Nat)}{h:List (Nat×Obj)}(hs:∀s v,RepS c s v->RepS c' (cP l h s) v):∀{vs:List (Bool×List S)} {us:List Value},
  LR (λ(p:Bool×List S) u=>if p.1 then ∃a,u=Value.agg a/\LR (RepS c) p.2 a.toList else ∃s,p.2=[s]/\RepS c s u) vs us ->
  LR (λ(p:Bool×List S) u=>if p.1 then ∃a,u=Value.agg a/\LR (RepS c') p.2 a.toList else ∃s,p.2=[s]/\RepS c' s u) (vs.map λv=>(v.1,v.2.map (cP l h))) us
 |[],[],_=>trivial
 |(true,cs)::_,_::_,q=>by
  obtain⟨⟨a,q1,q2⟩,q3⟩:=q;exact⟨⟨a,q1,pY hs q2⟩,q9 hs q3⟩
 |(false,cs)::_,_::_,q=>by
  obtain⟨⟨s,q1,q2⟩,q3⟩:=q;dsimp only at q1;subst q1;exact⟨⟨cP l h s,rfl,hs _ _ q2⟩,q9 hs q3⟩
 |[],_::_,q=>q.elim
 |_::_,[],q=>q.elim
theorem Dh {c c':Cx}{l:List (Nat×Nat)}{h:List (Nat×Obj)}(hs:∀s v,RepS c s v->RepS c' (cP l h s) v){a:AV}{v:Value}(hr:RepV c a v):RepV c' (xj l h a) v:=by
 cases a with
 |undef=>trivial
 |val g cs=>
  cases g with
  |true=>obtain⟨arr,h1,h2⟩:=hr;exact⟨arr,h1,pY hs h2⟩
  |false=>obtain⟨s,rfl,h2⟩:=hr;exact⟨_,rfl,hs _ _ h2⟩
 |tup vs=>obtain⟨arr,h1,h2⟩:=hr;exact⟨arr,h1,q9 hs h2⟩
theorem zD (l:List (Nat×Nat))(h:List (Nat×Obj))(o:Obj)(hl:(o8 l h o).live=true):o.live=true:=by
 cases o with
 |row k xs g hi f=>exact hl
 |box cs=>cases cs with
  |nil=>cases hl
  |cons=>rfl
 |mp k es=>rfl
 |col=>cases hl
 |fm=>cases hl
structure uV (c c':Cx):Prop where
 fwd:∀cid t off m k (xs:List k.T) g p,c.hp cid=some (.col t off m k xs g p)->∃g',c'.hp cid=some (.col t off m k xs g' p)
 bwd:∀cid t off m k (xs:List k.T) g p,c'.hp cid=some (.col t off m k xs g p)->∃g',c.hp cid=some (.col t off m k xs g' p)
theorem Man.ren {A:Ann}{te0:TE}{w0:World}{M:MS}{c c':Cx}(hM:Man A te0 w0 M c)(hte:c'.te=c.te)(hw:c'.w=c.w)(hS:c'.S=c.S)(hl:∀id b,Live c' id b->∃id',Live c id' b)(hc:uV c c'):Man A te0 w0 M c':=by
 have held:∀t,cO c' t ↔ cO c t:=by
  intro t;constructor
  ·rintro⟨cid,off,m,k,xs,g,p,q⟩;obtain⟨g',q⟩:=hc.bwd _ _ _ _ _ _ _ _ q;exact⟨_,_,_,_,_,_,_,q⟩
  ·rintro⟨cid,off,m,k,xs,g,p,q⟩;obtain⟨g',q⟩:=hc.fwd _ _ _ _ _ _ _ _ q;exact⟨_,_,_,_,_,_,_,q⟩
 have own:∀l b,OwnX c' l b->OwnX c l b:=by
  intro l b h;cases l with
  |man t i=>exact⟨(held t).1 h.1,by rw[<- hte];exact h.2⟩
  |own cid i=>
   obtain⟨⟨t,off,m,k,xs,g,p,q1,q2⟩,q3⟩:=h;obtain⟨g',q⟩:=hc.bwd _ _ _ _ _ _ _ _ q1;exact⟨⟨t,off,m,k,xs,g',p,q,q2⟩,by rw[<- hte];exact q3⟩
 have hR:ManR A c':=by
  refine⟨hM.r.lay,λcid t off m k xs g p h=>?_,λcid t off m k xs g p h i=>?_,λt i b hh hi=>?_,λcid t off k xs g p h i x b arr hx hi hb=>?_,λcid t off e xs g p h i x hx=>?_,λcid t off e xs g p h i es hx=>?_,λl b hb=>?_,λl l' b hb hb'=>hM.r.one l l' b (own l b hb) (own l' b hb')⟩
  ·obtain⟨g',q⟩:=hc.bwd _ _ _ _ _ _ _ _ h;exact hM.r.ci _ _ _ _ _ _ _ _ q
  ·obtain⟨g',q⟩:=hc.bwd _ _ _ _ _ _ _ _ h;rw[hte];exact hM.r.dom _ _ _ _ _ _ _ _ q i
  ·rw[hw];exact hM.r.box t i b ((held t).1 hh) (by rw[<- hte];exact hi)
  ·obtain⟨g',q⟩:=hc.bwd _ _ _ _ _ _ _ _ h;rw[hte,hw,hS];exact hM.r.dat _ _ _ _ _ _ _ q i x b arr hx (by rw[<- hte];exact hi) (by rw[<- hw];exact hb)
  ·obtain⟨g',q⟩:=hc.bwd _ _ _ _ _ _ _ _ h;rw[hte,hw,hS];exact hM.r.own _ _ _ e xs _ _ q i x hx
  ·obtain⟨g',q⟩:=hc.bwd _ _ _ _ _ _ _ _ h;rw[hte,hw];exact hM.r.mpp _ _ _ e xs _ _ q i es hx
  ·obtain⟨q1,q2,q3⟩:=hM.r.sep l b (own l b hb);rw[hw,hS];exact⟨q1,q2,λid hid=>by obtain⟨id',hid'⟩:=hl id b hid;exact q3 id' hid'⟩
 refine⟨hR,λl b h=>hM.f.wr l b (own l b h),λt i b arr hh hi hlt hb=>?_,by rw[hte];exact hM.f.tle,λt ht=>?_,λcid hn=>?_,λt i b hi=>hM.f.newb t i b (by rw[<- hte];exact hi)⟩
 ·obtain⟨arr0,r1,r2,r3⟩:=hM.f.frc t i b arr ((held t).1 hh) (by rw[<- hte];exact hi) hlt (by rw[<- hw];exact hb);refine⟨arr0,r1,r2,λo ho=>r3 o λcid off m k xs g p q=>?_⟩;obtain⟨g',q⟩:=hc.fwd _ _ _ _ _ _ _ _ q;exact ho _ _ _ _ _ _ _ q
 ·rw[hte];refine hM.f.same t λhf=>ht ⟨hf.1,λd hd=>?_⟩
  obtain⟨off,m,k,xs,g,p,q⟩:=hf.2 d hd;obtain⟨g',q⟩:=hc.fwd _ _ _ _ _ _ _ _ q;exact⟨_,_,_,_,_,_,q⟩
 ·rw[hte];refine hM.f.samo cid λt off m k xs g p q=>?_
  obtain⟨g',q⟩:=hc.fwd _ _ _ _ _ _ _ _ q;exact hn _ _ _ _ _ _ _ q
theorem py {l:List (Nat×Nat)}{h:List (Nat×Obj)}(hk:wK l h=true){cid t off:Nat}{m:Mode}{k:K}{xs:List k.T}{g:Nat}{p:Option Nat}(hc:hget h cid=some (.col t off m k xs g p)):lk l cid=some cid:=by
 have:=OW.1 hk _ (na hc);simp only at this;split at this
 ·rename_i n hn;rw[hn,NB this]
 ·cases this
theorem zM {keep:List Nat}{σ:St}{a:Act}{w:World}(hok:Ok A te0 Gl w0 M n lo a0 σ a w):Ok A te0 Gl w0 M n lo a0 (norm keep σ) a w:=by
 obtain⟨c,rfl,hc⟩:=hok;have hsub:∀id o,hget σ.heap id=some o->c.hp id=some o:=by
  intro id o ho;rw[hc.hp];exact ho
 unfold norm;generalize ux σ.heap keep (Fm σ.env keep [])=l;dsimp only;cases hd:dupF (l.map (·.1))&&dupF (l.map (·.2))&&wK l σ.heap with
 |false=>
  simp only[NS];exact⟨c,rfl,hc.te,hc.hp,hc.mem,⟨hc.regs.size,hc.regs.defers,λt=>trivial⟩,hc.glob,hc.pin,hc.man⟩
 |true=>
  simp only[NH];simp only[NM]at hd;obtain⟨⟨hd1,hd2⟩,hd3⟩:=hd;have hgr:=λn=>B6 (o8 l σ.heap) σ.heap n l hd2
  generalize hH:(l.filterMap λp=>match hget σ.heap p.1 with|some o=>some (p.2,o8 l σ.heap o)|none=>none)=H' at hgr ⊢;obtain⟨c',hc'⟩:∃c':Cx,c'={ c with hp:=hget H',β:=λj=>(lkr l j).bind c.β }:=⟨_,rfl⟩
  have e1:c'.te=c.te:=by rw[hc']
  have e2:c'.w=c.w:=by rw[hc']
  have e3:c'.S=c.S:=by rw[hc']
  have e4:c'.hp=hget H':=by rw[hc']
  have e5:∀j,c'.β j=(lkr l j).bind c.β:=λj=>by rw[hc']
  have hfw:∀id n,lk l id=some n->lkr l n=some id:=λid n h=>uC hd2 (Fz h)
  have hβ:∀id n,lk l id=some n->c'.β n=c.β id:=λid n h=>by rw[e5,hfw id n h];rfl
  have hhp:∀id n,lk l id=some n->c'.hp n=(hget σ.heap id).map (o8 l σ.heap):=λid n h=>by rw[e4,hgr,hfw id n h];rfl
  have hs:∀s v,RepS c s v->RepS c' (cP l σ.heap s) v:=λs v hr=>Di e1 e2 e3 hsub hβ hhp hr
  have hlive:∀id b,Live c' id b->∃o,lkr l id=some o/\Live c o b:=by
   rintro id b ⟨h1,o,h2,h3⟩;rw[e4,hgr]at h2;rw[e5]at h1;cases hq:lkr l id with
   |none=>rw[hq]at h2;cases h2
   |some u=>
    rw[hq]at h1 h2;simp only[O3]at h1 h2;cases hq':hget σ.heap u with
    |none=>rw[hq']at h2;cases h2
    |some o'=>
     rw[hq']at h2;simp only[OS,Nz]at h2;subst h2;exact⟨u,rfl,h1,o',hsub u o' hq',zD _ _ _ h3⟩
  have hren:uV c c':=by
   refine⟨λcid t off m k xs g p q=>?_,λcid t off m k xs g p q=>?_⟩
   ·have q':hget σ.heap cid=some (.col t off m k xs g p):=by rw[<- hc.hp];exact q
    exact⟨0,by rw[hhp cid cid (py hd3 q'),q'];rfl⟩
   ·rw[e4,hgr]at q;cases hq:lkr l cid with
    |none=>rw[hq]at q;cases q
    |some u=>
     rw[hq]at q;simp only[O3]at q;cases hq':hget σ.heap u with
     |none=>rw[hq']at q;cases q
     |some o'=>
      rw[hq']at q;simp only[OS,Nz]at q;cases o' with
      |col t2 off2 m2 k2 xs2 g2 p2=>
       simp only[o8]at q;cases q;have h1:=Fz (py hd3 hq');have:=zL hd1 h1 (vP hq);subst this;exact⟨_,hsub _ _ hq'⟩
      |row=>cases q
      |box=>cases q
      |mp=>cases q
      |fm=>cases q
  have hman:Man A te0 w0 M c':=hc.man.ren e1 e2 e3 (λid b hl=>by obtain⟨o,_,h2⟩:=hlive id b hl;exact⟨o,h2⟩) hren;refine⟨c',e2,by rw[e1];exact hc.te,e4,⟨by rw[e2];exact hc.mem.fr,by rw[e2,e3];exact hc.mem.below,λid o ho=>?_,λid b hl=>?_,λid id' b hl hl'=>?_,by rw[e3];exact hc.mem.sup,by rw[e3];exact hc.mem.inf⟩,
   ⟨hc.regs.size,hc.regs.defers,λt=>?_⟩,by rw[e2,e3];exact hc.glob,hc.pin,hman⟩
  ·rw[e4,hgr]at ho;cases hq:lkr l id with
   |none=>rw[hq]at ho;cases ho
   |some u=>
    rw[hq]at ho;simp only[O3]at ho;cases hq':hget σ.heap u with
    |none=>rw[hq']at ho;cases ho
    |some o'=>
     rw[hq']at ho;simp only[OS,Nz]at ho;subst ho;have hro:=hc.mem.obj u o' (hsub u o' hq');have hb:c'.β id=c.β u:=by rw[e5,hq];rfl
     cases o' with
     |row k xs gen hist frz=>
      simp only[RepO,o8]at hro ⊢;rw[hb];unfold MZ at hro ⊢;rw[e1,e2,e3];exact hro
     |mp k es=>
      obtain⟨b,ents,clock,h1,h2,h3⟩:=hro;exact⟨b,ents,clock,hb.trans h1,by rw[e2];exact h2,by rw[e1];exact h3⟩
     |col=>trivial
     |fm=>exact λh=>(h rfl).elim
     |box cs=>
      intro hne;obtain⟨b,arr,h1,h2,h3⟩:=hro (by rintro rfl;exact hne rfl);refine⟨b,arr,hb.trans h1,by rw[e2];exact h2,?_⟩;rw[OC];exact pY hs h3
  ·obtain⟨o,_,h2⟩:=hlive id b hl;rw[e2,e3];exact hc.mem.live o b h2
  ·obtain⟨o,h1,h2⟩:=hlive id b hl;obtain⟨o',h1',h2'⟩:=hlive id' b hl';have:=hc.mem.one o o' b h2 h2';subst this;exact zL hd1 (vP h1) (vP h1')
  ·rcases xD (xj l σ.heap) rfl σ.env t keep with h|h
   ·show RepV c' (look (keep.map λt=>(t,xj l σ.heap (look σ.env t))) t) _;rw[h];exact Dh hs (hc.regs.rep t)
   ·show RepV c' (look (keep.map λt=>(t,xj l σ.heap (look σ.env t))) t) _;rw[h];trivial
def exC:Ex->Exit
 |.normal=>.normal
 |.ret=>.ret
 |.exit id=>.exit id
theorem ET {c:Cx}{n:Nat}{env:List (Nat×AV)}{a:Act}(h:Regs c n env a)(x:Operand):RepV c (Mq env x) (a.eval x):=by
 cases x with
 |tmp t=>exact h.rep t
 |const v=>exact xi c v
 |global g=>trivial
 |func f=>exact⟨_,rfl,rfl⟩
theorem xe (hC:j8 P A Gl C)(hmx:P.follows .mixedOrders=true){rr:R}(id:Nat){ops:Array Oper}{d:Bool}{σ:St}{K:St->Option R}{a:Act}{w:World}{Q:Exit->Act->World->Prop}
  (h:xf P A fid n lo C ops d σ K=some rr) (hok:Ok A te0 Gl w0 M n lo a0 σ a w) (hK:∀σ' a' w',K σ'=some rr->Ok A te0 Gl w0 M n lo a0 σ' a' w'->Q .normal a' w'):(Code.region id ops d).wp P Q a w:=by
  cases d with
  |false=>
   refine wp_region (xg hC (λσ' a' w' hk hok'=>hK σ' a' w' hk hok') ops.toList (List.range ops.size) σ a w (by simp) (λj i hj=>?_) h hok);rw[Q2]at hj
   ·cases hj;rw[NR]
   ·have:=(NJ.1 hj).1;simpa using this
  |true=>
   simp only[xf]at h;cases hed:mq 0 ops.toList with
   |false=>rw[hed]at h;cases h
   |true=>
    rw[hed]at h;simp only[NH]at h;refine Dj hC hmx h hed (λlg σ' hk=>?_) hok;cases hl:zQ ops (Region.before ops) 0 ops.toList lg.reverse with
    |false=>rw[hl]at hk;cases hk
    |true=>
     rw[hl]at hk;simp only[NH]at hk;refine⟨rfl,λσ'' a w e1 e2 hok'=>hK σ' a w hk ?_⟩;obtain⟨c,hcw,hc⟩:=hok';exact⟨c,hcw,hc.te,hc.hp.trans e2,hc.mem,⟨hc.regs.size,hc.regs.defers,λt=>by rw[<- e1];exact hc.regs.rep t⟩,hc.glob,hc.pin,hc.man⟩
theorem Dd (hC:j8 P A Gl C)(hmx:P.follows .mixedOrders=true){fuel:Nat}{rr:R}:∀(c:Code)(blk:Nat)(σ:St)(K:Ex->St->Option R)(a:Act)(w:World)(Q:Exit->Act->World->Prop),
  cR P A fid n lo fuel C blk c σ K=some rr->Ok A te0 Gl w0 M n lo a0 σ a w->(∀e σ' a' w',K e σ'=some rr->Ok A te0 Gl w0 M n lo a0 σ' a' w'->Q (exC e) a' w')->c.wp P Q a w:=by
 intro c
 induction c with
 |skip=>intro blk σ K a w Q h hok hK;exact wp_skip (hK .normal σ a w h hok)
 |region id ops d=>
  intro blk σ K a w Q h hok hK;simp only[cR]at h;split at h
  ·exact xe hC hmx id h hok λσ' a' w' hk hok'=>hK .normal σ' a' w' hk hok'
  ·rename_i keep _;cases fuel with
   |zero=>cases h
   |succ f=>exact xe hC hmx id h (zM hok) λσ' a' w' hk hok'=>hK .normal σ' a' w' hk hok'
 |seq x y ihx ihy=>
  intro blk σ K a w Q h hok hK;simp only[cR]at h;refine wp_seq (ihx blk σ _ a w _ h hok λe σ' a' w' hk hok'=>?_);cases e with
  |normal=>exact ihy blk σ' K a' w' Q hk hok' hK
  |ret=>exact hK .ret σ' a' w' hk hok'
  |exit id=>exact hK (.exit id) σ' a' w' hk hok'
 |cond cnd x y ihx ihy=>
  intro blk σ K a w Q h hok hK;simp only[cR]at h;split at h
  ·rename_i v hv;have hb:a.eval cnd=.bool v:=by
    obtain⟨c,rfl,hc⟩:=hok;exact aF (λx=>ET hc.regs x) hv
   cases v with
   |true=>exact wp_cond_true hb (ihx blk σ K a w Q h hok hK)
   |false=>exact wp_cond_false hb (ihy blk σ K a w Q h hok hK)
  ·cases h
 |block id x ih=>
  intro blk σ K a w Q h hok hK;simp only[cR]at h;refine wp_block (ih id σ _ a w _ h hok λe σ' a' w' hk hok'=>?_);cases e with
  |normal=>exact hK .normal σ' a' w' hk hok'
  |ret=>exact hK .ret σ' a' w' hk hok'
  |exit j=>
   show if j=id then Q .normal a' w' else Q (.exit j) a' w'
   dsimp only at hk;cases hq:Nat.beq j id with
   |true=>
    rw[hq]at hk;rw[NI (NB hq)];exact hK .normal σ' a' w' hk hok'
   |false=>
    rw[hq]at hk;rw[ND (λe=>by rw[e]at hq;simp at hq)];exact hK (.exit j) σ' a' w' hk hok'
 |loop x ih=>
  intro blk σ K a w Q h hok hK;simp only[cR]at h;have key:∀(m:Nat) (σ:St) (a:Act) (w:World),Dv (A.keep fid blk) (λσ K'=>cR P A fid n lo fuel C blk x σ K') m σ K=some rr->Ok A te0 Gl w0 M n lo a0 σ a w->Code.rounds P x Q m a w:=by
   intro m
   induction m with
   |zero=>intro σ a w h _;cases h
   |succ m ihm=>
    intro σ a w h hok;simp only[Dv]at h;rw[rounds_succ];refine ih blk σ _ a w _ h hok λe σ' a' w' hk hok'=>?_
    cases e with
    |normal=>exact ihm _ a' w' hk (zM hok')
    |ret=>exact hK .ret σ' a' w' hk hok'
    |exit id=>exact hK (.exit id) σ' a' w' hk hok'
  exact wp_loop_rounds fuel (key fuel _ a w h (zM hok))
 |exit id=>intro blk σ K a w Q h hok hK;exact wp_exit (hK (.exit id) σ a w h hok)
 |ret=>intro blk σ K a w Q h hok hK;exact wp_ret (hK .ret σ a w h hok)
 |_=>intros;rename_i h _ _;cases h
end
end Go.Eng
namespace Go.Eng
open Go.RowKit
theorem fo (a b:List S):ba (a++b)=ba a++ba b:=by
 induction a with
 |nil=>rfl
 |cons s r ih=>simp only[N4,ba,ih,N7]
theorem lj {α β:Type}(f:α->Option β):∀(l:List α)(m:List β),hP (l.map f)=some m->m.length=l.length/\∀(j:Nat) x,l[j]?=some x->∃y,m[j]?=some y/\f x=some y
 |[],m,h=>by simp[hP]at h;subst h;simp
 |x::r,m,h=>by
  cases hf:f x with
  |none=>simp[hP,hf]at h
  |some y=>
   simp only[NV,hf,hP]at h;cases hr:hP (r.map f)with
   |none=>rw[hr]at h;cases h
   |some l=>
    rw[hr]at h;cases h;obtain⟨h1,h2⟩:=lj f r l hr;refine⟨by simp[h1],λj x' hj=>?_⟩;cases j with
    |zero=>simp at hj;subst hj;exact⟨y,rfl,hf⟩
    |succ j=>simpa using h2 j x' (by simpa using hj)
theorem EX {hp:Nat->Option Obj}(ks:List K):∀(css:List (List S))(x:Ts ks),EY hp ks css=some x->css.length=ks.length /\
  ∀(j:Nat) k cs,ks[j]?=some k->css[j]?=some cs->∃y,rei1 hp k cs=some y/\(lvs ks x)[j]?=some (k.isAgg,bg k y):=by
 induction ks with
 |nil=>
  intro css x h;cases css with
  |nil=>exact⟨rfl,λj k cs h=>by cases h⟩
  |cons a b=>cases h
 |cons k r ih=>
  intro css x h;cases r with
  |nil=>
   cases css with
   |nil=>cases h
   |cons cs l=>
    cases l with
    |nil=>
     refine⟨rfl,λj k' cs' h1 h2=>?_⟩;cases j with
     |zero=>cases h1;cases h2;exact⟨x,h,rfl⟩
     |succ j=>cases h1
    |cons _ _=>cases h
  |cons k' r=>
   cases css with
   |nil=>cases h
   |cons cs l=>
    obtain⟨y,hy,h⟩:=PN.1 (show(rei1 hp k cs).bind (λx=>(EY hp (k'::r) l).bind λy=>some (x,y))=some x from h);obtain⟨z,hz,h⟩:=PN.1 h;cases h;obtain⟨h1,h2⟩:=ih l z hz;refine⟨congrArg (·+1) h1,λj k1 cs1 e1 e2=>?_⟩;cases j with
    |zero=>cases e1;cases e2;exact⟨y,hy,rfl⟩
    |succ j=>exact h2 j k1 cs1 e1 e2
def fE:List (Bool×K)->List (Bool×List S)->List Nat
 |(false,_)::r,(_,cs)::l=>ba cs++fE r l
 |(true,_)::r,_::l=>fE r l
 |_,_=>[]
def lQ:List (Bool×K)->List (Bool×List S)->List Nat
 |(true,_)::r,(_,cs)::l=>ba cs++lQ r l
 |(false,_)::r,_::l=>lQ r l
 |_,_=>[]
theorem rk (x:Nat):∀(rs:List (Bool×K))(vs:List (Bool×List S)),rs.length=vs.length->(ba (vs.map (·.2)).flatten).count x=(fE rs vs).count x+(lQ rs vs).count x
 |[],[],_=>by simp[ba,fE,lQ]
 |(true,_)::r,(_,cs)::l,h=>by
  have:=rk x r l (by simpa using h);simp only[NV,Pv,fo,QI,fE,lQ];omega
 |(false,_)::r,(_,cs)::l,h=>by
  have:=rk x r l (by simpa using h);simp only[NV,Pv,fo,QI,fE,lQ];omega
 |[],_::_,h=>by simp at h
 |_::_,[],h=>by simp at h
theorem nW {x:Nat}:∀(rs:List (Bool×K))(vs:List (Bool×List S)),x∈fE rs vs->∃(j:Nat)(k:K)(g:Bool)(cs:List S),rs[j]?=some (false,k)/\vs[j]?=some (g,cs)/\x∈ba cs
 |[],_,h=>by simp[fE]at h
 |_::_,[],h=>by simp[fE]at h
 |(true,_)::r,_::l,h=>by
  obtain⟨j,k,g,cs,h1,h2,h3⟩:=nW r l (by simpa[fE]using h);exact⟨j+1,k,g,cs,by simpa using h1,by simpa using h2,h3⟩
 |(false,k)::r,(g,cs)::l,h=>by
  simp only[fE,NU]at h;rcases h with h|h
  ·exact⟨0,k,g,cs,rfl,rfl,h⟩
  ·obtain⟨j,k,g,cs,h1,h2,h3⟩:=nW r l h;exact⟨j+1,k,g,cs,by simpa using h1,by simpa using h2,h3⟩
theorem uz {x:Nat}:∀(rs:List (Bool×K))(vs:List (Bool×List S))(j:Nat) k g cs,rs[j]?=some (false,k)->vs[j]?=some (g,cs)->x∈ba cs->x∈fE rs vs
 |[],_,_,_,_,_,h,_,_=>by simp at h
 |_::_,[],_,_,_,_,_,h,_=>by simp at h
 |(b,k0)::r,(g0,c0)::l,j,k,g,cs,h1,h2,h3=>by
  cases j with
  |zero=>simp at h1 h2;obtain⟨rfl,rfl⟩:=h1;obtain⟨rfl,rfl⟩:=h2;simp[fE,h3]
  |succ j=>
   have:=uz r l j k g cs (by simpa using h1) (by simpa using h2) h3;cases b<;>simp[fE,this]
theorem uy {x:Nat}:∀(rs:List (Bool×K))(vs:List (Bool×List S))(j:Nat) k g cs,rs[j]?=some (true,k)->vs[j]?=some (g,cs)->x∈ba cs->x∈lQ rs vs
 |[],_,_,_,_,_,h,_,_=>by simp at h
 |_::_,[],_,_,_,_,_,h,_=>by simp at h
 |(b,k0)::r,(g0,c0)::l,j,k,g,cs,h1,h2,h3=>by
  cases j with
  |zero=>simp at h1 h2;obtain⟨rfl,rfl⟩:=h1;obtain⟨rfl,rfl⟩:=h2;simp[lQ,h3]
  |succ j=>
   have:=uy r l j k g cs (by simpa using h1) (by simpa using h2) h3;cases b<;>simp[lQ,this]
theorem BH {h:List (Nat×Obj)}{all:List Nat}:∀(rs:List (Bool×K))(vs:List (Bool×List S)),rs.length=vs.length->ownV h all rs vs=true->∀(j:Nat) own k g cs,rs[j]?=some (own,k)->vs[j]?=some (g,cs)->g=k.isAgg /\
  (own=true->g=false/\(cs=[.nilS]\/∃id gen k xs hist,cs=[.vw id gen]/\hget h id=some (.row k xs gen hist false)/\all.count id=1))
 |[],_,_,_,_,_,_,_,_,h,_=>by simp at h
 |_::_,[],hl,_,_,_,_,_,_,_,_=>by simp at hl
 |(b,k0)::r,(g0,c0)::l,hl,ho,j,own,k,g,cs,h1,h2=>by
  simp only[ownV,NM]at ho;obtain⟨⟨ho1,ho2⟩,ho3⟩:=ho;cases j with
  |succ j=>exact BH r l (by simpa using hl) ho3 j own k g cs (by simpa using h1) (by simpa using h2)
  |zero=>
   simp at h1 h2;obtain⟨rfl,rfl⟩:=h1;obtain⟨rfl,rfl⟩:=h2;refine⟨by simpa using ho2,λe=>?_⟩;subst e;simp only[NH,NM,Oz]at ho1;refine⟨ho1.1,?_⟩;have ho1:=ho1.2;split at ho1
   ·exact .inl rfl
   ·rename_i id gg _;split at ho1
    ·rename_i k xs gen hist hq;simp only[NM]at ho1;have e:=NB ho1.1;subst e;exact .inr ⟨id,_,_,xs,hist,rfl,hq,NB ho1.2⟩
    ·cases ho1
   ·cases ho1
theorem zC {te:TE}{w':World}{S' okb:Nat->Prop}:∀(rs:List (Bool×K))(comps:List (Bool×List S))(vals:List Value),rs.length=comps.length->rs.length=vals.length ->
  (∀(j:Nat) own k g cs u,rs[j]?=some (own,k)->comps[j]?=some (g,cs)->vals[j]?=some u->(own=true->∃e xs ob,cs=[.sl e xs]/\bR te w' S' ob e xs u/\∀b,ob=some b->okb b/\¬ S' b)/\(own=false->RepV (clC te w' S') (.val g cs) u)) ->
  ResV te w' S' okb rs comps vals
 |[],[],[],_,_,_=>trivial
 |(true,k)::r,(g,cs)::l,u::vs,h1,h2,h=>by
  obtain⟨e,xs,ob,rfl,q1,q2⟩:=(h 0 true k g cs u rfl rfl rfl).1 rfl;exact⟨⟨ob,q1,q2⟩,zC r l vs (by simpa using h1) (by simpa using h2) λj own k g cs u e1 e2 e3=>h (j+1) own k g cs u (by simpa using e1) (by simpa using e2) (by simpa using e3)⟩
 |(false,k)::r,(g,cs)::l,u::vs,h1,h2,h=>by
  exact⟨(h 0 false k g cs u rfl rfl rfl).2 rfl,zC r l vs (by simpa using h1) (by simpa using h2) λj own k g cs u e1 e2 e3=>h (j+1) own k g cs u (by simpa using e1) (by simpa using e2) (by simpa using e3)⟩
 |[],_::_,_,h,_,_=>by simp at h
 |_::_,[],_,h,_,_=>by simp at h
 |[],[],_::_,_,h,_=>by simp at h
 |_::_,_::_,[],_,h,_=>by simp at h
theorem gZ (a:AV):(∃k xs,a=.val false [.mv k xs])\/(∃k x,a=.val false [.io k x])\/((∀k xs,a=.val false [.mv k xs]->False)/\(∀k x,a=.val false [.io k x]->False)):=by
 by_cases h1:∃k xs,a=.val false [.mv k xs]
 ·exact .inl h1
 ·by_cases h2:∃k x,a=.val false [.io k x]
  ·exact .inr (.inl h2)
  ·exact .inr (.inr ⟨λk xs e=>h1 ⟨k,xs,e⟩,λk x e=>h2 ⟨k,x,e⟩⟩)
theorem vR (i:Nat)(a:AV)(r:List AV)(h1:∀k xs,a=.val false [.mv k xs]->False)(h2:∀k x,a=.val false [.io k x]->False)(h3:isCo a=false):fL i (a::r)=(i,a)::fL (i+1) r:=by
 have h3':∀cid t off m k xs,a=.val false [.co cid t off m k xs]->False:=by
  rintro _ _ _ _ _ _ rfl;cases h3
 rw[fL]<;>assumption
theorem p8 (i:Nat)(a:AV)(r:List AV)(h1:∀k xs,a=.val false [.mv k xs]->False)(h2:∀k x,a=.val false [.io k x]->False)(h3:isCo a=false):cW i (a::r)=cW (i+1) r:=by
 have h3':∀cid t off m k xs,a=.val false [.co cid t off m k xs]->False:=by
  rintro _ _ _ _ _ _ rfl;cases h3
 rw[cW]<;>assumption
theorem iw (i:Nat)(a:AV)(r:List AV)(h2:∀k x,a=.val false [.io k x]->False)(h3:isCo a=false):bT i (a::r)=bT (i+1) r:=by
 have h3':∀cid t off m k xs,a=.val false [.co cid t off m k xs]->False:=by
  rintro _ _ _ _ _ _ rfl;cases h3
 rw[bT]<;>assumption
theorem re (a:AV)(r:List AV)(h2:∀k x,a=.val false [.io k x]->False)(h3:isCo a=false):ioKs (a::r)=ioKs r:=by
 have h3':∀cid t off m k xs,a=.val false [.co cid t off m k xs]->False:=by
  rintro _ _ _ _ _ _ rfl;cases h3
 rw[ioKs]<;>assumption
theorem xE:∀(args:List AV)(i t:Nat),(∀a∈args,isCo a=false)->look (fL i args) t=(if t<i then .undef else match args[t-i]? with|some (.val false [.mv _ _])=>.val false [.vw t 0]|some (.val false [.io _ _])=>.val false [.ptr t 0 0 []]|some a=>a|none=>.undef)
 |[],i,t,_=>by simp[fL,look]
 |a::r,i,t,hco=>by
  have ih:=xE r (i+1) t (λa h=>hco a (by simp[h]));have key:∀v,look ((i,v)::fL (i+1) r) t=if i=t then v else look (fL (i+1) r) t:=λv=>kF i v _ t
  have hs:¬ t<i->¬ i=t->(a::r)[t-i]?=r[t-(i+1)]?/\¬ t<i+1:=by
   intro h1 h2;refine⟨?_,by omega⟩;rw[show t-i=(t-(i+1))+1 by omega];simp
  have hz:i=t->¬ t<i/\(a::r)[t-i]?=some a:=by rintro rfl;simp
  rcases gZ a with⟨k,xs,rfl⟩|⟨k,x,rfl⟩|⟨q1,q2⟩
  ·rw[fL,key];by_cases h2:i=t
   ·rw[NI h2,ND (hz h2).1,(hz h2).2];subst h2;rfl
   ·rw[ND h2,ih];by_cases h1:t<i
    ·rw[NI h1,NI (by omega)]
    ·rw[ND h1,ND (hs h1 h2).2,(hs h1 h2).1]
  ·rw[fL,key];by_cases h2:i=t
   ·rw[NI h2,ND (hz h2).1,(hz h2).2];subst h2;rfl
   ·rw[ND h2,ih];by_cases h1:t<i
    ·rw[NI h1,NI (by omega)]
    ·rw[ND h1,ND (hs h1 h2).2,(hs h1 h2).1]
  ·rw[vR i a r q1 q2 (hco a (by simp)),key];by_cases h2:i=t
   ·rw[NI h2,ND (hz h2).1,(hz h2).2];split
    ·rename_i e;cases e;exact(q1 _ _ rfl).elim
    ·rename_i e;cases e;exact(q2 _ _ rfl).elim
    ·rename_i e;cases e;rfl
    ·rename_i e;cases e
   ·rw[ND h2,ih];by_cases h1:t<i
    ·rw[NI h1,NI (by omega)]
    ·rw[ND h1,ND (hs h1 h2).2,(hs h1 h2).1]
theorem rm:∀(args:List AV)(i t:Nat)(o:Obj),(∀a∈args,isCo a=false)->hget (cW i args) t=some o->i<=t/\((∃k xs,args[t-i]?=some (.val false [.mv k xs])/\o=.row k xs 0 [] false)\/∃k x,args[t-i]?=some (.val false [.io k x])/\o=.box (bg k x))
 |[],i,t,o,_,h=>by simp[cW,hget]at h
 |a::r,i,t,o,hco,h=>by
  have key:∀v,hget ((i,v)::cW (i+1) r) t=if i=t then some v else hget (cW (i+1) r) t:=by
   intro v;simp only[hget];by_cases e:i=t
   ·subst e;simp
   ·have:Nat.beq i t=false:=by
     cases hb:Nat.beq i t with
     |true=>exact(e (NB hb)).elim
     |false=>rfl
    rw[this,ND e];rfl
  have rcd:hget (cW (i+1) r) t=some o->i<=t/\((∃k xs,(a::r)[t-i]?=some (.val false [.mv k xs])/\o=.row k xs 0 [] false)\/∃k x,(a::r)[t-i]?=some (.val false [.io k x])/\o=.box (bg k x)):=by
   intro h;obtain⟨h1,h2⟩:=rm r (i+1) t o (λa h=>hco a (by simp[h])) h;have:(a::r)[t-i]?=r[t-(i+1)]?:=by rw[show t-i=(t-(i+1))+1 by omega];simp
   rw[this];exact⟨by omega,h2⟩
  rcases gZ a with⟨k,xs,rfl⟩|⟨k,x,rfl⟩|⟨q1,q2⟩
  ·rw[cW,key]at h;split at h
   ·rename_i e;subst e;cases h;exact⟨NG _,.inl ⟨k,xs,by simp,rfl⟩⟩
   ·exact rcd h
  ·rw[cW,key]at h;split at h
   ·rename_i e;subst e;cases h;exact⟨NG _,.inr ⟨k,x,by simp,rfl⟩⟩
   ·exact rcd h
  ·rw[p8 i a r q1 q2 (hco a (by simp))]at h;exact rcd h
theorem kG:∀(args:List AV)(i t:Nat)(a:AV),(∀a∈args,isCo a=false)->i<=t->args[t-i]?=some a->(∀k xs,a=.val false [.mv k xs]->hget (cW i args) t=some (.row k xs 0 [] false))/\(∀k x,a=.val false [.io k x]->hget (cW i args) t=some (.box (bg k x)))
 |[],_,_,_,_,_,h=>by simp at h
 |a0::r,i,t,a,hco,hi,h=>by
  have key:∀v,hget ((i,v)::cW (i+1) r) t=if i=t then some v else hget (cW (i+1) r) t:=by
   intro v;simp only[hget];by_cases e:i=t
   ·subst e;simp
   ·have:Nat.beq i t=false:=by
     cases hb:Nat.beq i t with
     |true=>exact(e (NB hb)).elim
     |false=>rfl
    rw[this,ND e];rfl
  by_cases e:i=t
  ·subst e;simp at h;subst h;refine⟨?_,?_⟩
   ·rintro k xs rfl;rw[cW,key,NI rfl]
   ·rintro k x rfl;rw[cW,key,NI rfl]
  ·have h':r[t-(i+1)]?=some a:=by rw[show t-i=(t-(i+1))+1 by omega]at h;simpa using h
   have ih:=kG r (i+1) t a (λa h=>hco a (by simp[h])) (by omega) h';rcases gZ a0 with⟨k,xs,rfl⟩|⟨k,x,rfl⟩|⟨q1,q2⟩
   ·rw[cW,key,ND e];exact ih
   ·rw[cW,key,ND e];exact ih
   ·rw[p8 i a0 r q1 q2 (hco a0 (by simp))];exact ih
theorem Fy:∀(l:List Nat)(i:Nat),i∈l->i<=1048575->i<loOf l
 |[],_,h,_=>by simp at h
 |a::r,i,h,hi=>by
  simp only[loOf];rcases NO.1 h with rfl|h
  ·rw[On hi,O2];cases hb:Nat.ble (loOf r) i with
   |true=>simp
   |false=>
    simp only[NS];rcases Oy i (loOf r)with q|q
    ·exact q
    ·rw[On q]at hb;cases hb
  ·have:=Fy r i h hi;cases hb:Nat.ble (loOf r) a&&Nat.ble a 1048575 with
   |true=>
    simp only[NM]at hb;have:=N3 hb.1;simp only[NH];omega
   |false=>exact this
theorem vk {te:TE}{w':World}{S':Nat->Prop}:∀(args:List AV)(bs:List (Option Nat))(i:Nat)(l:List (Bool×List S)),(∀a∈args,isCo a=false)->args.length=bs.length->l.length=(bT i args).length ->
  (∀(m j:Nat) p,(bT i args)[m]?=some j->l[m]?=some p->∃k b,(ioKs args)[m]?=some k/\bs[j-i]?=some (some b)/\za te w' S' b p.2/\¬ S' b/\p.2.length=k.size)->pK te w' S' args bs l
 |[],[],_,[],_,_,_,_=>rfl
 |[],[],_,_::_,_,_,h,_=>by simp[bT]at h
 |[],_::_,_,_,_,h,_,_=>by simp at h
 |_::_,[],_,_,_,h,_,_=>by simp at h
 |a::r,ob::bs,i,l,hco,h1,h2,h=>by
  have hge:∀(args:List AV) (i m j:Nat),(∀a∈args,isCo a=false)->(bT i args)[m]?=some j->i<=j:=by
   intro args
   induction args with
   |nil=>intro i m j _ h;simp[bT]at h
   |cons a r ih=>
    intro i m j hco h;by_cases hq:∃k x,a=.val false [.io k x]
    ·obtain⟨k,x,rfl⟩:=hq;rw[bT]at h;cases m with
     |zero=>simp at h;omega
     |succ m=>have:=ih (i+1) m j (λa h=>hco a (by simp[h])) (by simpa using h);omega
    ·rw[iw i a r (λk x e=>hq ⟨k,x,e⟩) (hco a (by simp))]at h;have:=ih (i+1) m j (λa h=>hco a (by simp[h])) h;omega
  by_cases hq:∃k x,a=.val false [.io k x]
  ·obtain⟨k,x,rfl⟩:=hq;rw[bT]at h2 h;cases l with
   |nil=>simp at h2
   |cons p l=>
    obtain⟨k',b,q0,q1,q2,q3,q4⟩:=h 0 i p rfl rfl;simp[ioKs]at q0;subst q0;simp at q1;refine⟨⟨b,q1,q2,q3,q4⟩,vk r bs (i+1) l (λa h=>hco a (by simp[h])) (by simpa using h1) (by simpa using h2) λm j p e1 e2=>?_⟩;obtain⟨k',b',z0,z1,z2⟩:=h (m+1) j p (by simpa using e1) (by simpa using e2);have:=hge r (i+1) m j (λa h=>hco a (by simp[h])) e1;refine⟨k',b',by simpa[ioKs]using z0,?_,z2⟩;rw[show j-i=(j-(i+1))+1 by omega]at z1;simpa using z1
  ·have hn:=λk x e=>hq ⟨k,x,e⟩
   rw[iw i a r hn (hco a (by simp))]at h2 h;have:=vk (te:=te) (w':=w') (S':=S') r bs (i+1) l (λa h=>hco a (by simp[h])) (by simpa using h1) h2 λm j p e1 e2=>by
    obtain⟨k',b',z0,z1,z2⟩:=h m j p e1 e2;have:=hge r (i+1) m j (λa h=>hco a (by simp[h])) e1;refine⟨k',b',by rw[re a r hn (hco a (by simp))]at z0;exact z0,?_,z2⟩;rw[show j-i=(j-(i+1))+1 by omega]at z1;simpa using z1
   rw[pK]
   ·exact this
   ·intro k x _ _ _ e;exact hn k x e
   ·intro k x _ e;exact hn k x e
theorem rf:∀(args:List AV)(i m j:Nat),(∀a∈args,isCo a=false)->(bT i args)[m]?=some j->i<=j/\∃(k:K)(x:k.T),args[j-i]?=some (.val false [.io k x])/\(ioKs args)[m]?=some k
 |[],_,_,_,_,h=>by simp[bT]at h
 |a::r,i,m,j,hco,h=>by
  have sh:∀(m:Nat),(bT (i+1) r)[m]?=some j->i<=j/\∃(k:K) (x:k.T),(a::r)[j-i]?=some (.val false [.io k x])/\(ioKs r)[m]?=some k:=by
   intro m h;obtain⟨h1,k,x,h2,h3⟩:=rf r (i+1) m j (λa h=>hco a (by simp[h])) h;refine⟨by omega,k,x,?_,h3⟩;rw[show j-i=(j-(i+1))+1 by omega];simpa using h2
  by_cases hq:∃k x,a=.val false [.io k x]
  ·obtain⟨k,x,rfl⟩:=hq;rw[bT]at h;cases m with
   |zero=>simp at h;subst h;exact⟨NG _,k,x,by simp,by simp[ioKs]⟩
   |succ m=>simpa[ioKs]using sh m (by simpa using h)
  ·have hn:=λk x e=>hq ⟨k,x,e⟩
   rw[iw i a r hn (hco a (by simp))]at h;rw[re a r hn (hco a (by simp))];exact sh m h
theorem xM:∀(cos:List CoD)(i:Nat),fL i (cos.map coAV)=[]
 |[],_=>rfl
 |d::r,i=>by rw[NV,coAV,fL];exact xM r (i+1)
theorem xN:∀(args:List AV)(cos:List CoD)(i:Nat),(∀a∈args,isCo a=false)->fL i (args++cos.map coAV)=fL i args
 |[],cos,i,_=>xM cos i
 |a::r,cos,i,hco=>by
  have ih:=xN r cos (i+1) (λa h=>hco a (by simp[h]));rcases gZ a with⟨k,xs,rfl⟩|⟨k,x,rfl⟩|⟨q1,q2⟩
  ·rw[N4,fL,fL,ih]
  ·rw[N4,fL,fL,ih]
  ·rw[N4,vR i a _ q1 q2 (hco a (by simp)),vR i a _ q1 q2 (hco a (by simp)),ih]
theorem xK:∀(cos:List CoD)(i t:Nat),hget (cW i (cos.map coAV)) t=coHp cos t
 |[],_,_=>rfl
 |d::r,i,t=>by
  rw[NV,coAV,cW];simp only[hget,coHp];by_cases e:d.cid=t
  ·subst e;rw[NI rfl];simp
  ·rw[ND e];have:Nat.beq d.cid t=false:=uS e;rw[this,NS];exact xK r (i+1) t
theorem nd (i:Nat)(o:Obj)(l:List (Nat×Obj))(t:Nat):hget ((i,o)::l) t=if i=t then some o else hget l t:=by
 simp only[hget];by_cases e:i=t
 ·subst e;simp
 ·rw[uS e,ND e];rfl
theorem xL:∀(args:List AV)(cos:List CoD)(i t:Nat),(∀a∈args,isCo a=false)->hget (cW i (args++cos.map coAV)) t=(match hget (cW i args) t with|some o=>some o|none=>coHp cos t)
 |[],cos,i,t,_=>xK cos i t
 |a::r,cos,i,t,hco=>by
  have ih:=xL r cos (i+1) t (λa h=>hco a (by simp[h]));rcases gZ a with⟨k,xs,rfl⟩|⟨k,x,rfl⟩|⟨q1,q2⟩
  ·rw[N4,cW,cW,nd,nd,ih];split<;>rfl
  ·rw[N4,cW,cW,nd,nd,ih];split<;>rfl
  ·rw[N4,p8 i a _ q1 q2 (hco a (by simp)),p8 i a _ q1 q2 (hco a (by simp)),ih]
theorem xJ:∀(cos:List CoD)(i:Nat),bT i (cos.map coAV)=cos.map (·.cid)
 |[],_=>rfl
 |d::r,i=>by rw[NV,coAV,bT,xJ r (i+1)];rfl
theorem ri:∀(args:List AV)(cos:List CoD)(i:Nat),(∀a∈args,isCo a=false)->bT i (args++cos.map coAV)=bT i args++cos.map (·.cid)
 |[],cos,i,_=>xJ cos i
 |a::r,cos,i,hco=>by
  have ih:=ri r cos (i+1) (λa h=>hco a (by simp[h]));by_cases hq:∃k x,a=.val false [.io k x]
  ·obtain⟨k,x,rfl⟩:=hq;rw[N4,bT,bT,ih];rfl
  ·have hn:=λk x e=>hq ⟨k,x,e⟩
   rw[N4,iw i a _ hn (hco a (by simp)),iw i a _ hn (hco a (by simp)),ih]
theorem BZ:∀(cos:List CoD),ioKs (cos.map coAV)=cos.map (λd=>K.slice d.k)
 |[]=>rfl
 |d::r=>by rw[NV,coAV,ioKs,BZ r];rfl
theorem B0:∀(args:List AV)(cos:List CoD),(∀a∈args,isCo a=false)->ioKs (args++cos.map coAV)=ioKs args++cos.map (λd=>K.slice d.k)
 |[],cos,_=>BZ cos
 |a::r,cos,hco=>by
  have ih:=B0 r cos (λa h=>hco a (by simp[h]));by_cases hq:∃k x,a=.val false [.io k x]
  ·obtain⟨k,x,rfl⟩:=hq;rw[N4,ioKs,ioKs,ih];rfl
  ·have hn:=λk x e=>hq ⟨k,x,e⟩
   rw[N4,re a _ hn (hco a (by simp)),re a _ hn (hco a (by simp)),ih]
theorem xI:∀(args:List AV)(i:Nat),(∀a∈args,isCo a=false)->(bT i args).length=(ioKs args).length
 |[],_,_=>rfl
 |a::r,i,hco=>by
  have ih:=xI r (i+1) (λa h=>hco a (by simp[h]));by_cases hq:∃k x,a=.val false [.io k x]
  ·obtain⟨k,x,rfl⟩:=hq;rw[bT,ioKs,NC,NC,ih]
  ·have hn:=λk x e=>hq ⟨k,x,e⟩
   rw[iw i a _ hn (hco a (by simp)),re a _ hn (hco a (by simp)),ih]
end Go.Eng
namespace Go.Eng
open Go.RowKit
theorem LR3.length {α β γ:Type}{R:α->β->γ->Prop}:∀{l:List α} {m:List β} {n:List γ},LR3 R l m n->l.length=m.length/\l.length=n.length
 |[],[],[],_=>⟨rfl,rfl⟩
 |_::_,_::_,_::_,h=>by have:=LR3.length h.2;exact⟨congrArg (·+1) this.1,congrArg (·+1) this.2⟩
 |[],[],_::_,h=>h.elim
 |[],_::_,_,h=>by cases h
 |_::_,[],_,h=>by cases h
 |_::_,_::_,[],h=>h.elim
theorem LR3.get {α β γ:Type}{R:α->β->γ->Prop}:∀{l:List α} {m:List β} {n:List γ},LR3 R l m n->∀(j:Nat) a,l[j]?=some a->∃b c,m[j]?=some b/\n[j]?=some c/\R a b c
 |a::_,b::_,c::_,h,j,x,hx=>by
  cases j with
  |zero=>simp at hx;subst hx;exact⟨b,c,rfl,rfl,h.1⟩
  |succ j=>simpa using LR3.get h.2 j x (by simpa using hx)
 |[],[],[],_,j,a,h=>by simp at h
 |[],[],_::_,h,_,_,_=>h.elim
 |[],_::_,_,h,_,_,_=>by cases h
 |_::_,[],_,h,_,_,_=>by cases h
 |_::_,_::_,[],h,_,_,_=>h.elim
section
variable {P:Program} {A:Ann} {Gl:Nat->Option Go.Obj} {C:ic}
def ctx0 (te:TE)(w:World)(Sb:Nat->Prop)(args:List AV)(bs:List (Option Nat))(cos:List CoD):Cx:=⟨te,w,Sb,λj=>(bs[j]?).join,hget (cW 0 (args++cos.map coAV))⟩
theorem xk:∀(args:List AV)(cos:List CoD),(∀a∈args,isCo a=false)->tV (args++cos.map coAV)=args.length
 |[],cos,_=>by
  induction cos with
  |nil=>rfl
  |cons d r ih=>exact ih
 |a::r,cos,hco=>by
  have ih:=xk r cos (λa h=>hco a (by simp[h]));have h3':∀cid t off m k xs,a=.val false [.co cid t off m k xs]->False:=by
   rintro _ _ _ _ _ _ rfl;have:=hco _ (Om ..);cases this
  rw[N4,tV,ih]
  ·rfl
  ·exact h3'
theorem ManR.ren {c c':Cx}(hM:ManR A c)(hte:c'.te=c.te)(hw:c'.w=c.w)(hS:∀b,c.S b->c'.S b)(hl:∀l b,OwnX c l b->¬ c'.S b/\∀id,¬ Live c' id b)(hc:uV c c'):ManR A c':=by
 have held:∀t,cO c' t->cO c t:=by
  rintro t ⟨cid,off,m,k,xs,g,p,q⟩;obtain⟨g',q⟩:=hc.bwd _ _ _ _ _ _ _ _ q;exact⟨_,_,_,_,_,_,_,q⟩
 have own:∀l b,OwnX c' l b->OwnX c l b:=by
  intro l b h;cases l with
  |man t i=>exact⟨held t h.1,by rw[<- hte];exact h.2⟩
  |own cid i=>
   obtain⟨⟨t,off,m,k,xs,g,p,q1,q2⟩,q3⟩:=h;obtain⟨g',q⟩:=hc.bwd _ _ _ _ _ _ _ _ q1;exact⟨⟨t,off,m,k,xs,g',p,q,q2⟩,by rw[<- hte];exact q3⟩
 refine⟨hM.lay,λcid t off m k xs g p h=>?_,λcid t off m k xs g p h i=>?_,λt i b hh hi=>?_,λcid t off k xs g p h i x b arr hx hi hb=>?_,λcid t off e xs g p h i x hx=>?_,λcid t off e xs g p h i es hx=>?_,λl b hb=>?_,λl l' b hb hb'=>hM.one l l' b (own l b hb) (own l' b hb')⟩
 ·obtain⟨g',q⟩:=hc.bwd _ _ _ _ _ _ _ _ h;exact hM.ci _ _ _ _ _ _ _ _ q
 ·obtain⟨g',q⟩:=hc.bwd _ _ _ _ _ _ _ _ h;rw[hte];exact hM.dom _ _ _ _ _ _ _ _ q i
 ·rw[hw];exact hM.box t i b (held t hh) (by rw[<- hte];exact hi)
 ·obtain⟨g',q⟩:=hc.bwd _ _ _ _ _ _ _ _ h;rw[hte,hw];obtain⟨vs,r1,r2⟩:=hM.dat _ _ _ _ _ _ _ q i x b arr hx (by rw[<- hte];exact hi) (by rw[<- hw];exact hb);exact⟨vs,RepT.mono (λ_ _=>rfl) hS r1,r2⟩
 ·obtain⟨g',q⟩:=hc.bwd _ _ _ _ _ _ _ _ h;rw[hte,hw];obtain⟨r1,r2⟩:=hM.own _ _ _ e xs _ _ q i x hx;exact⟨r1.move (TLe.refl _) (λ_ _=>rfl) hS (λ_ _=>rfl),r2⟩
 ·obtain⟨g',q⟩:=hc.bwd _ _ _ _ _ _ _ _ h;rw[hte,hw];exact hM.mpp _ _ _ e xs _ _ q i es hx
 ·obtain⟨q1,q2,q3⟩:=hM.sep l b (own l b hb);rw[hw];exact⟨q1,hl l b (own l b hb)⟩
theorem ManF.ren {te0:TE}{w0:World}{M:MS}{c c':Cx}(hM:ManF A te0 w0 M c)(hte:c'.te=c.te)(hw:c'.w=c.w)(hc:uV c c'):ManF A te0 w0 M c':=by
 have held:∀t,cO c' t->cO c t:=by
  rintro t ⟨cid,off,m,k,xs,g,p,q⟩;obtain⟨g',q⟩:=hc.bwd _ _ _ _ _ _ _ _ q;exact⟨_,_,_,_,_,_,_,q⟩
 have own:∀l b,OwnX c' l b->OwnX c l b:=by
  intro l b h;cases l with
  |man t i=>exact⟨held t h.1,by rw[<- hte];exact h.2⟩
  |own cid i=>
   obtain⟨⟨t,off,m,k,xs,g,p,q1,q2⟩,q3⟩:=h;obtain⟨g',q⟩:=hc.bwd _ _ _ _ _ _ _ _ q1;exact⟨⟨t,off,m,k,xs,g',p,q,q2⟩,by rw[<- hte];exact q3⟩
 refine⟨λl b h=>hM.wr l b (own l b h),λt i b arr hh hi hlt hb=>?_,by rw[hte];exact hM.tle,λt ht=>?_,λcid hn=>?_,λt i b hi=>hM.newb t i b (by rw[<- hte];exact hi)⟩
 ·obtain⟨arr0,r1,r2,r3⟩:=hM.frc t i b arr (held t hh) (by rw[<- hte];exact hi) hlt (by rw[<- hw];exact hb);refine⟨arr0,r1,r2,λo ho=>r3 o λcid off m k xs g p q=>?_⟩;obtain⟨g',q⟩:=hc.fwd _ _ _ _ _ _ _ _ q;exact ho _ _ _ _ _ _ _ q
 ·rw[hte];refine hM.same t λhf=>ht ⟨hf.1,λd hd=>?_⟩
  obtain⟨off,m,k,xs,g,p,q⟩:=hf.2 d hd;obtain⟨g',q⟩:=hc.fwd _ _ _ _ _ _ _ _ q;exact⟨_,_,_,_,_,_,q⟩
 ·rw[hte];refine hM.samo cid λt off m k xs g p q=>?_
  obtain⟨g',q⟩:=hc.fwd _ _ _ _ _ _ _ _ q;exact hn _ _ _ _ _ _ _ q
theorem oX.big {te:TE}{w:World}{Sb:Nat->Prop}{bs:List (Option Nat)}{cos:List CoD}(h:oX A te w Sb bs cos){t:Nat}{o:Obj}(ho:coHp cos t=some o):1048576<=t:=by
 obtain⟨d,hd,rfl,rfl⟩:=bt ho;have:=(h.r.ci _ _ _ _ _ _ _ _ ho).1;rw[this];unfold aX;omega
theorem oX.cid {te:TE}{w:World}{Sb:Nat->Prop}{bs:List (Option Nat)}{cos:List CoD}(h:oX A te w Sb bs cos){d:CoD}(hd:d∈cos):1048576<=d.cid:=h.big (fX h.nod hd)
theorem pA {te:TE}{w:World}{Sb:Nat->Prop}{a:AV}{v:Value}{b:Option Nat}(h1:∀k xs,a=.val false [.mv k xs]->False)(h2:∀k x,a=.val false [.io k x]->False)(h:ArgRel te w Sb a v b):b=none/\RepV (clC te w Sb) a v:=by
 unfold ArgRel at h;split at h
 ·exact(h1 _ _ rfl).elim
 ·exact(h2 _ _ rfl).elim
 ·exact h
theorem IW {te:TE}{w:World}{Sb:Nat->Prop}{args:List AV}{cos:List CoD}{vs:Array Value}{bs:List (Option Nat)}{n:Nat}(hte:te.te=A.te)(hco:∀a∈args,isCo a=false)(hIn:oX A te w Sb bs cos)(hn2:args.length<=1048575)(hG:Glob Gl Sb w)(hbel:∀b,Sb b->b<w.heap.size)(hA:LR3 (ArgRel te w Sb) args vs.toList bs)
  (hbs:∀(j b:Nat),bs[j]?=some (some b)->b<w.heap.size/\¬ Sb b) (hinj:∀(j j' b:Nat),bs[j]?=some (some b)->bs[j']?=some (some b)->j=j') (hn:args.length<=n):
  Ok A te Gl w ⟨λb=>some b∈bs,Sb,XOf te w Sb cos⟩ n (loOf (bT 0 (args++cos.map coAV))) (vs++Array.replicate (n-vs.size) undef) ⟨fL 0 (args++cos.map coAV),cW 0 (args++cos.map coAV)⟩ { tmps:=vs++Array.replicate (n-vs.size) undef,defers:=[] } w:=by
 obtain⟨l1,l2⟩:=hA.length;have hj:∀(t:Nat) (a:AV),args[t]?=some a->∃v b,vs.toList[t]?=some v/\bs[t]?=some b/\ArgRel te w Sb a v b:=λt a h=>hA.get t a h
 have hβ:∀(t b:Nat),(ctx0 te w Sb args bs cos).β t=some b->bs[t]?=some (some b):=by
  intro t b h;simp only[ctx0]at h;cases hq:bs[t]? with
  |none=>rw[hq]at h;cases h
  |some o=>rw[hq]at h;simp at h;rw[h]
 have hβ':∀(t:Nat) (o:Option Nat),bs[t]?=some o->(ctx0 te w Sb args bs cos).β t=o:=by
  intro t o h;simp only[ctx0,h];rfl
 have hcl:∀{s:S} {v:Value},RepS (clC te w Sb) s v->RepS (ctx0 te w Sb args bs cos) s v:=λh=>gi (TLe.refl _) (λ_ _=>rfl) (λ_ h=>h) h
 have hpe:∀t,(ctx0 te w Sb args bs cos).hp t=(match hget (cW 0 args) t with|some o=>some o|none=>coHp cos t):=λt=>xL args cos 0 t hco
 have hcol:∀cid t off m k (xs:List (K.T k)) g p,(ctx0 te w Sb args bs cos).hp cid=some (.col t off m k xs g p) ↔ coHp cos cid=some (.col t off m k xs g p):=by
  intro cid t off m k xs g p;rw[hpe];cases hq:hget (cW 0 args) cid with
  |none=>rfl
  |some o=>
   obtain⟨_,h⟩:=rm args 0 cid o hco hq;rw[P4]at h;have hlt:cid<args.length:=by rcases h with⟨_,_,e,_⟩|⟨_,_,e,_⟩<;>exact(NJ.1 e).1
   constructor
   ·intro e;cases e;rcases h with⟨_,_,_,e⟩|⟨_,_,_,e⟩<;>cases e
   ·intro e;have:=hIn.big e;omega
 have hman:Man A te w ⟨λb=>some b∈bs,Sb,XOf te w Sb cos⟩ (ctx0 te w Sb args bs cos):=by
  have hren:uV (coC te w Sb cos) (ctx0 te w Sb args bs cos):=⟨λcid t off m k xs g p q=>⟨g,(hcol ..).2 q⟩,λcid t off m k xs g p q=>⟨g,(hcol ..).1 q⟩⟩
  have own:∀l b,OwnX (ctx0 te w Sb args bs cos) l b->OwnX (coC te w Sb cos) l b:=by
   intro l b h;cases l with
   |man t i=>
    obtain⟨⟨cid,off,m,k,xs,g,p,q⟩,q'⟩:=h;exact⟨⟨cid,off,m,k,xs,g,p,(hcol ..).1 q⟩,q'⟩
   |own cid i=>
    obtain⟨⟨t,off,m,k,xs,g,p,q1,q2⟩,q3⟩:=h;exact⟨⟨t,off,m,k,xs,g,p,(hcol ..).1 q1,q2⟩,q3⟩
  refine⟨hIn.r.ren rfl rfl (λ_ h=>h) (λl b hl=>⟨(hIn.r.sep l b hl).2.1,λid hid=>hIn.sep l b hl (NX (hβ id b hid.1))⟩) hren,λl b hl=>.inr (.inr ⟨l,own l b hl⟩),λt i b arr _ _ _ hb=>⟨arr,hb,rfl,λ_ _=>rfl⟩,TLe.refl _,λ_ _=>rfl,λ_ _=>⟨rfl,rfl⟩,λ_ _ _ h=>.inl h⟩
 refine⟨ctx0 te w Sb args bs cos,rfl,hte,rfl,⟨⟨rfl,rfl,rfl,NG _,λ_ _ _=>rfl⟩,hbel,λid o ho=>?_,λid b hl=>?_,λid id' b hl hl'=>?_,λb hb=>.inl hb,λb hb=>hb⟩,⟨?_,rfl,λt=>?_⟩,hG,λj hj=>rfl,hman⟩
 ·rw[hpe]at ho;split at ho
  rotate_left
  ·obtain⟨d,_,_,rfl⟩:=bt ho;trivial
  rename_i o' ho';cases ho;obtain⟨_,h⟩:=rm args 0 id o hco ho';simp only[P4]at h;rcases h with⟨k,xs,e,rfl⟩|⟨k,x,e,rfl⟩
  ·obtain⟨v,b,e1,e2,e3⟩:=hj id _ e;simp only[ArgRel,bR]at e3;simp only[RepO,hβ' id b e2];cases b with
   |none=>exact e3.2
   |some b=>
    obtain⟨cap,arr,a,q1,q2,q3,q4,q5,q6⟩:=e3;exact⟨⟨arr,q4.blk,q5,λi x hx=>q6 i x hx⟩,λ_=>⟨arr,q4⟩,λh=>by cases h⟩
  ·obtain⟨v,b,e1,e2,e3⟩:=hj id _ e;obtain⟨b',rfl,e4,arr,e5,e6⟩:=e3;intro _;exact⟨b',arr,hβ' id _ e2,e5,e6.mono λ_ _ _=>hcl⟩
 ·have:=hβ id b hl.1;obtain⟨h1,h2⟩:=hbs id b this;exact⟨h1,h2,.inr (NX this)⟩
 ·exact hinj id id' b (hβ id b hl.1) (hβ id' b hl'.1)
 ·have hvl:vs.size=args.length:=by rw[<- O7];exact l1.symm
  simp only[Rj,Array.size_replicate];omega
 ·have hvl:vs.size=args.length:=by rw[<- O7];exact l1.symm
  show RepV _ (look (fL 0 (args++cos.map coAV)) t) _;rw[xN args cos 0 hco,xE args 0 t hco];rw[ND (Nat.not_lt_zero t),P4];cases hq:args[t]? with
  |none=>trivial
  |some a=>
   obtain⟨v,b,e1,e2,e3⟩:=hj t a hq;have hlt:t<vs.size:=by have:=(NJ.1 hq).1;omega
   have hv:(vs++Array.replicate (n-vs.size) undef).getD t undef=v:=by
    rw[N2,PW hlt,<- NR,e1];rfl
   show RepV _ _ ((vs++Array.replicate (n-vs.size) undef).getD t undef);rw[hv];rcases gZ a with⟨k,xs,rfl⟩|⟨k,x,rfl⟩|⟨q1,q2⟩
   ·simp only[ArgRel,bR]at e3;have hp:(ctx0 te w Sb args bs cos).hp t=some (.row k xs 0 [] false):=by rw[hpe,(kG args 0 t _ hco (PY _) (by simpa using hq)).1 k xs rfl]
    refine aB ⟨?_,_,hp,λk' xs' gen hist frz e=>?_⟩
    ·cases b with
     |none=>rw[e3.1];rfl
     |some b=>obtain⟨cap,arr,a,q1,_⟩:=e3;rw[q1];rfl
    ·cases e;refine⟨NG _,λ_=>?_,λh=>(h rfl).elim⟩;unfold cz;rw[hβ' t b e2];cases b with
     |none=>obtain⟨rfl,rfl⟩:=e3;exact⟨rfl,rfl,rfl,rfl⟩
     |some b=>
      obtain⟨cap,arr,a,q1,q2,q3,q4,q5,q6⟩:=e3;exact⟨cap,arr,a,q1,q2,q4.blk,by omega,λhc=>⟨by simpa using(q3 hc).1,by simpa using(q3 hc).2⟩⟩
   ·obtain⟨b',rfl,rfl,arr,e5,e6⟩:=e3;have hp:(ctx0 te w Sb args bs cos).hp t=some (.box (bg k x)):=by rw[hpe,(kG args 0 t _ hco (PY _) (by simpa using hq)).2 k x rfl]
    refine aB ⟨rfl,_,hp,?_,?_,?_⟩
    ·intro s hs;cases hs
    ·intro cs e hne;exact⟨b',hβ' t _ e2,rfl,rfl,rfl⟩
    ·intro k' xs' gen hist frz e;cases e
   ·obtain⟨_,hr⟩:=pA q1 q2 e3;split
    ·rename_i e;cases e;exact(q1 _ _ rfl).elim
    ·rename_i e;cases e;exact(q2 _ _ rfl).elim
    ·rename_i e;cases e;exact AZ (TLe.refl _) (λ_ _=>rfl) (λ_ h=>h) hr
    ·rename_i e;cases e
theorem zz {te0:TE}{w0:World}{M:MS}{n lo:Nat}{a0:Array Value}{σ:St}{a:Act}{c:Cx}{fn:Func}{vs:List (Bool×List S)}(h:OkAt A te0 Gl w0 M n lo a0 σ.env (hget σ.heap) a c)(hv:hP (fn.results.toList.map (resV P σ))=some vs):
  ∃arr:Array Value,(results fn a.tmps).run P c.w=.ok (tupA arr) c.w/\LR (λ(p:Bool×List S) u=>RepV c (.val p.1 p.2) u) vs arr.toList:=by
 obtain⟨hlen,hget⟩:=lj _ _ _ hv;have one:∀r,∃u,∀p,resV P σ r=some p->((match r with| .tmp t=>pure (a.tmps.getD t undef)| .cell x t=>do Go.loadVar t (<- asAddr (a.tmps.getD x undef)):Sem Value)).run P c.w=.ok u c.w/\RepV c (.val p.1 p.2) u:=by
  intro r;cases hq:resV P σ r with
  |none=>exact⟨undef,λp hp=>by cases hp⟩
  |some p=>
   cases r with
   |tmp t=>
    refine⟨a.tmps.getD t undef,λp' hp=>?_⟩;cases hp;refine⟨rfl,?_⟩;simp only[resV]at hq;split at hq
    ·rename_i g cs hl;cases hq;have:=h.regs.rep t;rw[hl]at this;exact this
    ·cases hq
   |cell x t=>
    simp only[resV]at hq;split at hq
    ·rename_i s hs;split at hq
     ·rename_i cs hc;split at hq
      ·rename_i g l hl;cases hq;have hr:=h.regs.rep x;rw[hs]at hr;obtain⟨b,off,us,e,q1,q2⟩:=uB h.mem h.man.r (λid o ho=>by rw[h.hp];exact ho) (aT hr) hc;obtain⟨v',r1,r2⟩:=qw (P:=P) hl q1 q2;refine⟨v',λp hp=>?_⟩;cases hp;refine⟨?_,r2⟩;simp only;rw[e,run_ok (show(asAddr (.pointer (some ⟨b,off,none⟩))).run P c.w=.ok ⟨b,off,none⟩ c.w from rfl)];exact r1
      ·cases hq
     ·cases hq
    ·cases hq
 obtain⟨g,hg⟩:=Classical.axiomOfChoice one;refine⟨fn.results.map g,?_,?_⟩
 ·unfold results;rw[run_ok (Bq (g:=g) fn.results λr hr=>?_)]
  ·rfl
  ·obtain⟨j,hj⟩:=Oo.1 hr;obtain⟨y,_,e⟩:=hget j r hj;exact(hg r y e).1
 ·rw[OO];refine LR.of_get (by simp[hlen]) λj p u h1 h2=>?_
  rw[Ot]at h2;cases hr:fn.results.toList[j]? with
  |none=>rw[hr]at h2;cases h2
  |some r=>
   rw[hr]at h2;simp at h2;subst h2;obtain⟨y,e1,e2⟩:=hget j r hr;rw[h1]at e1;cases e1;exact(hg r _ e2).2
theorem yr {te:TE}{w:World}{Sb:Nat->Prop}{args:List AV}{cos:List CoD}{vs:Array Value}{bs:List (Option Nat)}{n:Nat}{a0:Array Value}{sg:Sig}{rr:sg.R}{fn:Func}{σ:St}{a:Act}{w':World}
  (hA:LR3 (ArgRel te w Sb) args vs.toList bs) (ha0:∀j,j<args.length->a0.getD j undef=vs.getD j undef)
  (hco:∀a∈args,isCo a=false) (hIn:oX A te w Sb bs cos) (hn2:args.length<=1048575)
  (hsg:sg.io=ioKs (args++cos.map coAV)) (hok:Ok A te Gl w ⟨λb=>some b∈bs,Sb,XOf te w Sb cos⟩ n (loOf (bT 0 (args++cos.map coAV))) a0 σ a w') (h:po P sg fn (bT 0 (args++cos.map coAV)) σ=some rr):
  a.defers=[]/\∃v,(results fn a.tmps).run P w'=.ok v w'/\∃te' S' cos',Res te' (XOf te w Sb cos) (XOf te' w' S' cos') w w' Sb S' args bs sg rr v/\iH A te te' w w' Sb S' args bs cos cos' /\
    LR (λ(p:Bool×List S) (d:CoD)=>p.2=[.sl d.k d.xs]) ((lvs sg.ks rr).drop (sg.res.length+(ioKs args).length)) cos':=by
 rw[ri args cos 0 hco]at h;rw[B0 args cos hco]at hsg;obtain⟨c,rfl,hc⟩:=hok;obtain⟨l1,l2⟩:=hA.length;refine⟨hc.regs.defers,?_⟩;unfold po at h;split at h
 ·rename_i us ws hus hws;cases hcnd:(JL (bT 0 args++cos.map (·.cid)) σ.heap&&Nat.beq us.length sg.res.length&&Nat.beq ws.length sg.io.length&&ownV σ.heap (ba ((us++ws).map (·.2)).flatten) sg.res us)with
  |false=>rw[hcnd]at h;cases h
  |true=>
   rw[hcnd]at h
   replace h:EY (hget σ.heap) sg.ks ((us++ws).map (·.2))=some rr:=h
   simp only[NM]at hcnd;obtain⟨⟨⟨hcin,hu1⟩,hu2⟩,hown⟩:=hcnd;have hu1:=NB hu1;have hu2:=NB hu2;obtain⟨arr,hrun,hlr⟩:=zz hc hus;obtain⟨hwl,hwg⟩:=lj _ _ _ hws;obtain⟨hrl,hrg⟩:=EX sg.ks _ rr h;have hh:∀id o,hget σ.heap id=some o->c.hp id=some o:=λid o ho=>by rw[hc.hp];exact ho
   -- the names that are lent or told by value
   let N:List Nat:=fE sg.res us++ba (ws.map (·.2)).flatten
   let S':Nat->Prop:=λb=>c.S b\/∃id∈N,c.β id=some b
   have hcell:∀(j:Nat) cs,((us++ws).map (·.2))[j]?=some cs->∃k y,sg.ks[j]?=some k/\rei1 (hget σ.heap) k cs=some y/\(lvs sg.ks rr)[j]?=some (k.isAgg,bg k y):=by
    intro j cs hj;have hlt:=(NJ.1 hj).1;have hk:sg.ks[j]?=some sg.ks[j]:=NT (by omega);obtain⟨y,h1,h2⟩:=hrg j _ cs hk hj;exact⟨_,y,hk,h1,h2⟩
   have hus':∀(j:Nat) g cs,us[j]?=some (g,cs)->((us++ws).map (·.2))[j]?=some cs:=by
    intro j g cs hj;rw[Ot,NZ (NJ.1 hj).1,hj];rfl
   have hws':∀(j:Nat) g cs,ws[j]?=some (g,cs)->((us++ws).map (·.2))[us.length+j]?=some cs:=by
    intro j g cs hj;rw[Ot,N6 (by omega),show us.length+j-us.length=j by omega,hj];rfl
   have hNrow:∀id∈N,∃k xs gen hist frz,c.hp id=some (.row k xs gen hist frz):=by
    intro id hid;rcases NU.1 hid with q|q
    ·obtain⟨j,k,g,cs,_,h2,h3⟩:=nW _ _ q;obtain⟨k',y,_,h4,_⟩:=hcell j cs (hus' j g cs h2);obtain⟨k1,xs,gen,hist,frz,h5⟩:=vl h4 id h3;exact⟨k1,xs,gen,hist,frz,hh id _ h5⟩
    ·have:∀(l:List (Bool×List S)),id∈ba (l.map (·.2)).flatten->∃(j:Nat) (g:Bool) (cs:List S),l[j]?=some (g,cs)/\id∈ba cs:=by
      intro l
      induction l with
      |nil=>intro h;simp[ba]at h
      |cons p r ih=>
       intro h;rw[NV,Pv,fo,NU]at h;rcases h with h|h
       ·exact⟨0,p.1,p.2,rfl,h⟩
       ·obtain⟨j,g,cs,h1,h2⟩:=ih h;exact⟨j+1,g,cs,by simpa using h1,h2⟩
     obtain⟨j,g,cs,h2,h3⟩:=this ws q;obtain⟨k',y,_,h4,_⟩:=hcell _ cs (hws' j g cs h2);obtain⟨k1,xs,gen,hist,frz,h5⟩:=vl h4 id h3;exact⟨k1,xs,gen,hist,frz,hh id _ h5⟩
   -- a live block is in no such row,but its own
   have hnS:∀id b,Live c id b->id ∉ N->¬ S' b:=by
    rintro id b hl hid (q|⟨id',hid',q⟩)
    ·exact(hc.mem.live id b hl).2.1 q
    ·obtain⟨k,xs,gen,hist,frz,ho⟩:=hNrow id' hid';cases frz with
     |false=>
      have:=hc.mem.one id id' b hl ⟨q,_,ho,rfl⟩;subst this;exact hid hid'
     |true=>
      have:=hc.mem.obj id' _ ho;simp only[RepO,q]at this;exact(hc.mem.live id b hl).2.1 (this.2.2 trivial)
   -- lent boxes are where they were
   have hbox:∀(m j:Nat),(bT 0 args)[m]?=some j->∃g cs b k,ws[m]?=some (g,cs)/\hget σ.heap j=some (.box cs)/\cs≠[]/\c.β j=some b/\bs[j]?=some (some b)/\(ioKs args)[m]?=some k:=by
    intro m j hj;obtain⟨⟨g,cs⟩,e1,e2⟩:=hwg m j (by rw[NZ (NJ.1 hj).1];exact hj);obtain⟨_,k,x,e3,e4⟩:=rf args 0 m j hco hj;rw[P4]at e3;have hjlt:j<args.length:=(NJ.1 e3).1;obtain⟨v,b,e5,e6,e7⟩:=hA.get j _ e3;obtain⟨b',rfl,e8,_⟩:=e7;unfold ioV at e2;rw[On (show j<=1048575 by omega)]at e2;simp only[NH]at e2;split at e2
    ·rename_i j' cs' hl hb;cases hq:(Nat.beq j' j && !cs'.isEmpty)with
     |false=>rw[hq]at e2;cases e2
     |true=>
      rw[hq]at e2;cases e2;simp only[NM]at hq;have:=NB hq.1;subst this;have hne:cs≠[]:=by rintro rfl;simp at hq
      have hr:=hc.regs.rep j';rw[hl]at hr;obtain⟨_,o,t1,_,t2,_⟩:=aT hr;rw[hh _ _ hb]at t1;cases t1;obtain⟨b2,t3,t4,_⟩:=t2 cs rfl hne;have hlo:j'<loOf (bT 0 (args++cos.map coAV)):=Fy _ _ (by rw[ri args cos 0 hco];exact PG _ (NX hj)) (by omega);rw[hc.pin j' hlo,ha0 j' hjlt]at t4;have:vs.getD j' undef=v:=by rw[N2,<- NR,e5];rfl
      rw[this,e8]at t4;cases t4;exact⟨true,cs,b',k,e1,hb,hne,t3,e6,e4⟩
    ·cases e2
   have hmv:∀b,(∃id k xs gen hist,Live c id b/\c.hp id=some (.row k xs gen hist false))\/c.S b->some b∈bs->mvB args bs b:=by
    intro b hb hm;obtain⟨j,hj⟩:=Oo.1 hm;have hlt:j<args.length:=by have:=(NJ.1 hj).1;omega
    have hja:args[j]?=some args[j]:=NT hlt;obtain⟨v,ob,e1,e2,e3⟩:=hA.get j _ hja;rw[hj]at e2;cases e2;rcases gZ args[j]with⟨k,xs,e⟩|⟨k,x,e⟩|⟨q1,q2⟩
    ·exact⟨j,k,xs,by rw[hja,e],hj⟩
    ·exfalso;have hjm:∃(m:Nat),(bT 0 args)[m]?=some j:=by
      have:∀(l:List AV) (i t:Nat) k x,(∀a∈l,isCo a=false)->l[t]?=some (.val false [.io k x])->i+t∈bT i l:=by
       intro l
       induction l with
       |nil=>intro i t k x _ h;simp at h
       |cons a r ih=>
        intro i t k x hco h;cases t with
        |zero=>simp at h;subst h;simp[bT]
        |succ t=>
         have:=ih (i+1) t k x (λa h=>hco a (by simp[h])) (by simpa using h);rw[show i+(t+1)=i+1+t by omega];by_cases hq:∃k x,a=.val false [.io k x]
         ·obtain⟨k,x,rfl⟩:=hq;rw[bT];exact NW _ this
         ·rw[iw i a r (λk x e=>hq ⟨k,x,e⟩) (hco a (by simp))];exact this
      have:=this args 0 j k x hco (by rw[hja,e]);rw[Ox]at this;exact Oo.1 this
     obtain⟨m,hm⟩:=hjm;obtain⟨g,cs,b',k',t1,t2,t3,t4,t5,t6⟩:=hbox m j hm;rw[hj]at t5;cases t5;have hlv:Live c j b:=⟨t4,_,hh _ _ t2,by cases cs<;>simp[Obj.live]at t3 ⊢⟩
     rcases hb with⟨id,k2,xs2,g2,h2,z1,z2⟩|hb
     ·have:=hc.mem.one id j b z1 hlv;subst this;rw[hh _ _ t2]at z2;cases z2
     ·exact(hc.mem.live j b hlv).2.1 hb
    ·have:=(pA q1 q2 e3).1;cases this
   have hokb:∀id k xs gen hist b,c.β id=some b->c.hp id=some (.row k xs gen hist false)->b<c.w.heap.size/\(w.heap.size<=b\/mvB args bs b):=by
    intro id k xs gen hist b hb ho;have hl:Live c id b:=⟨hb,_,ho,rfl⟩
    obtain⟨q1,q2,q3⟩:=hc.mem.live id b hl;refine⟨q1,?_⟩;rcases q3 with q3|q3
    ·exact .inl q3
    ·exact .inr (hmv b (.inl ⟨id,k,xs,gen,hist,hl,ho⟩) q3)
   have hN:∀(j:Nat) g cs,((∃k,sg.res[j]?=some (false,k))/\us[j]?=some (g,cs))\/ws[j]?=some (g,cs)->∀id∈ba cs,∀b,c.β id=some b->S' b:=by
    intro j g cs hj id hid b hb;refine .inr ⟨id,?_,hb⟩;rcases hj with⟨⟨k,h1⟩,h2⟩|h2
    ·exact PG _ (uz _ _ j k g cs h1 h2 hid)
    ·refine Qh _ ?_;have:∀(l:List (Bool×List S)) (j:Nat),l[j]?=some (g,cs)->id∈ba (l.map (·.2)).flatten:=by
      intro l
      induction l with
      |nil=>intro j h;simp at h
      |cons p r ih=>
       intro j h;rw[NV,Pv,fo,NU];cases j with
       |zero=>simp at h;subst h;exact .inl hid
       |succ j=>exact .inr (ih j (by simpa using h))
     exact this ws j h2
   -- columns
   have hwc:∀(m:Nat) d,cos[m]?=some d->∃t off md k,∃(xs:List (K.T k)),∃g,hget σ.heap d.cid=some (.col t off md k xs g none)/\ws[(bT 0 args).length+m]?=some (false,[.sl k xs]):=by
    intro m d hd;obtain⟨p,e1,e2⟩:=hwg ((bT 0 args).length+m) d.cid (by rw[N6 (by omega),show(bT 0 args).length+m-(bT 0 args).length=m by omega,Ot,hd];rfl);unfold ioV at e2;have hbig:=hIn.cid (NX hd);have:Nat.ble d.cid 1048575=false:=by
     cases hb:Nat.ble d.cid 1048575 with
     |false=>rfl
     |true=>have:=N3 hb;omega
    rw[this]at e2;simp only[NS]at e2;split at e2
    ·rename_i t off md k xs g hq;cases e2;exact⟨t,off,md,k,xs,g,hq,e1⟩
    ·cases e2
   have hcos:∃cos':List CoD,LR (λ(d d':CoD)=>j9 d d'/\∃g,hget σ.heap d'.cid=some (.col d'.t d'.off d'.m d'.k d'.xs g none)) cos cos'/\∀(m:Nat) d',cos'[m]?=some d'->ws[(bT 0 args).length+m]?=some (false,[.sl d'.k d'.xs]):=by
    have key:∀d∈cos,∃d':CoD,(j9 d d'/\∃g,hget σ.heap d'.cid=some (.col d'.t d'.off d'.m d'.k d'.xs g none)):=by
     intro d hd;obtain⟨m,hm⟩:=Oo.1 hd;obtain⟨t,off,md,k,xs,g,q1,_⟩:=hwc m d hm;obtain⟨z1,z2,z3,z4⟩:=ManR.two hIn.r hc.man.r (fX hIn.nod hd) (hh _ _ q1);exact⟨⟨d.cid,t,off,md,k,xs⟩,⟨rfl,z1.symm,z2.symm,z3.symm,z4.symm⟩,g,q1⟩
    have:∀(l:List CoD),(∀d∈l,∃d':CoD,(j9 d d'/\∃g,hget σ.heap d'.cid=some (.col d'.t d'.off d'.m d'.k d'.xs g none)))->∃l',LR (λ(d d':CoD)=>j9 d d'/\∃g,hget σ.heap d'.cid=some (.col d'.t d'.off d'.m d'.k d'.xs g none)) l l':=by
     intro l
     induction l with
     |nil=>intro _;exact⟨[],trivial⟩
     |cons d r ih=>
      intro h;obtain⟨d',hd'⟩:=h d (by simp);obtain⟨r',hr'⟩:=ih λd hd=>h d (by simp[hd])
      exact⟨d'::r',hd',hr'⟩
    obtain⟨cos',hl⟩:=this cos key;refine⟨cos',hl,λm d' hm=>?_⟩;have hlt:m<cos.length:=by rw[hl.length];exact(NJ.1 hm).1
    obtain⟨d2,q1,q2,g,q3⟩:=hl.get m _ (NT hlt);rw[hm]at q1;cases q1;obtain⟨t,off,md,k,xs,g',r1,r2⟩:=hwc m _ (NT hlt);rw[<- q2.1,q3]at r1;cases r1;exact r2
   obtain⟨cos',hcl,hcw⟩:=hcos;have hsame:LR j9 cos cos':=hcl.mono λ_ _ _ q=>q.1
   have hcids:=jT hsame;have hnod':(cos'.map (·.cid)).Nodup:=by rw[hcids];exact hIn.nod
   have hget':∀d'∈cos',∃g,c.hp d'.cid=some (.col d'.t d'.off d'.m d'.k d'.xs g none):=by
    intro d' hd';obtain⟨m,hm⟩:=Oo.1 hd';have hlt:m<cos.length:=by rw[hcl.length];exact(NJ.1 hm).1
    obtain⟨d2,q1,q2,g,q3⟩:=hcl.get m _ (NT hlt);rw[hm]at q1;cases q1;exact⟨g,hh _ _ q3⟩
   have hren:uV c (coC c.te c.w S' cos'):=by
    refine⟨λcid t off m k xs g p q=>?_,λcid t off m k xs g p q=>?_⟩
    ·have hin:=OW.1 hcin _ (na (show hget σ.heap cid=some (.col t off m k xs g p) by rw[<- hc.hp];exact q));simp only[Qm,NU,N0]at hin;have hbig:=(hc.man.r.ci _ _ _ _ _ _ _ _ q).1;rcases hin with hin|hin
     ·obtain⟨m',hm'⟩:=Oo.1 hin;obtain⟨_,k',x',e3,_⟩:=rf args 0 m' cid hco hm';have:=(NJ.1 e3).1;rw[hbig]at this;unfold aX at this;omega
     ·rw[<- hcids]at hin;obtain⟨d',hd',rfl⟩:=N9.1 hin;obtain⟨g',q'⟩:=hget' d' hd';rw[q]at q';cases q';exact⟨0,fX hnod' hd'⟩
    ·obtain⟨d',hd',rfl,e⟩:=bt q;cases e;obtain⟨g',q'⟩:=hget' d' hd';exact⟨g',q'⟩
   have hnoS:∀l b,OwnX c l b->¬ S' b:=by
    rintro l b hl (q|⟨id,hid,q⟩)
    ·exact(hc.man.r.sep l b hl).2.1 q
    ·obtain⟨k,xs,gen,hist,frz,ho⟩:=hNrow id hid;cases frz with
     |false=>exact(hc.man.r.sep l b hl).2.2 id ⟨q,_,ho,rfl⟩
     |true=>
      have:=hc.mem.obj id _ ho;simp only[RepO,q]at this;exact(hc.man.r.sep l b hl).2.1 (this.2.2 trivial)
   have hback:∀l b,OwnX (coC c.te c.w S' cos') l b->OwnX c l b:=by
    intro l b h;cases l with
    |man t i=>
     obtain⟨⟨cid,off,m,k,xs,g,p,q⟩,q'⟩:=h;obtain⟨g',q⟩:=hren.bwd _ _ _ _ _ _ _ _ q;exact⟨⟨_,_,_,_,_,_,_,q⟩,q'⟩
    |own cid i=>
     obtain⟨⟨t,off,m,k,xs,g,p,q1,q2⟩,q3⟩:=h;obtain⟨g',q⟩:=hren.bwd _ _ _ _ _ _ _ _ q1;exact⟨⟨t,off,m,k,xs,g',p,q,q2⟩,q3⟩
   have hout:iH A te c.te w c.w Sb S' args bs cos cos':=by
    refine⟨hsame,⟨hc.man.r.ren rfl rfl (λb hb=>.inl hb) (λl b hl=>⟨hnoS l b hl,λid hid=>by obtain⟨q,_⟩:=hid;cases q⟩) hren,hc.man.f.ren rfl rfl hren⟩,λl b hl j k x ha hb=>?_⟩;have hjm:∃(m:Nat),(bT 0 args)[m]?=some j:=by
     have:∀(l:List AV) (i t:Nat) k x,(∀a∈l,isCo a=false)->l[t]?=some (.val false [.io k x])->i+t∈bT i l:=by
      intro l
      induction l with
      |nil=>intro i t k x _ h;simp at h
      |cons a r ih=>
       intro i t k x hco h;cases t with
       |zero=>simp at h;subst h;simp[bT]
       |succ t=>
        have:=ih (i+1) t k x (λa h=>hco a (by simp[h])) (by simpa using h);rw[show i+(t+1)=i+1+t by omega];by_cases hq:∃k x,a=.val false [.io k x]
        ·obtain⟨k,x,rfl⟩:=hq;rw[bT];exact NW _ this
        ·rw[iw i a r (λk x e=>hq ⟨k,x,e⟩) (hco a (by simp))];exact this
     have:=this args 0 j k x hco ha;rw[Ox]at this;exact Oo.1 this
    obtain⟨m,hm⟩:=hjm;obtain⟨g,cs,b',k',t1,t2,t3,t4,t5,t6⟩:=hbox m j hm;rw[hb]at t5;cases t5;exact(hc.man.r.sep l b (hback l b hl)).2.2 j ⟨t4,_,hh _ _ t2,by cases cs<;>simp[Obj.live]at t3 ⊢⟩
   have hlvl0:(lvs sg.ks rr).length=sg.ks.length:=lE _ _;have hkl0:sg.ks.length=sg.res.length+sg.io.length:=by rw[Sig.ks_eq];simp
   have hiol0:(bT 0 args).length=(ioKs args).length:=xI args 0 hco;have hfin:LR (λ(p:Bool×List S) (d:CoD)=>p.2=[.sl d.k d.xs]) ((lvs sg.ks rr).drop (sg.res.length+(ioKs args).length)) cos':=by
    refine LR.of_get ?_ λm p d' e1 e2=>?_
    ·rw[OT,hlvl0,hkl0,hsg,Ny,OC,<- hcl.length];omega
    ·have hw:=hcw m d' e2;have hcl2:=hws' _ _ _ hw;rw[hu1,hiol0]at hcl2;obtain⟨k',y,f1,f2,f3⟩:=hcell _ _ hcl2;rw[OQ,show sg.res.length+(ioKs args).length+m=sg.res.length+((ioKs args).length+m) by omega,f3]at e1;cases e1;cases k' with
     |slice e=>
      simp only[rei1,rei,cZ]at f2;cases hcs:cst d'.k e d'.xs with
      |none=>rw[hcs]at f2;simp at f2
      |some ys=>
       rw[hcs]at f2;obtain⟨q,q2⟩:=jR hcs;subst q;simp only[Nz]at f2;subst f2;subst q2;rfl
     |_=>
      have hlt:m<cos.length:=by rw[hcl.length];exact(NJ.1 e2).1
      rw[Sig.ks_eq,N6 (by simp),OC,show sg.res.length+((ioKs args).length+m)-sg.res.length=(ioKs args).length+m by omega,hsg,N6 (by omega),
       show(ioKs args).length+m-(ioKs args).length=m by omega,Ot,NT hlt]at f1
      cases f1
   refine⟨_,hrun,c.te,S',cos',⟨arr,rfl,hc.mem.fr,λb hb=>.inl (hc.mem.inf b hb),?_,?_,?_⟩,hout,hfin⟩
   ·intro b hb;have row:∀id∈N,c.β id=some b->b<c.w.heap.size/\(Sb b\/w.heap.size<=b\/mvB args bs b):=by
     intro id hid hb;obtain⟨k,xs,gen,hist,frz,ho⟩:=hNrow id hid;cases frz with
     |false=>
      obtain⟨q1,q2⟩:=hokb id k xs gen hist b hb ho;exact⟨q1,.inr q2⟩
     |true=>
      have:=hc.mem.obj id _ ho;simp only[RepO,hb]at this;have hS:=this.2.2 trivial;refine⟨hc.mem.below b hS,?_⟩;rcases hc.mem.sup b hS with q|q|q
      ·exact .inl q
      ·exact .inr (.inl q)
      ·exact .inr (.inr (hmv b (.inr hS) q))
    rcases hb with hS|⟨id,hid,hb⟩
    ·refine⟨hc.mem.below b hS,?_⟩;rcases hc.mem.sup b hS with q|q|q
     ·exact .inl q
     ·exact .inr (.inl q)
     ·exact .inr (.inr (hmv b (.inr hS) q))
    ·exact row id hid hb
   ·have hlvl:(lvs sg.ks rr).length=sg.ks.length:=lE _ _;have hkl:sg.ks.length=sg.res.length+sg.io.length:=by rw[Sig.ks_eq];simp
    refine zC sg.res _ arr.toList (by rw[OA,hlvl,hkl];omega) (by rw[<- hlr.length,hu1]) λj own k g cs u e1 e2 e3=>?_
    have hjr:j<sg.res.length:=(NJ.1 e1).1;rw[Ol,NI hjr]at e2;have huj:us[j]?=some us[j]:=NT (by omega);generalize hue:us[j]=p at huj;obtain⟨g',cs'⟩:=p;obtain⟨k',y,f1,f2,f3⟩:=hcell j cs' (hus' j g' cs' huj);have hkk:k'=k:=by
     have:sg.ks[j]?=some k:=by
      rw[Sig.ks_eq];rw[NZ (by simpa using hjr),Ot,e1];rfl
     rw[this]at f1;cases f1;rfl
    subst hkk;rw[f3]at e2;cases e2;obtain⟨u',u1,u2⟩:=hlr.get j _ huj;rw[e3]at u1;cases u1;obtain⟨o1,o2⟩:=BH sg.res us hu1.symm hown j own k' g' cs' e1 huj;refine⟨λho=>?_,λho=>?_⟩
    ·subst ho;obtain⟨hg,o2'⟩:=o2 rfl;subst hg;rcases o2' with rfl|⟨id,gen,k2,xs2,hist,rfl,o3,o4⟩
     ·have hk:∃e,k'=.slice e/\HEq y ([]:List e.T):=by
       cases k' with
       |slice e=>simp only[rei1,rei,cZ]at f2;cases f2;exact⟨e,rfl,HEq.rfl⟩
       |strct a=>cases o1
       |prod a b=>cases o1
       |_=>simp[rei1,rei]at f2
      obtain⟨e,rfl,hy⟩:=hk;cases hy;refine⟨e,[],none,rfl,⟨?_,rfl⟩,λb hb=>by cases hb⟩;have:=aT u2;simpa[RepS]using this
     ·have hk:∃e,k'=.slice e/\e=k2/\HEq y xs2:=by
       cases k' with
       |slice e=>
        simp only[rei1,rei,cZ,o3,yV]at f2;rw[show Nat.beq gen gen=true by simp]at f2;simp only[NH]at f2;cases hcs:cst k2 e xs2 with
        |none=>rw[hcs]at f2;simp at f2
        |some ys=>
         rw[hcs]at f2;obtain⟨q,q2⟩:=jR hcs;subst q;simp only[Nz]at f2;subst f2;exact⟨k2,rfl,rfl,by rw[<- q2]⟩
       |strct a=>cases o1
       |prod a b=>cases o1
       |_=>simp[rei1,rei]at f2
      obtain⟨e,rfl,rfl,hy⟩:=hk;cases hy;refine⟨e,y,c.β id,rfl,?_,λb hb=>⟨⟨(hokb id e y gen hist b hb (hh _ _ o3)).1,(hokb id e y gen hist b hb (hh _ _ o3)).2,λ⟨l,hl⟩=>(hc.man.r.sep l b (hback l b hl)).2.2 id ⟨hb,_,hh _ _ o3,rfl⟩⟩,hnS id b ⟨hb,_,hh _ _ o3,rfl⟩ ?_⟩⟩
      ·have:=zx hc.mem (hh _ _ o3) (aT u2) (S':=S') (λb hb=>.inl hb);exact this
      ·intro hid;rw[Po,List.flatten_append,fo,QI,rk id sg.res us hu1.symm]at o4;have h1:0<(lQ sg.res us).count id:=PO.2 (uy _ _ j _ _ _ e1 huj (by simp[ba,S.ids]));have h2:0<(fE sg.res us).count id+(ba (ws.map (·.2)).flatten).count id:=by
        rcases NU.1 hid with q|q
        ·have:=PO.2 q;omega
        ·have:=PO.2 q;omega
       omega
    ·subst ho;have hrt:RepT c.te c.w S' k' y u.cells.toList:=dV hc.mem hh (S':=S') (λb hb=>.inl hb) (hN j g' cs' (.inl ⟨⟨k',e1⟩,huj⟩)) (bZ u2) f2;have hlv:=(bj (c:=clC c.te c.w S') k' y u.cells.toList).2 hrt;rw[<- o1];cases g' with
     |true=>
      obtain⟨ar,rfl,_⟩:=u2;exact⟨ar,rfl,hlv⟩
     |false=>
      obtain⟨s,rfl,hs⟩:=u2;have hc1:u.cells=#[u]:=qM (mN hs);rw[hc1]at hlv;have hl1:=hlv.length
      match hlvs:bg k' y,hl1 with
      |[s'],_=>
       rw[hlvs]at hlv;exact⟨s',rfl,hlv.1⟩
      |[],h=>simp at h
      |_::_::_,h=>simp at h
   ·have hlvl:(lvs sg.ks rr).length=sg.ks.length:=lE _ _;have hkl:sg.ks.length=sg.res.length+sg.io.length:=by rw[Sig.ks_eq];simp
    refine vk args bs 0 _ hco (by omega) (by rw[OA,OT,hlvl,hkl,hsg,Ny,hiol0];omega) λm j p e1 e2=>?_
    obtain⟨g,cs,b,k,t1,t2,t3,t4,t5,t6⟩:=hbox m j e1;have hmlt:m<(ioKs args).length:=(NJ.1 t6).1;rw[Ol,NI hmlt,OQ]at e2;have hcl:=hws' m g cs t1;rw[hu1]at hcl;obtain⟨k',y,f1,f2,f3⟩:=hcell _ cs hcl;rw[f3]at e2;cases e2;have hkk:k'=k:=by
     have:sg.ks[sg.res.length+m]?=some k:=by
      rw[Sig.ks_eq];rw[N6 (by simp),OC,show sg.res.length+m-sg.res.length=m by omega,hsg,NZ hmlt];exact t6
     rw[this]at f1;cases f1;rfl
    subst hkk;have hro:=hc.mem.obj j _ (hh _ _ t2);obtain⟨b',ar,r1,r2,r3⟩:=hro t3;rw[t4]at r1;cases r1;have hrt:RepT c.te c.w S' k' y (ar.toList.take cs.length):=dV hc.mem hh (S':=S') (λb hb=>.inl hb) (hN m g cs (.inr t1)) r3 f2;have hll:(bg k' y).length=cs.length:=by
     have h1:=((bj (c:=clC c.te c.w S') k' y _).2 hrt).length;rw[h1,<- r3.length]
    refine⟨k',b,t6,by rw[P4];exact t5,⟨ar,r2,?_⟩,?_,?_⟩
    ·rw[hll];exact(bj (c:=clC c.te c.w S') k' y _).2 hrt
    ·refine hnS j b ⟨t4,_,hh _ _ t2,by cases cs<;>simp[Obj.live]at t3 ⊢⟩ λhid=>?_
     obtain⟨k2,xs2,g2,h2,fz,ho⟩:=hNrow j hid;rw[hh _ _ t2]at ho;cases ho
    ·have:=hrt.len;rw[hll,<- this,<- r3.length]
 ·cases h
theorem GO:∀(a b:List K),eqKs a b=true->a=b
 |[],[],_=>rfl
 |a::r,b::s,h=>by
  simp only[eqKs,NM,N0]at h;rw[h.1,GO r s h.2]
 |[],_::_,h=>by cases h
 |_::_,[],h=>by cases h
theorem I8 (hC:j8 P A Gl C)(hmx:P.follows .mixedOrders=true)(k:Nat):j8 P A Gl (Lj P A C k):=by
 intro sg f args cos rr hco h;unfold Lj at h;split at h
 ·rename_i fn hf;split at h
  ·rename_i c hb;rw [xk args cos hco] at h;cases hcnd : (Nat.ble args.length fn.ntmps && Nat.ble args.length 1048575 && !(fn.name == "runtime.NumGoroutine") && eqKs sg.io (ioKs (args ++ cos.map coAV))) with
   |false=>rw[hcnd]at h;cases h
   |true=>
    rw[hcnd]at h;simp only[NH]at h;simp only[NM,Oz]at hcnd;obtain⟨⟨⟨h1,h1'⟩,h2⟩,h3⟩:=hcnd;have h1':=N3 h1';have h3:=GO _ _ h3;have h1:=N3 h1;refine⟨⟨fn,hf,h2,by simp[hb]⟩,λte w Sb vs bs hte hG hbel hA hbs hinj hIn=>?_⟩;have hl:=hA.length.1;refine calls_of_wp hf hb (Dd hC hmx c 0 _ _ _ _ _ h (IW hte hco hIn h1' hG hbel hA hbs hinj h1) λe σ a w' hk hok=>?_);have ha0:∀j,j<args.length->(vs++Array.replicate (fn.ntmps-vs.size) undef).getD j undef=vs.getD j undef:=by
     intro j hj;rw[N2,N2,PW (by rw[<- O7,<- hl];exact hj)]
    cases e with
    |exit id=>cases hk
    |normal=>
     obtain⟨q1,v,q2,te',S',cos',q3,q4,q5⟩:=yr hA ha0 hco hIn h1' h3 hok hk;exact⟨q1,v,q2,v,te',S',cos',rfl,q3,q4,q5⟩
    |ret=>
     obtain⟨q1,v,q2,te',S',cos',q3,q4,q5⟩:=yr hA ha0 hco hIn h1' h3 hok hk;exact⟨q1,v,q2,v,te',S',cos',rfl,q3,q4,q5⟩
  ·cases h
 ·cases h
def Hi (P:Program)(A:Ann)(Gl:Nat->Option Go.Obj)(X:Hj):Prop:=j8 P A Gl (λsg f args=>(X sg f args).join)
theorem CW {X:Hj}(hX:Hi P A Gl X)(hmx:P.follows .mixedOrders=true):∀k,j8 P A Gl (D8 P A X k)
 |0=>λsg f args cos rr hco h=>by cases h
 |k+1=>λsg f args cos rr hco h=>by
  simp only[D8]at h;split at h
  ·rename_i r hr;exact hX sg f args cos rr hco (by simp only[hr,h];rfl)
  ·exact I8 (CW hX hmx k) hmx k sg f args cos rr hco h
end
end Go.Eng
namespace Go.Eng
open Go.RowKit Go.Deep Go.ChangeShapes
section
variable {P:Program} {A:Ann} {te:TE} {Gl:Nat->Option Go.Obj} {C:ic}
def allB (w:World):Nat->Prop:=λb=>b<w.heap.size
theorem sM {w:World}{Sb:Nat->Prop}{a:AV}{v:Value}(h1:∀k xs,a=.val false [.mv k xs]->False)(h2:∀k x,a=.val false [.io k x]->False)(h:RepV (clC te w Sb) a v):ArgRel te w Sb a v none:=by
 unfold ArgRel;split
 ·exact(h1 _ _ rfl).elim
 ·exact(h2 _ _ rfl).elim
 ·exact⟨rfl,h⟩
theorem xB {w:World}{Sb:Nat->Prop}:∀(args:List AV)(vs:List Value),(∀a∈args,(∀k xs,a=.val false [.mv k xs]->False)/\(∀k x,a=.val false [.io k x]->False))->LR (RepV (clC te w Sb)) args vs->LR3 (ArgRel te w Sb) args vs (args.map λ_=>none)
 |[],[],_,_=>trivial
 |a::r,v::vs,h,hl=>⟨sM (h a (by simp)).1 (h a (by simp)).2 hl.1,xB r vs (λa ha=>h a (by simp[ha])) hl.2⟩
 |[],_::_,_,h=>h.elim
 |_::_,[],_,h=>h.elim
def te00 (A:Ann):TE:=⟨A.te,λ_ _=>none,λ_ _=>none,λ_ _=>undef⟩
def coE (t off:Nat)(m:Mode)(k:K):CoD:=⟨aX t off,t,off,m,k,[]⟩
theorem Dt {w:World}{Sb:Nat->Prop}{cos:List CoD}(hlay:∀t,wQ (A.man t))(hcos:∀d∈cos,d.xs=[]/\d.cid=aX d.t d.off/\(d.off,d.m,d.k)∈A.man d.t):ManR A (coC (te00 A) w Sb cos):=by
 have hx:∀cid t off m k (xs:List (K.T k)) g p,(coC (te00 A) w Sb cos).hp cid=some (.col t off m k xs g p)->xs=[]/\cid=aX t off/\(off,m,k)∈A.man t:=by
  intro cid t off m k xs g p h;obtain⟨d,hd,rfl,e⟩:=bt h;cases e;exact hcos d hd
 refine⟨hlay,λcid t off m k xs g p h=>(hx _ _ _ _ _ _ _ _ h).2,λcid t off m k xs g p h i=>?_,λt i b _ hi=>?_,λcid t off k xs g p h i x b arr hx'=>?_,λcid t off e xs g p h i x hx'=>?_,λcid t off e xs g p h i es hx'=>?_,λl b hl=>?_,λl l' b hl=>?_⟩
 ·rw[(hx _ _ _ _ _ _ _ _ h).1];simp[coC,te00]
 ·cases hi
 ·rw[(hx _ _ _ _ _ _ _ _ h).1]at hx';simp at hx'
 ·rw[(hx _ _ _ _ _ _ _ _ h).1]at hx';simp at hx'
 ·rw[(hx _ _ _ _ _ _ _ _ h).1]at hx';simp at hx'
 ·cases l with
  |man t i=>cases hl.2
  |own cid i=>cases hl.2
 ·cases l with
  |man t i=>cases hl.2
  |own cid i=>cases hl.2
theorem tW {w:World}{Sb:Nat->Prop}{cos:List CoD}{l:Lab}{b:Nat}(h:OwnX (coC (te00 A) w Sb cos) l b):False:=by
 cases l with
 |man t i=>cases h.2
 |own cid i=>cases h.2
theorem FB (hC:j8 P A Gl C){f:Nat}{args:List AV}{io:List K}{cos:List CoD}{rr:(Sig.mk [(false,.bool)] io).R}{vs:Array Value}{w:World}(h:C ⟨[(false,.bool)],io⟩ f (args++cos.map coAV)=some rr)
  (hres:(lvs (Sig.mk [(false,.bool)] io).ks rr).take 1=[(false,[.bool true])])
  (hlay:∀t,wQ (A.man t)) (hnod:(cos.map (·.cid)).Nodup) (hcos:∀d∈cos,d.xs=[]/\d.cid=aX d.t d.off/\(d.off,d.m,d.k)∈A.man d.t) (hco:∀a∈args,isCo a=false)
  (hp:∀a∈args,(∀k xs,a=.val false [.mv k xs]->False)/\(∀k x,a=.val false [.io k x]->False)) (hG:∀b o,Gl b=some o->w.heap[b]?=some o) (hA:LR (RepV (clC (te00 A) w (allB w))) args vs.toList):
  Calls P f vs w (λe w'=>e=.returned (.bool true)/\Below w.heap.size w w'):=by
 obtain⟨_,hc⟩:=hC _ _ _ _ _ hco h;have hnone:∀(j b:Nat),(args.map λ_=>(none:Option Nat))[j]?=some (some b)->False:=by
  intro j b hj;rw[Ot]at hj;cases hq:args[j]? with
  |none=>rw[hq]at hj;cases hj
  |some a=>rw[hq]at hj;cases hj
 refine(hc (te00 A) w (allB w) vs (args.map λ_=>none) rfl (λb o hb=>⟨bE (hG b o hb),hG b o hb⟩) (λb hb=>hb) (xB args vs.toList hp hA) (λj b hj=>(hnone j b hj).elim) (λj j' b hj=>(hnone j b hj).elim) ⟨hnod,Dt hlay hcos,λl b hl=>(tW hl).elim⟩).mono ?_;rintro e w' ⟨v,te',S',cos',rfl,⟨arr,rfl,hfr,_,_,hrv,_⟩,_,_⟩;have hM:∀b,¬ (some b∈(args.map λ_=>(none:Option Nat))\/XOf (te00 A) w (allB w) cos b):=by
  rintro b (hb|⟨l,hl⟩)
  ·obtain⟨a,_,ha⟩:=N9.1 hb;cases ha
  ·exact tW hl
 refine⟨?_,hfr.os,hfr.tape,hfr.output,hfr.size,λb hb=>hfr.block b hb (hM b)⟩;have hrv:ResV te' w' S' _ [(false,.bool)] ((lvs (Sig.mk [(false,.bool)] io).ks rr).take 1) arr.toList:=hrv;rw[hres]at hrv
 match hl:arr.toList,hrv with
 |[u],hrv=>
  obtain⟨h1,_⟩:=hrv;have hu:u=.bool true:=by
   have:=aT h1;exact this
  have:arr=#[u]:=by apply O5;simp[hl]
  subst this;rw[hu];rfl
def OpnT (P:Program)(te:TE)(w:World)(t:TypeId)(k:K)(ok:k.T->Prop):Prop:=
 ∀(H:Type) (enc:TypeId×Value->H) (fuel:Nat) (cs:List Value) (x:DataW H×List MemPlace),
  DataW.trod enc P w 0 (λ_=>true) true fuel t cs=some x->(∀n∈x.1.weights P t,n<=reachBytes)->∃y:k.T,RepT te w (allB w) k y cs/\ok y
variable {w:World} {t:TypeId}
theorem Jz {k:IntKind}{n:Int}(h:(Lit.int k n).wf=true):okI k n:=by
 unfold okI okB;cases k<;>first|rfl|(simp[Lit.wf,IntKind.min,IntKind.max,IntKind.signed,IntKind.bits]at h;simp;omega)
theorem H7 {k:IntKind}(hu:P.underlying t=some (.int k)):OpnT P te w t (.int k) (λn=>(Lit.int k n).wf=true):=by
 intro H enc fuel cs x h _;obtain⟨n,rfl,_,hw⟩:=DataW.trod_int hu h;exact⟨n,⟨rfl,Jz hw⟩,hw⟩
theorem pt {α:Type}{Q:Nat->α->Prop}:∀n,(∀i,i<n->∃y,Q i y)->∃xs:List α,xs.length=n/\∀(i:Nat) y,xs[i]?=some y->Q i y
 |0,_=>⟨[],rfl,λi y h=>by simp at h⟩
 |n+1,h=>by
  obtain⟨xs,hl,hx⟩:=pt n (λi hi=>h i (by omega));obtain⟨y,hy⟩:=h n (by omega);refine⟨xs++[y],by simp[hl],λi z hz=>?_⟩;rcases Oy i n with hi|hi
  ·rw[NZ (by omega)]at hz;exact hx i z hz
  ·rw[N6 (by omega),hl]at hz;obtain rfl:i=n:=by
    rcases Oy (i-n) 1 with h1|h1
    ·omega
    ·rw[Pc (by simpa using h1)]at hz;cases hz
   simp at hz;subst hz;exact hy
theorem kf {H:Type}{e:TypeId}{n:Nat}:∀{ds:List (DataW H)} {d:DataW H},d∈ds->n∈d.weights P e->n∈DataW.weightsAll P e ds
 |d0::ds,d,hd,hn=>by
  simp only[DataW.weightsAll,NU];rcases NO.1 hd with rfl|hd
  ·exact .inl hn
  ·exact .inr (kf hd hn)
theorem G5 {w:World}{a:Addr}{v:Value}(h:w.cell? a=some v):a.spot=none/\a.block<w.heap.size:=by
 unfold World.cell? at h;split at h
 ·rename_i hq;cases hs:a.spot with
  |none=>exact⟨rfl,bE hq⟩
  |some x=>rw[hs]at h;simp at h
 ·cases h
theorem Jc {a:Addr}(h:a.spot=none)(k:Nat):a.add k=⟨a.block,a.off+k,none⟩:=by
 obtain⟨b,o,s⟩:=a;cases h;simp[Addr.add]
theorem Dq {e:TypeId}{d:K}{ok:d.T->Prop}{b:Nat}(hu:P.underlying t=some (.slice e))(he:OpnT P te w e d ok)(hC:P.cellsOf e=d.size)(hd:0<d.size)(hb:P.bytesOf e=b):
  OpnT P te w t (.slice d) (λ(xs:List d.T)=>xs.length*b<=140737488351232/\∀x∈xs,ok x):=by
 intro H enc fuel cs x h hw;rcases open_slice hu h with⟨rfl,rfl⟩|⟨a,len,cap,m,n,D,Pl,rfl,_,hl,hc,hm,rfl,hi⟩
 ·exact⟨([]:List d.T),pR _ _ _ _,by simp,λx hx=>by cases hx⟩
 ·simp only[O8]at hm;subst hm;have h1:(len+(m-len))*b<=reachBytes:=by
   have:=hw ((((List.range len).map D).length+((List.range (m-len)).map λj=>D (len+j)).length)*P.bytesOf e) (by simp[DataW.weights,hu]);rw[hb]at this;simpa using this
  have hb1:len*b<=140737488351232:=by
   have h2:len*b<=(len+(m-len))*b:=Of _ (by omega);have h3:reachBytes=140737488351232:=by decide
   omega
  obtain⟨xs,hxl,hx⟩:=pt (Q:=λi (y:d.T)=>(∃cs',w.cells? 0 (a.add (i*P.cellsOf e)) (P.cellsOf e)=some cs'/\RepT te w (allB w) d y cs')/\ok y) len (λi hlt=>by
   obtain⟨cs',hcs,ht⟩:=hi i (by omega);obtain⟨y,hy,hok⟩:=he H enc n cs' _ ht (λq hq=>hw q (by
    simp only[DataW.weights,hu];refine NW _ (PG _ (kf (N9.2 ⟨i,QV.2 hlt,rfl⟩) hq))))
   exact⟨y,⟨cs',hcs,hy⟩,hok⟩)
  have hcell:∀(i:Nat) (y:d.T),xs[i]?=some y->∃vs,RepT te w (allB w) d y vs/\∀(j:Nat) v,vs[j]?=some v->w.cell? (a.add (i*d.size+j))=some v:=by
   intro i y hy;obtain⟨⟨cs',hcs,hk⟩,_⟩:=hx i y hy;obtain⟨_,hcl,hat⟩:=World.cells?_some hcs;refine⟨cs',hk,λj v hj=>?_⟩;have hil:j<P.cellsOf e:=by
    have:=(NJ.1 hj).1;omega
   have:=hat j hil;rw[Go.Deep.add_add,hC]at this;rw[this,hj]
  have hsp:xs≠[]->a.spot=none/\a.block<w.heap.size:=by
   intro hne
   match xs,hne with
   |y::_,_=>
    obtain⟨vs,h1,h2⟩:=hcell 0 y rfl;have hl:=h1.len
    match vs,hl with
    |[],hl=>simp at hl;omega
    |v::_,_=>
     have:=G5 (h2 0 v rfl);simpa[Addr.add]using this
  refine⟨xs,⟨some a,m,by rw[hxl],by omega,λhn=>⟨a,rfl,(hsp hn).1,(hsp hn).2,λi y hy=>?_⟩⟩,by rw[hxl];exact hb1,λy hy=>?_⟩
  ·obtain⟨vs,h1,h2⟩:=hcell i y hy;refine⟨vs,h1,λj v hj=>?_⟩;have:=h2 j v hj;rw[Jc (hsp hn).1]at this;rw[<- Pk]at this;exact this
  ·obtain⟨i,hi',rfl⟩:=Qr hy;exact(hx i _ (NT hi')).2
theorem HO {Sb:Nat->Prop}{k:K}{x:k.T}{v:Value}(h:RepT te w Sb k x v.cells.toList)(hg:k.isAgg=true->∃cs,v=.agg cs)(hs:k.isAgg=false->one v=true):RepV (clC te w Sb) (inj k x) v:=by
 have hl:=(bj (c:=clC te w Sb) k x v.cells.toList).2 h;unfold inj;cases hk:k.isAgg with
 |true=>
  obtain⟨cs,rfl⟩:=hg hk;exact⟨cs,rfl,hl⟩
 |false=>
  have:=qM (hs hk);rw[this]at hl;have hn:=hl.length
  match hlv:bg k x,hn with
  |[s],_=>
   rw[hlv]at hl;exact⟨s,rfl,hl.1⟩
  |[],h=>simp at h
  |_::_::_,h=>simp at h
end
end Go.Eng
namespace Go.Eng
open Go.RowKit
abbrev w64 (n:Int):Int:=IntKind.i64.wrap n
theorem jq (n:Int):∃q:Int,w64 n=n-18446744073709551616*q/\-9223372036854775808<=w64 n/\w64 n<9223372036854775808:=by
 have h:w64 n=if 9223372036854775808<=n%18446744073709551616 then n%18446744073709551616-18446744073709551616 else n%18446744073709551616:=by
  unfold w64 IntKind.wrap;simp[IntKind.bits,IntKind.signed]
 by_cases hc:9223372036854775808<=n%18446744073709551616
 ·rw[NI hc]at h;exact⟨n/18446744073709551616+1,by omega,by omega,by omega⟩
 ·rw[ND hc]at h;exact⟨n/18446744073709551616,by omega,by omega,by omega⟩
theorem bP {n:Int}(h1:-9223372036854775808<=n)(h2:n<9223372036854775808):w64 n=n:=by
 obtain⟨q,h3,h4,h5⟩:=jq n;omega
theorem L5 {n:Int}(h:(Lit.int .u8 n).wf=true):0<=n/\n<256:=by
 simp[Lit.wf,IntKind.min,IntKind.max,IntKind.signed,IntKind.bits]at h;omega
def GlOf (w:World):Nat->Option Go.Obj:=λb=>if b=0 then w.heap[0]? else none
end Go.Eng
namespace Go.Eng
abbrev w8 (n:Int):Int:=IntKind.u8.wrap n
abbrev w32 (n:Int):Int:=IntKind.u32.wrap n
abbrev wu64 (n:Int):Int:=IntKind.u64.wrap n
theorem wV {n:Int}(h1:0<=n)(h2:n<4294967296):w32 n=n:=by
 unfold w32 IntKind.wrap;simp only[IntKind.bits,IntKind.signed,PH,Od,OE];omega
theorem uX {n:Int}(h1:0<=n)(h2:n<18446744073709551616):wu64 n=n:=by
 unfold wu64 IntKind.wrap;simp only[IntKind.bits,IntKind.signed,PH,Od,OE];omega
theorem oY (n:Int):w8 n=n%256:=by
 unfold w8 IntKind.wrap;simp only[IntKind.bits,IntKind.signed,PH,Od,OE];rfl
theorem JY (n:Int):w32 n=n%4294967296:=by
 unfold w32 IntKind.wrap;simp only[IntKind.bits,IntKind.signed,PH,Od,OE];rfl
theorem pN (n:Int):wu64 n=n%18446744073709551616:=by
 unfold wu64 IntKind.wrap;simp only[IntKind.bits,IntKind.signed,PH,Od,OE];rfl
theorem G9 {α β:Type}{o:Option α}{v:α}{F:α->Option β}{r:Option β}(h:o=some v)(h2:F v=r):o.bind F=r:=by subst h;exact h2
def Ev1 {α:Type}(f:Nat->Option α)(r:α):Prop:=∃K:Nat,∀k:Nat,K<=k->f k=some r
theorem Ev1.now {α:Type}(r:α):Ev1 (λ_=>some r) r:=⟨0,λ_ _=>rfl⟩
theorem Ev1.const {α:Type}{o:Option α}{r:α}(h:o=some r):Ev1 (λ_=>o) r:=⟨0,λ_ _=>h⟩
theorem Ev1.iff {α:Type}{p:Prop} [Decidable p] {f g:Nat->Option α}{r:α}(h1:p->Ev1 f r)(h2:¬ p->Ev1 g r):Ev1 (λk=>bif decide p then f k else g k) r:=by
 by_cases h:p
 ·simp only[NK h,NH];exact h1 h
 ·simp only[NF h,NS];exact h2 h
theorem Ev1.pos {α:Type}{b:Bool}{f g:Nat->Option α}{r:α}(h:b=true)(h1:Ev1 f r):Ev1 (λk=>bif b then f k else g k) r:=by subst h;exact h1
theorem Ev1.neg {α:Type}{b:Bool}{f g:Nat->Option α}{r:α}(h:b=false)(h1:Ev1 g r):Ev1 (λk=>bif b then f k else g k) r:=by subst h;exact h1
theorem Ev1.posD {α:Type}{p:Prop} [Decidable p] {f g:Nat->Option α}{r:α}(h:p)(h1:Ev1 f r):Ev1 (λk=>bif decide p then f k else g k) r:=Ev1.pos (NK h) h1
theorem Ev1.negD {α:Type}{p:Prop} [Decidable p] {f g:Nat->Option α}{r:α}(h:¬ p)(h1:Ev1 g r):Ev1 (λk=>bif decide p then f k else g k) r:=Ev1.neg (NF h) h1
theorem Ev1.step {α:Type}{f g:Nat->Option α}{r:α}(h:∀k,f (k+1)=g k)(hg:Ev1 g r):Ev1 f r:=by
 obtain⟨K,hK⟩:=hg;refine⟨K+1,λk hk=>?_⟩;obtain⟨j,rfl⟩:∃j,k=j+1:=⟨k-1,by omega⟩
 exact(h j).trans (hK j (by omega))
theorem Ev1.bind {α β:Type}{a:Nat->Option α}{F:Nat->α->Option β}{x:α}{r:β}(h:Ev1 a x)(hg:Ev1 (λk=>F k x) r):Ev1 (λk=>(a k).bind (F k)) r:=by
 obtain⟨K,hK⟩:=h;obtain⟨L,hL⟩:=hg;refine⟨max K L,λk hk=>?_⟩;show(a k).bind (F k)=some r;rw[hK k (by omega)];exact hL k (by omega)
def Ev2 {α:Type}(f:Nat->Nat->Option α)(r:α):Prop:=∃K:Nat,∀k m:Nat,K<=k->K<=m->f k m=some r
theorem Ev2.now {α:Type}(r:α):Ev2 (λ_ _=>some r) r:=⟨0,λ_ _ _ _=>rfl⟩
theorem Ev2.const {α:Type}{o:Option α}{r:α}(h:o=some r):Ev2 (λ_ _=>o) r:=⟨0,λ_ _ _ _=>h⟩
theorem Ev2.iff {α:Type}{p:Prop} [Decidable p] {f g:Nat->Nat->Option α}{r:α}(h1:p->Ev2 f r)(h2:¬ p->Ev2 g r):Ev2 (λk m=>bif decide p then f k m else g k m) r:=by
 by_cases h:p
 ·simp only[NK h,NH];exact h1 h
 ·simp only[NF h,NS];exact h2 h
theorem Ev2.pos {α:Type}{b:Bool}{f g:Nat->Nat->Option α}{r:α}(h:b=true)(h1:Ev2 f r):Ev2 (λk m=>bif b then f k m else g k m) r:=by subst h;exact h1
theorem Ev2.neg {α:Type}{b:Bool}{f g:Nat->Nat->Option α}{r:α}(h:b=false)(h1:Ev2 g r):Ev2 (λk m=>bif b then f k m else g k m) r:=by subst h;exact h1
theorem Ev2.posD {α:Type}{p:Prop} [Decidable p] {f g:Nat->Nat->Option α}{r:α}(h:p)(h1:Ev2 f r):Ev2 (λk m=>bif decide p then f k m else g k m) r:=Ev2.pos (NK h) h1
theorem Ev2.negD {α:Type}{p:Prop} [Decidable p] {f g:Nat->Nat->Option α}{r:α}(h:¬ p)(h1:Ev2 g r):Ev2 (λk m=>bif decide p then f k m else g k m) r:=Ev2.neg (NF h) h1
theorem Ev2.step {α:Type}{f g:Nat->Nat->Option α}{r:α}(h:∀k m,f k (m+1)=g k m)(hg:Ev2 g r):Ev2 f r:=by
 obtain⟨K,hK⟩:=hg;refine⟨K+1,λk m hk hm=>?_⟩;obtain⟨j,rfl⟩:∃j,m=j+1:=⟨m-1,by omega⟩
 exact(h k j).trans (hK k j (by omega) (by omega))
theorem Ev2.bind {α β:Type}{a:Nat->Option α}{F:Nat->Nat->α->Option β}{x:α}{r:β}(h:Ev1 a x)(hg:Ev2 (λk m=>F k m x) r):Ev2 (λk m=>(a k).bind (F k m)) r:=by
 obtain⟨K,hK⟩:=h;obtain⟨L,hL⟩:=hg;refine⟨max K L,λk m hk hm=>?_⟩;show(a k).bind (F k m)=some r;rw[hK k (by omega)];exact hL k m (by omega) (by omega)
def Ev3 {α:Type}(f:Nat->Nat->Nat->Option α)(r:α):Prop:=∃K:Nat,∀k m m2:Nat,K<=k->K<=m->K<=m2->f k m m2=some r
theorem Ev3.now {α:Type}(r:α):Ev3 (λ_ _ _=>some r) r:=⟨0,λ_ _ _ _ _ _=>rfl⟩
theorem Ev3.const {α:Type}{o:Option α}{r:α}(h:o=some r):Ev3 (λ_ _ _=>o) r:=⟨0,λ_ _ _ _ _ _=>h⟩
theorem Ev3.pos {α:Type}{b:Bool}{f g:Nat->Nat->Nat->Option α}{r:α}(h:b=true)(h1:Ev3 f r):Ev3 (λk m m2=>bif b then f k m m2 else g k m m2) r:=by subst h;exact h1
theorem Ev3.neg {α:Type}{b:Bool}{f g:Nat->Nat->Nat->Option α}{r:α}(h:b=false)(h1:Ev3 g r):Ev3 (λk m m2=>bif b then f k m m2 else g k m m2) r:=by subst h;exact h1
theorem Ev3.posD {α:Type}{p:Prop} [Decidable p] {f g:Nat->Nat->Nat->Option α}{r:α}(h:p)(h1:Ev3 f r):Ev3 (λk m m2=>bif decide p then f k m m2 else g k m m2) r:=Ev3.pos (NK h) h1
theorem Ev3.negD {α:Type}{p:Prop} [Decidable p] {f g:Nat->Nat->Nat->Option α}{r:α}(h:¬ p)(h1:Ev3 g r):Ev3 (λk m m2=>bif decide p then f k m m2 else g k m m2) r:=Ev3.neg (NF h) h1
theorem Ev3.step {α:Type}{f g:Nat->Nat->Nat->Option α}{r:α}(h:∀k m m2,f k m (m2+1)=g k m m2)(hg:Ev3 g r):Ev3 f r:=by
 obtain⟨K,hK⟩:=hg;refine⟨K+1,λk m m2 hk hm hm2=>?_⟩;obtain⟨j,rfl⟩:∃j,m2=j+1:=⟨m2-1,by omega⟩
 exact(h k m j).trans (hK k m j (by omega) (by omega) (by omega))
theorem Ev3.bind {α β:Type}{a:Nat->Option α}{F:Nat->Nat->Nat->α->Option β}{x:α}{r:β}(h:Ev1 a x)(hg:Ev3 (λk m m2=>F k m m2 x) r):Ev3 (λk m m2=>(a k).bind (F k m m2)) r:=by
 obtain⟨K,hK⟩:=h;obtain⟨L,hL⟩:=hg;refine⟨max K L,λk m m2 hk hm hm2=>?_⟩;show(a k).bind (F k m m2)=some r;rw[hK k (by omega)];exact hL k m m2 (by omega) (by omega) (by omega)
theorem Ev2.diag {α:Type}{f:Nat->Nat->Option α}{r:α}(h:Ev2 f r):Ev1 (λk=>f k k) r:=by
 obtain⟨K,hK⟩:=h;exact⟨K,λk hk=>hK k k hk hk⟩
theorem Ev3.diag {α:Type}{f:Nat->Nat->Nat->Option α}{r:α}(h:Ev3 f r):Ev2 (λk m=>f k m k) r:=by
 obtain⟨K,hK⟩:=h;exact⟨K,λk m hk hm=>hK k m k hk hm hk⟩
theorem Ev2.drop {α:Type}{f:Nat->Nat->Option α}{r:α}(h:Ev2 f r):Ev3 (λk m _=>f k m) r:=by
 obtain⟨K,hK⟩:=h;exact⟨K,λk m _ hk hm _=>hK k m hk hm⟩
theorem Ev1.drop {α:Type}{f:Nat->Option α}{r:α}(h:Ev1 f r):Ev2 (λk _=>f k) r:=by
 obtain⟨K,hK⟩:=h;exact⟨K,λk _ hk _=>hK k hk⟩
theorem Ev1.of_rfl {α:Type}{f:Nat->Option α}{r:α}(K:Nat)(h:∀k,f (k+K)=some r):Ev1 f r:=⟨K,λk hk=>by
 obtain⟨j,rfl⟩:∃j,k=j+K:=⟨k-K,by omega⟩
 exact h j⟩
theorem aj {i:Int}{n:Nat}(h0:0<=i)(h1:i<n):inb i n=true:=by simp only[inb,NM,N0];exact⟨h0,h1⟩
theorem and2 {p q:Prop} [Decidable p] [Decidable q] (h1:p)(h2:q):(decide p&&decide q)=true:=by rw[NK h1,NK h2];rfl
theorem wnat {i:Nat}(h:i<9223372036854775807):w64 ((i:Int)+1)=((i+1:Nat):Int):=by rw[bP (by omega) (by omega)];omega
theorem v7 (l:List Int)(i:Nat)(d:Int)(h:i<l.length):l.getD (Int.toNat (i:Int)) d=l[i]:=by
 rw[NQ,NP,NT h];rfl
theorem bc {α:Type}(l:List α)(i:Nat)(d:α)(h:i<l.length):l.getD i d=l[i]:=by
 rw[NP,NT h];rfl
theorem aL {x:Int}(h:-9223372036854775808<=x/\x<=9223372036854775807):w64 x=x:=bP h.1 (by omega)
theorem LA {a:Int}(h:(Lit.int .u16 a).wf=true):0<=a/\a<=65535:=by
 have h1:IntKind.u16.min<=a/\a<=IntKind.u16.max:=by simpa[Lit.wf]using h
 rwa [show IntKind.u16.min=0 from rfl,show IntKind.u16.max=65535 from rfl]at h1
def Byt (l:List Int):Prop:=∀x∈l,0<=x/\x<=255
theorem Byt.nil:Byt []:=λ_ h=>by cases h
theorem Byt.cons {x:Int}{l:List Int}(h:0<=x/\x<=255)(hl:Byt l):Byt (x::l):=λy hy=>by
 rcases NO.1 hy with rfl|hy
 ·exact h
 ·exact hl y hy
theorem Byt.append {a b:List Int}(ha:Byt a)(hb:Byt b):Byt (a++b):=λy hy=>(NU.1 hy).elim (ha y) (hb y)
def I64 (ns:List Int):Prop:=∀x∈ns,-9223372036854775808<=x/\x<=9223372036854775807
theorem G3 {α:Type}(b:Bool)(x y:α):(bif b then some x else some y)=some (bif b then x else y):=by cases b<;>rfl
theorem I4 (b x y:Bool):((bif b then x else y)=true)=((b=true/\x=true)\/(b=false/\y=true)):=by cases b<;>simp
theorem HD {x y:Bool}(h:x=true ↔ y=true):some x=some y:=congrArg some (Qi.2 h)
end Go.Eng
namespace Go.Eng
def fT (a b:Int×Int):Bool:=decide (a.1<b.1) || (decide (a.1=b.1)&&decide (a.2<b.2))
def iL (l:List (Int×Int))(i j:Nat):List (Int×Int):=(l.set i (l.getD j (0,0))).set j (l.getD i (0,0))
def hUp:Nat->List (Int×Int)->Nat->List (Int×Int)
 |0,l,_=>l
 |m+1,l,j=>bif Nat.beq j 0 then l else bif fT (l.getD j (0,0)) (l.getD ((j-1)/2) (0,0))then hUp m (iL l ((j-1)/2) j) ((j-1)/2)else l
def fC:Nat->List (Int×Int)->Nat->Nat->List (Int×Int)
 |0,l,_,_=>l
 |m+1,l,i,n=>bif Nat.ble n (2*i+1)then l else
   let j:=bif Nat.ble (2*i+3) n&&fT (l.getD (2*i+2) (0,0)) (l.getD (2*i+1) (0,0))then 2*i+2 else 2*i+1
   bif fT (l.getD j (0,0)) (l.getD i (0,0))then fC m (iL l i j) j n else l
def vZ (l:List (Int×Int))(x:Int×Int):List (Int×Int):=hUp (l.length+1) (l++[x]) l.length
def hPop (l:List (Int×Int)):List (Int×Int)×(Int×Int):=
 let l2:=fC l.length (iL l 0 (l.length-1)) 0 (l.length-1)
 (l2.take (l.length-1),l2.getD (l.length-1) (0,0))
def eS:Nat->List (Int×Int)->List Int
 |0,_=>[]
 |m+1,l=>let p:=hPop l;p.2.2::eS m p.1
abbrev pM:K:=.strct (.prod (.int .i64) (.prod (.int .i64) (.prod (.int .i64) (.prod (.int .i64) (.prod (.int .i64) (.prod (.int .i64) (.prod (.int .i64) (.int .i64))))))))
def eA:Nat->List pM.T->List (Int×Int)->List (Int×Int)
 |_,[],l=>l
 |k,p::r,l=>eA (k+1) r (bif decide (p.2.2.2.2.2.2.2=(0:Int))then vZ l (p.2.2.2.2.2.2.1,(k:Int))else l)
def fG (ps:List pM.T):List Int:=let l:=eA 0 ps [];eS l.length l
def oZ (bs:List (List Int)):List (Int×Option Nat)->Int
 |[]=>0
 |e::r=>w64 (((bs.getD (e.2.getD 0) []).length:Int)+oZ bs r)
def zh (r:Option Nat)(fs:List (List (Int×Option Nat)))(bs:List (List Int)):Option (Int×List (List (Int×Option Nat))×List (List Int)):=
 match r with
 |some i=>bif(fs.getD i []).all (λe=>e.2.isSome)then some (oZ bs (fs.getD i []),fs,bs)else none
 |none=>none
end Go.Eng
namespace Go.Eng
def insI (x:Int):List Int->List Int
 |[]=>[x]
 |y::r=>bif decide (y<x)then y::insI x r else x::y::r
def hZ:List Int->List Int
 |[]=>[]
 |x::r=>insI x (hZ r)
def nodI:List Int->Bool
 |[]=>true
 |x::r=>!r.contains x&&nodI r
def nodN:List Nat->Bool
 |[]=>true
 |x::r=>!r.contains x&&nodN r
def xp (r:Option Nat)(fs:List (List (Int×Option Nat))):Option (List Int×List (List (Int×Option Nat))):=
 match r with
 |some i=>bif Nat.ble (fs.getD i []).length 3&&nodI ((fs.getD i []).map (·.1))then some (hZ ((fs.getD i []).map (·.1)),fs)else none
 |none=>none
def ma (keep:Int)(len safe:Int):Int:=
 let k:=Int.tmod keep (w64 (w64 (len-safe)+1))
 w64 (safe+(bif decide (k<0)then w64 (k+w64 (w64 (len-safe)+1))else w64 k))
def zB (keep:Int):List (Int×Option Nat)->List (List Int)->List Int->Option (List (List Int)×List Int)
 |[],bs,sf=>some (bs,sf)
 |e::r,bs,sf=>match e.2 with
  |some g=>bif Nat.blt g bs.length&&(Nat.blt g sf.length&&(Nat.ble (bs.getD g []).length 1000000&&(decide (0<=sf.getD g 0)&&decide (sf.getD g 0<=((bs.getD g []).length:Int)))))then
    zB keep r (bs.set g ((bs.getD g []).take (Int.toNat (ma keep ((bs.getD g []).length:Int) (sf.getD g 0))))) (sf.set g (ma keep ((bs.getD g []).length:Int) (sf.getD g 0)))
   else none
  |none=>none
abbrev M0:Type:=List (List (Int×Option Nat))×List Int×List Bool×List (List Int)×List Int
def ER (r:Option Nat)(keep:Int)(fs:List (List (Int×Option Nat)))(left:List Int)(stopped:List Bool)(bs:List (List Int))(sf:List Int):Option M0:=
 match r with
 |some i=>bif nodN ((fs.getD i []).map (λe=>e.2.getD 0))&&Nat.blt i stopped.length&&Nat.blt i left.length then(match zB keep (fs.getD i []) bs sf with
  |some p=>some (fs,left.set i (-1),stopped.set i false,p.1,p.2)
  |none=>none)else none
 |none=>none
abbrev CutR:Type:=Option Int×List (List (Int×Option Nat))×List Int×List Bool×List (List Int)×List Int
def cutX (r:Option Nat)(name n:Int)(fs:List (List (Int×Option Nat)))(left:List Int)(stopped:List Bool)(bs:List (List Int))(sf:List Int):Option CutR:=
 match r with
 |some i=>(match aO none (fs.getD i []) name with
  |some g=>bif Nat.blt i stopped.length&&(Nat.blt i left.length&&(!(stopped.getD i false)&&(decide (left.getD i 0=-1)&&(Nat.blt g bs.length&&(Nat.blt g sf.length&&(Nat.ble (bs.getD g []).length 1000000&&(decide (0<=n)&&decide (n<=((bs.getD g []).length:Int)))))))))then
    some (none,fs,left,stopped,bs.set g ((bs.getD g []).take (Int.toNat n)),sf.set g n)else none
  |none=>none)
 |none=>none
def XTox (num due used names rest cut:Nat):Hj:=λsg f args=>match sg,args with
 |⟨[(false,.int .i64)],[]⟩,[.val false [.err e]]=>bif Nat.beq f num then some (some (e.getD 0))else none
 |⟨[(false,.slice (.int .i64))],[]⟩,[.val false [.sl k ps]]=>bif Nat.beq f due then(match cst k pM ps with|some l=>(bif Nat.ble l.length 1000000 then some (some (fG l))else none)|none=>none)else none
 |⟨[(false,.int .i64)],[.slice (.slice (.prod (.int .i64) (.ref 219))),.slice (.slice (.int .u8))]⟩,[.val false [.ref 29 r],.val false [.co 1050432 29 0 .mp (.slice (.prod (.int .i64) (.ref 219))) fs],.val false [.co 1062592 219 0 .own (.slice (.int .u8)) bs]]=>
  bif Nat.beq f used then some (zh r fs bs)else none
 |⟨[(false,.slice (.int .i64))],[.slice (.slice (.prod (.int .i64) (.ref 219)))]⟩,[.val false [.ref 29 r],.val false [.co 1050432 29 0 .mp (.slice (.prod (.int .i64) (.ref 219))) fs]]=>
  bif Nat.beq f names then some (xp r fs)else none
 |⟨[],[.slice (.slice (.prod (.int .i64) (.ref 219))),.slice (.int .i64),.slice .bool,.slice (.slice (.int .u8)),.slice (.int .i64)]⟩,[.val false [.ref 29 r],.val false [.int .i64 keep],.val false [.co 1050432 29 0 .mp (.slice (.prod (.int .i64) (.ref 219))) fs],.val false [.co 1050434 29 2 .dat (.int .i64) left],.val false [.co 1050435 29 3 .dat .bool stopped],.val false [.co 1062592 219 0 .own (.slice (.int .u8)) bs],.val false [.co 1062593 219 1 .dat (.int .i64) sf]]=>
  bif Nat.beq f rest then some (ER r keep fs left stopped bs sf)else none
 |⟨[(false,.err)],[.slice (.slice (.prod (.int .i64) (.ref 219))),.slice (.int .i64),.slice .bool,.slice (.slice (.int .u8)),.slice (.int .i64)]⟩,[.val false [.ref 29 r],.val false [.int .i64 name],.val false [.int .i64 n],.val false [.co 1050432 29 0 .mp (.slice (.prod (.int .i64) (.ref 219))) fs],.val false [.co 1050434 29 2 .dat (.int .i64) left],.val false [.co 1050435 29 3 .dat .bool stopped],.val false [.co 1062592 219 0 .own (.slice (.int .u8)) bs],.val false [.co 1062593 219 1 .dat (.int .i64) sf]]=>
  bif Nat.beq f cut then some (cutX r name n fs left stopped bs sf)else none
 |_,_=>none
end Go.Eng
