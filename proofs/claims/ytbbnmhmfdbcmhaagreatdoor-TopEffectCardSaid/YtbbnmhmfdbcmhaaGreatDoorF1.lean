/- Definitions and lemmas for the law TopEffect: what the program's functions come to. Conditions: as each lemma says. -/
import Derived.Test.YtbbnmhmfdbcmhaaGreatDoorF0
import Derived.MapKept
set_option linter.all false
set_option linter.unusedVariables false
set_option linter.unusedSimpArgs false
set_option linter.deprecated false
namespace Go.Eng
open Go.RowKit
theorem C7 {n:Int}(h0:0<=n)(h1:n<9223372036854775808):IntKind.i64.wrap n=n:=by
 have e:n%(2^64:Int)=n:=Int.emod_eq_of_lt h0 (by omega);show(if(true&&decide (n%(2^64:Int)≥(2^63:Int)))=true then n%(2^64:Int)-(2^64:Int)else n%(2^64:Int))=n;rw[e,ND];simp only[Q0,N0];omega
theorem I6 (c:Cx){k:K}{z:List Value}(hz:Bd k z=true)(ho:z.all one=true)(n:Nat):Cl c k (List.replicate n k.dflt) (List.replicate n z).flatten:=by
 unfold Bd at hz;split at hz
 ·rename_i h;obtain⟨pre,e,hr⟩:=C6 c.te c.w c.S k z [] h;simp at e;subst e;have hlen:=RepT.len hr;refine⟨by simp[hlen],λv hv=>?_,λi x hx=>?_⟩
  ·obtain⟨l,hl,hv⟩:=List.mem_flatten.1 hv;rw[(Ra.1 hl).2]at hv;exact OW.1 ho v hv
  ·have hx':x=k.dflt/\i<n:=by
    rw[QP]at hx;split at hx
    ·simp at hx;exact⟨hx.symm,by assumption⟩
    ·cases hx
   obtain⟨rfl,hi⟩:=hx';refine⟨z,hr,λj v hv=>?_⟩;have hj:j<z.length:=by obtain⟨q,_⟩:=NJ.1 hv;exact q
   rw[<- hlen];clear hx
   induction n generalizing i with
   |zero=>omega
   |succ n ih=>
    rw[Qq,Pv];cases i with
    |zero=>rw[P3,Ox,NZ hj];exact hv
    |succ i=>
     rw[N6 (by rw[Og];omega)];rw[show(i+1)*z.length+j-z.length=i*z.length+j by rw[Og];omega];exact ih i (by omega)
 ·cases hz
section
variable {P:Program} {A:Ann} {fid:Nat} {w0:World} {M:MS} {c:Cx} {ρ:Operand->AV} {r:Operand->Value} {hp:Nat->Option Obj} {o:Oper} {v:AV} {u:Upd}
theorem tC (hm:Mem w0 M c)(hf:∀d,o.dst=some d->hp d=none->c.hp d=none)(hr:∀x,RepV c (ρ x) (r x)){t:TypeId}{l cc:Operand}(ho:o.op=.makeSlice t l cc)(h:core P A fid ρ hp o=.ok true v u):
  aU w0 M c ((execOp r o).run P c.w) v u:=by
 simp only[core,ho]at h;simp only[execOp,ho];split at h
 ·rename_i n m e d hl hc hel hfr;obtain⟨el,_⟩:=aF hr hl;obtain⟨ec,_⟩:=aF hr hc;obtain⟨hd,hd2⟩:=cK hfr;have hu:=oN hel;split at h
  ·rename_i k z hk hz;cases hb:(Bd k z&&fF P e k)with
   |false=>rw[hb]at h;cases h
   |true=>
    rw[hb]at h;simp only[NM]at hb;simp only[NH,Out.ok.injEq,NM,N0]at h;obtain⟨⟨⟨rfl,h0⟩,hlim⟩,rfl,rfl⟩:=h;obtain⟨i,z',hi,hs,hz',hzl,hbt,hb1,hb2⟩:=gV hb.2;rw[hz]at hz';cases hz';rw[hbt]at hlim;obtain⟨zv,h1,h2,h3⟩:=cY hz c.w;have hzarr:zv.cells=z.toArray:=by apply O5;simp[h2]
    have hle:n<=140737488355328:=by
     have:n*1<=n*(i.bytes:Int):=Int.mul_le_mul_of_nonneg_left (by omega) h0;omega
    have hw:IntKind.i64.wrap n=n:=C7 h0 (by omega)
    let arr:Array Value:=(Array.range (n.toNat*k.size)).map (λj=>zv.cells[j%zv.cells.size]!)
    have harr:arr.toList=(List.replicate n.toNat z).flatten:=by
     simp only[arr];rw[hzarr,<- hzl,yq]
    have hcl:=I6 c hb.1 h3 n.toNat;have hrun:(do pure (Next.value (<- Instr.makeSlice t (r l) (r cc))):Sem Next).run P c.w=.ok (.value (.slice (some ⟨c.w.heap.size,0,none⟩) (List.replicate n.toNat k.dflt).length n.toNat)) (bY c.w (.cells arr e (0,0))):=by
     refine aM ?_;rw[el,ec];unfold Instr.makeSlice;rw[run_ok (run_underlying hu c.w)];simp only[];rw[run_ok (show(asInt (.int .i64 n)).run P c.w=.ok n c.w from rfl),run_ok (show(asInt (.int .i64 n)).run P c.w=.ok n c.w from rfl),run_ok (bK hi c.w)];simp only[hw];rw[ND (by
      simp only[Qk,N0];have hm2:(i.bytes:Int)*n=n*i.bytes:=Int.mul_comm _ _;omega)]
     rw[run_ok (qx _),run_ok (bh hs c.w)];by_cases h00:n.toNat*k.size=0
     ·rw[NI h00];have e0:(Array.range (n.toNat*k.size)).map (λj=>(#[]:Array Value)[j%(#[]:Array Value).size]!)=arr:=by
       simp only[arr];rw[h00];exact O5 (by simp[Qx])
      rw[run_pb];rw[e0,run_ok (fY e arr)];simp
     ·rw[ND h00];rw[run_ok h1,run_pb];rw[run_ok (fY e arr)];simp
    refine vC hm (hf d hd hd2) hcl (cI _ _) (NG _) (cB _ arr e) (λj v hv=>by rw[<- NR,harr];exact hv) (by simp) ?_ hrun;simp[arr]
  ·cases h
 ·cases h
theorem Ji {c:Cx}{ids:List Nat}{k:K}:∀(ys:List k.T) {b o:Nat},(∀(i:Nat)(x:k.T),ys[i]?=some x->∃vs,RepT c.te c.w c.S k x vs/\At c.w b (o+i*k.size) vs)->∃cl,Cl c k ys cl/\At c.w b o cl
 |[],b,o,_=>⟨[],⟨by simp,by simp,by simp⟩,λj v hv=>by simp at hv⟩
 |y::ys,b,o,h=>by
  obtain⟨v1,h1,h2⟩:=h 0 y rfl;obtain⟨cl,⟨q1,q2,q3⟩,q4⟩:=Ji (ids:=ids) ys (b:=b) (o:=o+k.size) (λi x hx=>by
   obtain⟨vs,t1,t2⟩:=h (i+1) x (by simpa using hx);exact⟨vs,t1,by rw[show o+k.size+i*k.size=o+(i+1)*k.size by rw[Og];omega];exact t2⟩)
  have hlen:=RepT.len h1;refine⟨v1++cl,⟨by simp[hlen,q1,Og];omega,λv hv=>?_,λi x hx=>?_⟩,λj v hv=>?_⟩
  ·rcases NU.1 hv with hv|hv
   ·exact LR.ones ((bj k y v1).2 h1) v hv
   ·exact q2 v hv
  ·cases i with
   |zero=>
    simp at hx;subst hx;refine⟨v1,h1,λj v hv=>?_⟩;have hj:j<v1.length:=by obtain⟨q,_⟩:=NJ.1 hv;exact q
    rw[P3,Ox,NZ hj];exact hv
   |succ i=>
    obtain⟨vs,t1,t2⟩:=q3 i x (by simpa using hx);refine⟨vs,t1,λj v hv=>?_⟩;rw[N6 (by rw[hlen,Og];omega)];rw[hlen,show(i+1)*k.size+j-k.size=i*k.size+j by rw[Og];omega];exact t2 j v hv
  ·by_cases hj:j<v1.length
   ·rw[NZ hj]at hv;have:=h2 j v hv;simpa using this
   ·rw[N6 (by omega)]at hv;have:=q4 _ v hv;rw[hlen]at this hj;rw[show o+k.size+(j-k.size)=o+j by omega]at this;exact this
def More (P:Program)(c:Cx)(k:K)(ys:List k.T)(x:Value):Prop:=
 (Builtin.lenOf x).run P c.w=.ok ys.length c.w/\∃cl,Cl c k ys cl/\∀w',Grew c.w w'->(Builtin.firstCells k.size ys.length x).run P w'=.ok cl.toArray w'
theorem At.grew {w w':World}{b o:Nat}{vs:List Value}(h:At w b o vs)(g:Grew w w'):At w' b o vs:=by
 intro j v hv;have:=h j v hv;refine(World.cell?_of_block (a:=⟨b,o+j,none⟩) (g.2.2.2.2 b ?_)).trans this;simp only[World.cell?]at this;split at this
 ·rename_i q;exact bE q
 ·cases this
theorem u0 {P:Program}{c:Cx}{k:K}{ys:List k.T}{x:Value}(h:VisR c k ys x):More P c k ys x:=by
 obtain⟨a,cap,rfl,h1,h2⟩:=h;refine⟨rfl,?_⟩;by_cases hne:ys=[]
 ·subst hne;refine⟨[],⟨by simp,by simp,by simp⟩,λw' _=>?_⟩;cases a with
  |none=>rfl
  |some ad=>
   show(loadCells ad (([]:List k.T).length*k.size)).run P w'=_;simp only[NL,P3];rfl
 ·obtain⟨ad,rfl,hsp,hel⟩:=h2 hne;obtain⟨cl,q1,q2⟩:=Ji (c:=c) (ids:=[]) ys hel;refine⟨cl,q1,λw' hg=>?_⟩;obtain⟨b,o,sp⟩:=ad;simp at hsp;subst hsp;show(loadCells ⟨b,o,none⟩ (ys.length*k.size)).run P w'=_;rw[<- q1.1];exact jw (q2.grew hg)
theorem Ig {P:Program}{c:Cx}{k:K}:More P c k ([]:List k.T) (.slice none 0 0):=
 ⟨rfl,[],⟨by simp,by simp,by simp⟩,λ_ _=>rfl⟩
theorem Hy {P:Program}{c:Cx}(sb:ByteArray):More P c (.int .u8) (bytesOf sb) (.string sb):=by
 refine⟨by rw[bQ];rfl,_,CV c sb,λw' _=>?_⟩;show Result.ok ((sb.extract 0 (bytesOf sb).length).data.map λb=>Value.int .u8 b.toNat) w'=_;congr 1;rw[bQ];apply O5;simp
theorem l9 {P:Program}{A:Ann}{w0:World}{M:MS}{c:Cx}(hm:Mem w0 M c)(hM:ManR A c){hp:Nat->Option Obj}(hh:∀id o,hp id=some o->c.hp id=some o){k:K}{s:S}{x:Value}(hr:RepS c s x){ys:List k.T}(h:pe hp k s=some ys):More P c k ys x:=by
 have other:(∀q,s≠ .str q)->More P c k ys x:=by
  intro hs;have h':(match zy hp s with
   |.nil=>some []
   |.some k' xs=>cst k' k xs
   |.none=>none)=some ys:=by
   cases s<;>first|exact h|exact(hs _ rfl).elim
  split at h'
  ·rename_i hro;simp only[Nz]at h';subst h';rw[Jv hro hr];exact Ig
  ·rename_i k' xs hro;obtain⟨rfl,rfl⟩:=jR h';exact u0 (Ju hm hM hh hro hr)
  ·cases h'
 cases s with
 |str q=>
  simp only[pe]at h;obtain⟨e,rfl⟩:=jR h;subst e;obtain⟨sb,rfl,rfl⟩:=hr;exact Hy sb
 |_=>exact other (λq h=>by cases h)
theorem xV (newLen:Nat):∀(r c:Nat),c<=newLen+(newLen+768)/4->Builtin.growBy newLen r c<=newLen+(newLen+768)/4
 |0,c,h=>h
 |r+1,c,h=>by
  simp only[Builtin.growBy];split
  ·exact h
  ·exact xV newLen r _ (by omega)
theorem Dr (need old:Nat)(h:old<need):Builtin.nextslicecap need old<=need+need/4+704:=by
 unfold Builtin.nextslicecap;split
 ·omega
 ·split
  ·omega
  ·have:=xV need 4 old (by omega);omega
theorem vB {need old bytes:Nat}(h:old<need)(hl:need*bytes<=lim)(hb:bytes<=1000000):¬ Builtin.nextslicecap need old*bytes>2^48:=by
 have h1:=Dr need old h;have h2:Builtin.nextslicecap need old*bytes<=(need+need/4+704)*bytes:=Of _ h1;have h3:(need+need/4+704)*bytes=need*bytes+need/4*bytes+704*bytes:=by rw[Og,Og]
 have h4:4*(need/4*bytes)<=need*bytes:=by
  rw[<- QC];exact Of _ (by omega)
 simp only[lim]at hl;omega
theorem Cl.append {c:Cx}{k:K}{xs ys:List k.T}{c1 c2:List Value}(h1:Cl c k xs c1)(h2:Cl c k ys c2):Cl c k (xs++ys) (c1++c2):=by
 obtain⟨a1,a2,a3⟩:=h1;obtain⟨b1,b2,b3⟩:=h2;refine⟨by simp[a1,b1,Og],λv hv=>?_,λi x hx=>?_⟩
 ·rcases NU.1 hv with hv|hv
  ·exact a2 v hv
  ·exact b2 v hv
 ·by_cases hi:i<xs.length
  ·rw[NZ hi]at hx;obtain⟨vs,t1,t2⟩:=a3 i x hx;refine⟨vs,t1,λj v hv=>?_⟩;have:=t2 j v hv;obtain⟨q,_⟩:=NJ.1 this;rw[NZ q];exact this
  ·rw[N6 (by omega)]at hx;obtain⟨vs,t1,t2⟩:=b3 _ x hx;refine⟨vs,t1,λj v hv=>?_⟩;have:=t2 j v hv;have e:i*k.size=(i-xs.length)*k.size+xs.length*k.size:=by rw[<- Og];congr 1;omega
   rw[N6 (by rw[a1];omega),a1,e];rw[show(i-xs.length)*k.size+xs.length*k.size+j-xs.length*k.size=(i-xs.length)*k.size+j by omega];exact this
end
end Go.Eng
namespace Go.Eng
open Go.RowKit
section
variable {P:Program} {w0:World} {M:MS} {c:Cx}
theorem dz {w w':World}{ats:Array TypeId}{ty t t2 e:TypeId}{args:Array Value}{base:Option Addr}{n cap sz m:Nat}{x:Value}{cl:List Value}(h0:ats[0]?=some t)(h1:ats[1]?=some t2)(hu:P.underlying t=some (.slice e))(hu2:(∃q,P.underlying t2=some (.slice q))\/P.underlying t2=some .string)
  (a0:args[0]?=some (.slice base n cap)) (a1:args[1]?=some x) (hs:dw P e=some sz) (hl:(Builtin.lenOf x).run P w=.ok m w) (hle:n+m<=cap) (hc:(Builtin.firstCells sz m x).run P w=.ok cl.toArray w)
  (hst:(base=none/\w'=w)\/∃a,base=some a/\(storeCells (a.add (n*sz)) cl).run P w=.ok () w'):
  (Builtin.append_ ats ty args).run P w=.ok (.slice base (n+m) cap) w':=by
 unfold Builtin.append_;simp only[h0,a0,a1];rw[run_ok (run_underlying hu w)];simp only[];rw[run_ok (bh hs w)];simp only[h1];have key:∀td,P.underlying t2=some td->(∃q,td=.slice q)\/td=.string->True:=λ_ _ _=>trivial
 rcases hu2 with⟨q,hq⟩|hq
 all_goals
  rw[run_ok (run_underlying hq w),run_pb];simp only[Od,OE];rw[run_ok hl,NI hle];simp only[Pd,O8];rw[run_ok hc];rcases hst with⟨rfl,rfl⟩|⟨a,rfl,hst⟩
  ·rfl
  ·simp only[];rw[run_ok hst];rfl
theorem gj {w:World}{ats:Array TypeId}{ty t t2 e:TypeId}{args:Array Value}{base:Option Addr}{n cap m:Nat}{k:K}{x:Value}{oc cl:List Value}(h0:ats[0]?=some t)(h1:ats[1]?=some t2)(hu:P.underlying t=some (.slice e))(hu2:(∃q,P.underlying t2=some (.slice q))\/P.underlying t2=some .string)
  (a0:args[0]?=some (.slice base n cap)) (a1:args[1]?=some x) (hk:fF P e k=true) (hl:(Builtin.lenOf x).run P w=.ok m w) (hle:¬ n+m<=cap) (hlim:(n+m)*iG P e<=lim)
  (hoc:(Builtin.firstCells k.size n (.slice base n cap)).run P (fW w)=.ok oc.toArray (fW w)) (hol:oc.length=n*k.size)
  (hc:(Builtin.firstCells k.size m x).run P (fW w)=.ok cl.toArray (fW w)) (hcl:cl.length=m*k.size):
  ∃cap' arr,n+m<=cap'/\arr.size=cap'*k.size/\(∃rest,arr.toList=oc++cl++rest) /\
   (Builtin.append_ ats ty args).run P w=.ok (.slice (some ⟨w.heap.size,0,none⟩) (n+m) cap') (bY (fW w) (.cells arr e (0,0))):=by
 obtain⟨i,z,hi,hs,hz,hzl,hbt,hb1,hb2⟩:=gV hk;obtain⟨cap',hcap,hch⟩:=tR (P:=P) (w:=w) (need:=n+m) (old:=cap) (e:=e);obtain⟨zv,z1,z2,z3⟩:=cY hz (fW w);have hzs:zv.cells.size=k.size:=by rw[<- hzl,<- z2];simp
 let arr:Array Value:=oc.toArray++cl.toArray++Builtin.zeroCells zv.cells (cap'-(n+m))
 have harr:arr.size=cap'*k.size:=by
  simp only[arr,Rj,QG,Builtin.zeroCells,Array.size_map,Array.size_range,hzs,hol,hcl];rw[<- Og,<- Og];congr 1;omega
 refine⟨cap',arr,hcap,harr,⟨(Builtin.zeroCells zv.cells (cap'-(n+m))).toList,by simp[arr]⟩,?_⟩;have hbl:¬ Builtin.nextslicecap (n+m) cap*i.bytes>2^48:=vB (by omega) (by rw[<- hbt];exact hlim) hb1;have hmx:¬ (((n+m:Nat):Int)>IntKind.i64.max/\(False\/i.bytes=0)):=by rintro⟨_,q|q⟩<;>omega
 unfold Builtin.append_;simp only[h0,a0,a1];rw[run_ok (run_underlying hu w)];simp only[];rw[run_ok (bh hs w)];simp only[h1];rcases hu2 with⟨q,hq⟩|hq
 all_goals
  rw[run_ok (run_underlying hq w),run_pb];simp only[Od,OE];rw[run_ok hl,ND hle];rw[run_ok (bK hi w)];rw[ND hmx];rw[run_ok (bK hi w)];rw[ND hbl];rw[run_ok hch,run_ok (bK hi (fW w)),run_ok (qx _),run_ok hoc];simp only[Pd,O8];rw[run_ok hc,run_ok z1,run_ok (fY e arr)];rfl
theorem append_nil {A:Ann}(hm:Mem w0 M c)(hM:ManR A c){hp:Nat->Option Obj}(hh:∀id o,hp id=some o->c.hp id=some o){d:Nat}(hd:c.hp d=none){ats:Array TypeId}{ty t t2 e:TypeId}{args:Array Value}{k:K}{s:S}{x:Value}{ys:List k.T}
  (h0:ats[0]?=some t) (h1:ats[1]?=some t2) (hu:P.underlying t=some (.slice e)) (hu2:(∃q,P.underlying t2=some (.slice q))\/P.underlying t2=some .string)
  (a0:args[0]?=some (.slice none 0 0)) (a1:args[1]?=some x) (hk:fF P e k=true) (hr:RepS c s x) (hy:pe hp k s=some ys) (hlim:ys.length*iG P e<=lim):
  aU w0 M c ((do pure (Next.value (<- Builtin.append_ ats ty args)):Sem Next).run P c.w) (.val false [.vw d 0]) [(d,.row k ys 0 [] false)]:=by
 obtain⟨hl,cl,hcl,hf⟩:=l9 (P:=P) hm hM hh hr hy;obtain⟨i,z,hi,hs,_⟩:=gV hk;by_cases h:ys.length=0
 ·have:ys=[]:=OR.1 h;subst this;refine Fh hm hd k (aM ?_);have:=dz (P:=P) (w':=c.w) (ty:=ty) h0 h1 hu hu2 a0 a1 hs hl (by simp) (hf c.w (Grew.refl _)) (.inl ⟨rfl,rfl⟩);simpa using this
 ·obtain⟨cap',arr,q1,q2,⟨rest,q3⟩,q4⟩:=gj (P:=P) (ty:=ty) (k:=k) (oc:=[]) h0 h1 hu hu2 a0 a1 hk hl (by omega) (by rw[Ox];exact hlim) rfl (by simp) (hf _ (eo _)) (by rw[hcl.1]);simp only[Ox]at q1 q4;refine vC hm hd hcl ((eo c.w).trans (cI _ _)) (b:=(fW c.w).heap.size) (NG _) (cB _ arr e) (λj v hv=>?_) q1 (by rw[q2];exact NG _) (aM q4);rw[<- NR,q3];obtain⟨hj,_⟩:=NJ.1 hv;rw[OJ,NZ hj];exact hv
theorem Ea {A:Ann}(hm:Mem w0 M c)(hM:ManR A c){hp:Nat->Option Obj}(hh:∀id o,hp id=some o->c.hp id=some o){id:Nat}{ats:Array TypeId}{ty t t2 e:TypeId}{args:Array Value}{k:K}{s:S}{v0 x:Value}{xs ys:List k.T}{gen:Nat}{hist:List (List k.T)}
  (h0:ats[0]?=some t) (h1:ats[1]?=some t2) (hu:P.underlying t=some (.slice e)) (hu2:(∃q,P.underlying t2=some (.slice q))\/P.underlying t2=some .string)
  (a0:args[0]?=some v0) (a1:args[1]?=some x) (hk:fF P e k=true) (ho:c.hp id=some (.row k xs gen hist false)) (hv:RepS c (.vw id gen) v0) (hr:RepS c s x) (hy:pe hp k s=some ys) (hlim:(xs.length+ys.length)*iG P e<=lim):
  aU w0 M c ((do pure (Next.value (<- Builtin.append_ ats ty args)):Sem Next).run P c.w) (.val false [.vw id (gen+1)]) [(id,.row k (xs++ys) (gen+1) (xs::hist) false)]:=by
 obtain⟨hl,cl,hcl,hf⟩:=l9 (P:=P) hm hM hh hr hy;obtain⟨i,z,hi,hs,_⟩:=gV hk;obtain⟨_,o,e1,hvv⟩:=hv;rw[ho]at e1;cases e1;obtain⟨_,hnow,_⟩:=hvv _ _ _ _ _ rfl;have hnow:=hnow rfl;have hvis0:=uZ hm ho hnow;rw[Pm,Qd]at hvis0;obtain⟨_,oc,hoc,hof⟩:=u0 (P:=P) hvis0.r;have hro:=hm.obj id _ ho;have hlive:∀b,c.β id=some b->Live c id b:=λb hb=>⟨hb,_,ho,rfl⟩
 -- what other values say behind it
 have idsOk:∀(w':World) (S':Nat->Prop) (β':Option Nat),(∀b,c.S b->w'.heap[b]?=c.w.heap[b]?)->(∀b,c.S b->S' b) ->
   (∀v,cz c id k 0 xs.length xs.length v->oW (c.turn id w' S' β' (.row k (xs++ys) (gen+1) (xs::hist) false)) id (xs++ys).length k xs v) ->
   (∀zs v,oW c id xs.length k zs v->oW (c.turn id w' S' β' (.row k (xs++ys) (gen+1) (xs::hist) false)) id (xs++ys).length k zs v) ->
   ∀s v,s.ids=[id]->RepS c s v->RepS (c.turn id w' S' β' (.row k (xs++ys) (gen+1) (xs::hist) false)) s v:=by
  intro w' S' β' hst hsub hA hB s v hsi hrs;have hhp:(c.turn id w' S' β' (.row k (xs++ys) (gen+1) (xs::hist) false)).hp id=some (.row k (xs++ys) (gen+1) (xs::hist) false):=by simp[Cx.turn,upd]
  cases s<;>simp only[S.ids,NY,OV,reduceCtorEq]at hsi
  case vw j g=>
   subst hsi;obtain⟨t0,o,t1,t2⟩:=hrs;rw[ho]at t1;cases t1;obtain⟨p1,p2,p3⟩:=t2 _ _ _ _ _ rfl;refine⟨t0,_,hhp,λk' xs' gen' hist' frz' e'=>?_⟩;cases e';refine⟨by omega,λhg=>by omega,λ_ zs hz=>?_⟩;by_cases hg:g=gen
   ·subst hg;rw[show g+1-1-g=0 by omega]at hz;simp at hz;subst hz;exact hA v (p2 rfl)
   ·obtain⟨m,hm'⟩:∃m,gen+1-1-g=m+1:=⟨gen-1-g,by omega⟩
    rw[hm']at hz;simp only[PM]at hz;exact hB zs v (p3 hg zs (by rw[show gen-1-g=m by omega];exact hz))
  case pv j g off len=>
   subst hsi;obtain⟨t0,o,t1,t2⟩:=hrs;rw[ho]at t1;cases t1;refine⟨t0,_,hhp,λk' xs' gen' hist' frz' e'=>?_⟩;cases e';have:=(t2 _ _ _ _ _ rfl).1;exact⟨by omega,λhg=>by omega⟩
  case mp j=>exact cv (c:=c) rfl hhp (.inl rfl) (by simp[S.ids,hsi]) rfl hrs
  case rp t i off=>exact cv (c:=c) rfl hhp (.inl rfl) (by simp[S.ids,hsi]) rfl hrs
  case ov j g i=>exact cv (c:=c) rfl hhp (.inl rfl) (by simp[S.ids,hsi]) rfl hrs
  case oe j g i q p=>exact cv (c:=c) rfl hhp (.inl rfl) (by simp[S.ids,hsi]) rfl hrs
  case bm f j=>exact cv (c:=c) rfl hhp (.inl rfl) (by simp[S.ids,hsi]) rfl hrs
  case ptr j g q p=>
   subst hsi;obtain⟨t0,o,t1,tp,t2,t3⟩:=hrs;rw[ho]at t1;cases t1;refine⟨t0,_,hhp,tp,λcs e'=>by(cases e'),λk' xs' gen' hist' frz' e'=>?_⟩;cases e';have:=(t3 _ _ _ _ _ rfl).1;exact⟨by omega,λhg=>by omega⟩
 -- the slice value itself
 have hv0:∃base cap,v0=.slice base xs.length cap/\xs.length<=cap:=by
  obtain⟨a,cap,q1,q2,_⟩:=hvis0;exact⟨a,cap,q1,q2⟩
 obtain⟨base,cap,rfl,hcap⟩:=hv0;by_cases hle:xs.length+ys.length<=cap
 ·-- it fits
  simp only[cz]at hnow;cases hbb:c.β id with
  |none=>
   rw[hbb]at hnow;simp only[RepO,hbb]at hro;subst hro;obtain⟨q1,_⟩:=hnow;cases q1;have hy0:ys=[]:=OR.1 (by simpa using hle);subst hy0;have hrun:=dz (P:=P) (w':=c.w) (ty:=ty) h0 h1 hu hu2 a0 a1 hs hl hle (hf c.w (Grew.refl _)) (.inl ⟨rfl,rfl⟩);have ht:Turn w0 M c id c.w c.S none (.row k ([]++[]) (gen+1) ([]::hist) false):=by
    refine⟨rfl,rfl,rfl,NG _,λ_ _ _=>rfl,λ_ h=>h,λb hb=>⟨hm.below b hb,.inl hb⟩,⟨_,ho⟩,by simp[RepO,Cx.turn],λb hb=>by(cases hb),?_⟩;refine idsOk c.w c.S none (λ_ _=>rfl) (λ_ h=>h) (λv hvn=>?_) (λzs v hvo=>?_)
    ·simp only[cz,hbb]at hvn;exact⟨none,0,by simpa using hvn.1,by simp,λh=>(h rfl).elim⟩
    ·obtain⟨a,cap,q1,q2,q3⟩:=hvo;refine⟨a,cap,q1,q2,λhne=>?_⟩;obtain⟨ad,r1,r2,r3,r4⟩:=q3 hne;refine⟨ad,r1,r2,?_,r4⟩;rcases r3 with r3|r3
     ·exact .inl r3
     ·rw[hbb]at r3;cases r3.1
   refine⟨_,c.turn id c.w c.S none (.row k ([]++[]) (gen+1) ([]::hist) false),aM hrun,ht.mem hm,ht.ext hm,by rw[bO,cC];rfl,.inl ⟨_,rfl,aB ?_⟩⟩;refine⟨rfl,_,by simp[Cx.turn,upd];rfl,λk' xs' gen' hist' frz' e'=>?_⟩;cases e';exact⟨NG _,λ_=>by simp[cz,Cx.turn],λh=>(h rfl).elim⟩
  |some b=>
   rw[hbb]at hnow;obtain⟨cap',arr,a,q1,q2,q3,q4,q5⟩:=hnow;cases q1;simp only[RepO,hbb]at hro;obtain⟨⟨arr1,p1,p2,p3⟩,p4,p5⟩:=hro;have earr:=q3.uniq p1;subst earr;obtain⟨arr2,p6⟩:=p4 trivial;have earr:=q3.uniq p6.blk;subst earr;obtain⟨T,fz,hb1,hb2⟩:=p6
   -- the store
   have hstore:∃w',(storeCells (a.add (xs.length*k.size)) cl).run P c.w=.ok () w'/\w'.os=c.w.os/\w'.tape=c.w.tape/\w'.output=c.w.output/\w'.heap.size=c.w.heap.size/\w'.heap[b]?=some (.cells (bC arr (xs.length*k.size) cl) T fz)/\(∀j,j≠b->w'.heap[j]?=c.w.heap[j]?)/\xs.length*k.size+cl.length<=arr.size:=by
    by_cases hy0:cl=[]
    ·subst hy0;exact⟨c.w,rfl,rfl,rfl,rfl,rfl,by simpa[bC]using hb1,λ_ _=>rfl,by simpa using p2⟩
    ·have hc0:0<cap:=by
      have:ys.length≠0:=by
       intro h;have:=hcl.1;rw[h]at this;simp at this;exact hy0 this
      omega
     obtain⟨rfl,hsz⟩:=q5 hc0;have hroom:xs.length*k.size+cl.length<=arr.size:=by
      rw[hcl.1,<- Og];refine Oa (Of _ hle) (by simpa using hsz)
     obtain⟨w',s1,s2⟩:=dy (P:=P) (b:=b) (o:=0+xs.length*k.size) cl 0 c.w arr hcl.2.1 hb1 (by omega) (λj j1 j2=>hb2.1 j (by omega));refine⟨w',by rw[show(⟨b,0*k.size,none⟩:Addr).add (xs.length*k.size)=⟨b,0+xs.length*k.size,none⟩ by rw[lX];simp];exact s1,s2.os,s2.tape,s2.output,s2.size,by simpa using s2.here,s2.other,hroom⟩
   obtain⟨w',s1,s2,s3,s4,s5,s6,s7,s8⟩:=hstore;have hrun:=dz (P:=P) (w':=w') (ty:=ty) h0 h1 hu hu2 a0 a1 hs hl hle (hf c.w (Grew.refl _)) (.inr ⟨a,rfl,s1⟩);have hsz2:(bC arr (xs.length*k.size) cl).size=arr.size:=b9 _ _ _;have hget:=λj=>cF cl arr (xs.length*k.size) j s8
   have hstab:∀b',c.S b'->w'.heap[b']?=c.w.heap[b']?:=λb' hb'=>s7 b' (by rintro rfl;exact(hm.live id b' (hlive b' hbb)).2.1 hb')
   have hel:∀(i:Nat) (x:k.T),(xs++ys)[i]?=some x->∃vs,RepT c.te w' c.S k x vs/\∀(j:Nat) v,vs[j]?=some v->(bC arr (xs.length*k.size) cl)[i*k.size+j]?=some v:=by
    intro i x hx;by_cases hi:i<xs.length
    ·rw[NZ hi]at hx;obtain⟨vs,t1,t2⟩:=p3 i x hx;refine⟨vs,RepT.mono hstab (λ_ h=>h) t1,λj v hv=>?_⟩;have hj:j<k.size:=by rw[<- RepT.len t1];obtain⟨q,_⟩:=NJ.1 hv;exact q
     rw[hget,ND]
     ·exact t2 j v hv
     ·have:(i+1)*k.size<=xs.length*k.size:=Of _ hi;rw[Og]at this;omega
    ·rw[N6 (by omega)]at hx;obtain⟨vs,t1,t2⟩:=hcl.2.2 _ x hx;refine⟨vs,RepT.mono hstab (λ_ h=>h) t1,λj v hv=>?_⟩;have h3:=t2 j v hv;obtain⟨hq,_⟩:=NJ.1 h3;have e:i*k.size=(i-xs.length)*k.size+xs.length*k.size:=by rw[<- Og];congr 1;omega
     rw[hget,NI (by omega),show i*k.size+j-xs.length*k.size=(i-xs.length)*k.size+j by omega];exact h3
   have ht:Turn w0 M c id w' c.S (some b) (.row k (xs++ys) (gen+1) (xs::hist) false):=by
    refine⟨s2,s3,s4,by omega,λj hj hnl=>s7 j (by rintro rfl;exact hnl (hlive j hbb)),λ_ h=>h,λb' hb'=>⟨by rw[s5];exact hm.below b' hb',.inl hb'⟩,⟨_,ho⟩,?_,λb' hb' _=>?_,?_⟩
    ·have hβ:(c.turn id w' c.S (some b) (.row k (xs++ys) (gen+1) (xs::hist) false)).β id=some b:=by simp[Cx.turn]
     unfold RepO;simp only[hβ];refine⟨⟨_,⟨T,fz,s6⟩,?_,hel⟩,λ_=>⟨_,T,fz,s6,by rw[hsz2];exact hb2⟩,λh=>by(cases h)⟩;rw[hsz2,Ny,Og,<- hcl.1];exact s8
    ·cases hb';exact⟨by rw[s5];exact(hm.live id b (hlive b hbb)).1,(hm.live id b (hlive b hbb)).2.1,.inl (hlive b hbb)⟩
    ·refine idsOk w' c.S (some b) hstab (λ_ h=>h) (λv hvn=>?_) (λzs v hvo=>?_)
     ·simp only[cz,hbb]at hvn;obtain⟨cp,ar,ad,y1,y2,y3,y4,y5⟩:=hvn;refine⟨some ad,cp,y1,y2,λhne=>?_⟩;have hpos:0<xs.length:=Py.2 hne;obtain⟨rfl,_⟩:=y5 (by omega);refine⟨_,rfl,rfl,.inr ⟨by simp[Cx.turn],by simp[Og]⟩,λi x hx=>?_⟩;obtain⟨hi,_⟩:=NJ.1 hx;obtain⟨vs,t1,t2⟩:=hel i x (by rw[NZ hi];exact hx);refine⟨vs,t1,?_⟩;exact dC ⟨T,fz,s6⟩ (λj v hv=>by simpa using t2 j v hv)
     ·obtain⟨ad0,cp,y1,y2,y3⟩:=hvo;refine⟨ad0,cp,y1,y2,λhne=>?_⟩;obtain⟨ad,r1,r2,r3,r4⟩:=y3 hne;refine⟨ad,r1,r2,?_,λi x hx=>?_⟩
      ·rcases r3 with r3|r3
       ·exact .inl r3
       ·exact .inr ⟨by have:=r3.1;rw[hbb]at this;simpa[Cx.turn]using this,Oa r3.2 (Of _ (by simp))⟩
      ·obtain⟨vs,t1,t2⟩:=r4 i x hx;refine⟨vs,RepT.mono hstab (λ_ h=>h) t1,?_⟩;rcases r3 with r3|⟨r3,r5⟩
       ·exact t2.of (hstab _ r3)
       ·rw[hbb]at r3;cases r3;refine dC ⟨T,fz,s6⟩ (λj v hv=>?_);have h3:=Hg p1 t2 j v hv;obtain⟨hi,_⟩:=NJ.1 hx;have hj:j<k.size:=by rw[<- RepT.len t1];obtain⟨q,_⟩:=NJ.1 hv;exact q
        rw[hget,ND]
        ·exact h3
        ·have:(i+1)*k.size<=zs.length*k.size:=Of _ hi;rw[Og]at this;omega
   refine⟨_,c.turn id w' c.S (some b) (.row k (xs++ys) (gen+1) (xs::hist) false),aM hrun,ht.mem hm,ht.ext hm,by rw[bO,cC];rfl,.inl ⟨_,rfl,aB ?_⟩⟩;refine⟨rfl,_,by simp[Cx.turn,upd];rfl,λk' xs' gen' hist' frz' e'=>?_⟩;cases e';refine⟨NG _,λ_=>?_,λh=>(h rfl).elim⟩;have hβ:(c.turn id w' c.S (some b) (.row k (xs++ys) (gen+1) (xs::hist) false)).β id=some b:=by simp[Cx.turn]
   simp only[cz,hβ];exact⟨cap,_,a,by simp,by simpa using hle,⟨T,fz,s6⟩,by simp,λhc0=>⟨(q5 hc0).1,by rw[hsz2];exact(q5 hc0).2⟩⟩
 ·-- it does not
  obtain⟨cap',arr,q1,q2,⟨rest,q3⟩,q4⟩:=gj (P:=P) (ty:=ty) (k:=k) h0 h1 hu hu2 a0 a1 hk hl hle hlim (hof _ (eo _)) hoc.1 (hf _ (eo _)) hcl.1
  let w':=bY (fW c.w) (.cells arr e (0,0))
  have hg:Grew c.w w':=(eo c.w).trans (cI _ _);have hbf:bD w' c.w.heap.size arr:=cB (fW c.w) arr e;have hsize:w'.heap.size=c.w.heap.size+1:=by simp[w',bY,fW]
  have hall:=hoc.append hcl;have hel:∀(i:Nat) (x:k.T),(xs++ys)[i]?=some x->∃vs,RepT c.te c.w c.S k x vs/\∀(j:Nat) v,vs[j]?=some v->arr[i*k.size+j]?=some v:=by
   intro i x hx;obtain⟨vs,t1,t2⟩:=hall.2.2 i x hx;refine⟨vs,t1,λj v hv=>?_⟩;have:=t2 j v hv;obtain⟨hq,_⟩:=NJ.1 this;rw[<- NR,q3,NZ hq];exact this
  have hstab:∀b',c.S b'->w'.heap[b']?=c.w.heap[b']?:=λb' hb'=>hg.2.2.2.2 b' (hm.below b' hb')
  have ht:Turn w0 M c id w' (λb=>c.S b\/Live c id b) (some c.w.heap.size) (.row k (xs++ys) (gen+1) (xs::hist) false):=by
   refine⟨hg.1,hg.2.1,hg.2.2.1,by omega,λj hj _=>hg.2.2.2.2 j hj,λ_ h=>.inl h,λb' hb'=>?_,⟨_,ho⟩,?_,λb' hb' _=>?_,?_⟩
   ·rcases hb' with hb'|hb'
    ·exact⟨N1 (hm.below b' hb') (by omega),.inl hb'⟩
    ·exact⟨N1 (hm.live id b' hb').1 (by omega),.inr hb'⟩
   ·have hβ:(c.turn id w' (λb=>c.S b\/Live c id b) (some c.w.heap.size) (.row k (xs++ys) (gen+1) (xs::hist) false)).β id=some c.w.heap.size:=by simp[Cx.turn]
    unfold RepO;simp only[hβ];refine⟨⟨arr,hbf.blk,?_,λi x hx=>?_⟩,λ_=>⟨arr,hbf⟩,λh=>by(cases h)⟩
    ·rw[q2,Ny];exact Of _ q1
    ·obtain⟨vs,t1,t2⟩:=hel i x hx;exact⟨vs,RepT.mono hstab (λ_ h=>.inl h) t1,t2⟩
   ·cases hb';refine⟨by omega,?_,.inr (NG _)⟩;rintro(hb|hb)
    ·exact PD _ (hm.below _ hb)
    ·exact PD _ (hm.live id _ hb).1
   ·have at_grew:∀{b o vs},At c.w b o vs->At w' b o vs:=λh=>h.grew hg
    refine idsOk w' _ _ hstab (λ_ h=>.inl h) (λv hvn=>?_) (λzs v hvo=>?_)
    ·obtain⟨a,cp,y1,y2,y3⟩:=uZ hm ho hvn;simp only[Pm,Qd]at y1 y2 y3;refine⟨a,cp,y1,y2,λhne=>?_⟩;obtain⟨ad,r1,r2,r3,r4⟩:=y3 hne;refine⟨ad,r1,r2,.inl ?_,λi x hx=>?_⟩
     ·rcases r3 with r3|⟨j,hj,r3⟩
      ·exact .inl r3
      ·simp at hj;subst hj;exact .inr (hlive _ r3)
     ·obtain⟨vs,t1,t2⟩:=r4 i x hx;exact⟨vs,RepT.mono hstab (λ_ h=>.inl h) t1,at_grew t2⟩
    ·obtain⟨a,cp,y1,y2,y3⟩:=hvo;refine⟨a,cp,y1,y2,λhne=>?_⟩;obtain⟨ad,r1,r2,r3,r4⟩:=y3 hne;refine⟨ad,r1,r2,.inl ?_,λi x hx=>?_⟩
     ·rcases r3 with r3|r3
      ·exact .inl r3
      ·exact .inr (hlive _ r3.1)
     ·obtain⟨vs,t1,t2⟩:=r4 i x hx;exact⟨vs,RepT.mono hstab (λ_ h=>.inl h) t1,at_grew t2⟩
  refine⟨_,c.turn id w' (λb=>c.S b\/Live c id b) (some c.w.heap.size) (.row k (xs++ys) (gen+1) (xs::hist) false),aM q4,ht.mem hm,ht.ext hm,by rw[bO,cC];rfl,.inl ⟨_,rfl,aB ?_⟩⟩;refine⟨rfl,_,by simp[Cx.turn,upd];rfl,λk' xs' gen' hist' frz' e'=>?_⟩;cases e';refine⟨NG _,λ_=>?_,λh=>(h rfl).elim⟩;have hβ:(c.turn id w' (λb=>c.S b\/Live c id b) (some c.w.heap.size) (.row k (xs++ys) (gen+1) (xs::hist) false)).β id=some c.w.heap.size:=by simp[Cx.turn]
  simp only[cz,hβ];exact⟨cap',arr,⟨c.w.heap.size,0,none⟩,by rw[Ny],by simpa using q1,hbf.blk,by simp,λ_=>⟨by simp,by rw[q2];simp⟩⟩
end
end Go.Eng
namespace Go.Eng
open Go.RowKit
theorem Jh {α:Type}(X new:List α)(o j:Nat)(h:o+new.length<=X.length):(X.take o++new++X.drop (o+new.length))[j]?=if o<=j/\j<o+new.length then new[j-o]? else X[j]?:=by
 have ht:(X.take o).length=o:=by simp;omega
 rw[N7];by_cases h1:j<o
 ·rw[ND (by omega),NZ (by omega),Ol,NI h1]
 ·rw[N6 (by omega),ht];by_cases h2:j<o+new.length
  ·rw[NI ⟨by omega,h2⟩,NZ (by omega)]
  ·rw[ND (by omega),N6 (by omega),OQ];congr 1;omega
theorem qZ {id:Nat}:∀{l:List S},id∈ba l ↔ ∃s∈l,id∈s.ids
 |[]=>by simp[ba]
 |s::r=>by simp[ba,qZ (l:=r)]
theorem fk:∀(k:K)(x:k.T)(s:S),s∈bg k x->s.ids=[]
 |.int _,_,s,h=>by simp[bg]at h;subst h;rfl
 |.bool,_,s,h=>by simp[bg]at h;subst h;rfl
 |.str,_,s,h=>by simp[bg]at h;subst h;rfl
 |.err,_,s,h=>by simp[bg]at h;subst h;rfl
 |.fn,_,s,h=>by simp[bg]at h;subst h;rfl
 |.ref _,_,s,h=>by simp[bg]at h;subst h;rfl
 |.slice _,_,s,h=>by simp[bg]at h;subst h;rfl
 |.prod a b,x,s,h=>by
  simp only[bg,NU]at h;rcases h with h|h
  ·exact fk a x.1 s h
  ·exact fk b x.2 s h
 |.strct a,x,s,h=>fk a x s h
theorem wE {w0:World}{M:MS}{c:Cx}(hm:Mem w0 M c){id:Nat}{w':World}{S':Nat->Prop}{β':Option Nat}{o':Obj}(hblk:∀b,b<c.w.heap.size->¬ Live c id b->w'.heap[b]?=c.w.heap[b]?)(hsub:∀b,c.S b->S' b)
  (hids:∀s v,s.ids=[id]->RepS c s v->RepS (c.turn id w' S' β' o') s v):Ext c (c.turn id w' S' β' o'):=by
 have hstab:∀b,c.S b->w'.heap[b]?=c.w.heap[b]?:=λb hb=>hblk b (hm.below b hb) λhl=>(hm.live id b hl).2.1 hb
 refine⟨rfl,hstab,hsub,λj s v hs hr=>?_⟩;by_cases hj:j=id
 ·subst hj;exact hids s v hs hr
 ·refine RepS.same (id:=j) (c:=c) rfl hstab hsub (by simp[Cx.turn,hj]) (λb o hb ho hrow=>?_) (λo ho=>by simp[Cx.turn,upd,hj,ho]) hs hr;obtain⟨x,hx⟩:=gY (hm.obj j o ho) (.inr hrow) hb;refine hblk b (bE hx) λhid=>?_
  by_cases hv:o.live=true
  ·exact hj (hm.one j id b ⟨hb,o,ho,hv⟩ hid)
  ·cases o with
   |box cs=>cases hrow
   |mp k es=>cases hrow
   |fm es=>cases hrow
   |col=>cases hrow
   |row k xs gen hist frz=>
    have hf:frz=true:=by simpa[Obj.live]using hv
    have:=hm.obj j _ ho;simp only[RepO,hb]at this;exact(hm.live id b hid).2.1 (this.2.2 hf)
theorem rY {hp:Nat->Option Obj}:∀{ids:List Nat} {u:Upd},frzU hp ids=some u->∀{id:Nat},id ∉ ids->hget u id=none
 |[],u,h,id,_=>by simp[frzU]at h;subst h;rfl
 |i::r,u,h,id,hid=>by
  simp only[frzU]at h;split at h
  ·simp only[Nz]at h;subst h;simp only[NO,not_or]at hid;simp only[hget];cases hb:Nat.beq i id with
   |true=>exact(hid.1 (NB hb).symm).elim
   |false=>exact rY (by assumption) hid.2
  ·cases h
theorem qv {P:Program}{c:Cx}{t:TypeId}{b o:Nat}{T:TypeId}{fz:Nat×Nat}{arr:Array Value}{new:List S}{v:Value}{g:Bool}(hs:dw P t=some new.length)(hv:RepV c (.val g new) v)(hb:c.w.heap[b]?=some (.cells arr T fz))(hfz:FzOk arr.size fz)(hsz:o+new.length<=arr.size):
  ∃w' vn,LR (RepS c) new vn/\C3 c.w w' b (bC arr o vn) T fz/\(Instr.storeAt t (.pointer (some ⟨b,o,none⟩)) v).run P c.w=.ok () w':=by
 have hl:=bZ hv;have hlen:=hl.length;obtain⟨w',s1,s2⟩:=dy (P:=P) (b:=b) (o:=o) v.cells.toList 0 c.w arr (LR.ones hl) hb (by omega) (λj j1 j2=>hfz.1 j (by omega));refine⟨w',_,hl,by simpa using s2,?_⟩;unfold Instr.storeAt;rw[run_ok (show(Instr.sureAddr (.pointer (some ⟨b,o,none⟩))).run P c.w=.ok ⟨b,o,none⟩ c.w from rfl)];unfold storeVar;rw[run_ok (bh hs c.w),ND (by simp at hlen;omega)];exact s1
section
variable {P:Program} {A:Ann} {fid:Nat} {w0:World} {M:MS} {c:Cx} {ρ:Operand->AV} {r:Operand->Value} {hp:Nat->Option Obj} {o:Oper} {v:AV} {u:Upd}
theorem AY {t i off n:Nat}{new:List S}{cb:Bool}(h:nF P hp t i off n new=.ok cb v u):False:=by
 unfold nF at h;split at h
 ·revert h;generalize (Nat.beq _ _&&Nat.beq _ _)=q;cases q with
  |false=>simp
  |true=>
   intro h;simp only[NH]at h;split at h
   ·split at h
    ·revert h;generalize Nat.beq _ _=q;cases q<;>simp
    ·cases h
   ·split at h
    ·revert h;generalize (Nat.beq _ _&&Nat.beq _ _&&Nat.beq _ _)=q;cases q<;>simp
    ·cases h
   ·split at h
    ·revert h;generalize Nat.beq _ _=q;cases q<;>simp
    ·cases h
   ·split at h
    ·revert h;generalize (Nat.beq _ _&&Nat.beq _ _)=q;cases q with
     |false=>simp
     |true=>
      intro h;simp only[NH]at h;split at h<;>cases h
    ·cases h
   ·cases h
 ·cases h
theorem DW (hm:Mem w0 M c)(hh:∀id o,hp id=some o->c.hp id=some o)(hr:∀x,RepV c (ρ x) (r x)){t:TypeId}{a x:Operand}(ho:o.op=.store t a x)(h:core P A fid ρ hp o=.ok true v u):
  aU w0 M c ((execOp r o).run P c.w) v u:=by
 simp only[core,ho]at h;simp only[execOp,ho];have hx:=hr x;split at h
 ·rename_i id g i p gg new n hsl ex hs;rw[ex]at hx;have hra:=aF hr hsl;cases hb:Nat.beq new.length n with
  |false=>rw[hb]at h;cases h
  |true=>
   rw[hb]at h;simp only[NH]at h;have hn:=NB hb;subst hn;split at h
   ·-- a box
    rename_i cs hid;cases hb2:(Nat.beq g 0&&Nat.beq i 0 && !cs.isEmpty)with
    |false=>rw[hb2]at h;cases h
    |true=>
     rw[hb2]at h;simp only[NH]at h;split at h
     ·rename_i cs' hset;simp only[Out.ok.injEq,Oh]at h;obtain⟨rfl,rfl⟩:=h;have e1:=hh id _ hid;obtain⟨_,ob,t1,tp,t2,t3⟩:=hra;rw[e1]at t1;cases t1;have hne:cs≠[]:=by rintro rfl;simp at hb2
      obtain⟨b,hβ,ev,hg0,hi0⟩:=t2 cs rfl hne;obtain⟨b',arr,q1,⟨T,fz,q2,q3⟩,q4⟩:=hm.obj id _ e1 hne;rw[hβ]at q1;cases q1;obtain⟨w1,w2⟩:=qs p new cs cs' hset tp;have hlen:=q4.length;simp only[OA,O7]at hlen;obtain⟨w',vn,s1,s2,s3⟩:=qv (P:=P) (o:=aS p) hs hx q2 q3 (by omega);have hln:=s1.length;have hlive:Live c id b:=⟨hβ,_,e1,by simp[Obj.live,hne]⟩
      have hcl:cs'.length=cs.length:=by rw[w2];simp;omega
      have hne':cs'≠[]:=by intro h;rw[h]at hcl;simp at hcl;exact hne (OR.1 hcl.symm)
      have hblk:∀j,j<c.w.heap.size->¬ Live c id j->w'.heap[j]?=c.w.heap[j]?:=λj _ hl=>s2.other j (by rintro rfl;exact hl hlive)
      have hids:∀s v,s.ids=[id]->RepS c s v->RepS (c.turn id w' c.S (some b) (.box cs')) s v:=by
       intro s v hsi hrs;have hhp:(c.turn id w' c.S (some b) (.box cs')).hp id=some (.box cs'):=by simp[Cx.turn,upd]
       cases s<;>simp only[S.ids,NY,OV,reduceCtorEq]at hsi
       case vw j g=>subst hsi;exact⟨hrs.1,_,hhp,λk xs gen hist frz e=>by cases e⟩
       case pv j g off len=>subst hsi;exact⟨hrs.1,_,hhp,λk xs gen hist frz e=>by cases e⟩
       case mp j=>exact sI (c:=c) rfl e1 hne hhp (by simp[Cx.turn,hβ]) (by simp[S.ids,hsi]) rfl hrs
       case rp t i off=>exact sI (c:=c) rfl e1 hne hhp (by simp[Cx.turn,hβ]) (by simp[S.ids,hsi]) rfl hrs
       case ov j g i=>exact sI (c:=c) rfl e1 hne hhp (by simp[Cx.turn,hβ]) (by simp[S.ids,hsi]) rfl hrs
       case oe j g i q p=>exact sI (c:=c) rfl e1 hne hhp (by simp[Cx.turn,hβ]) (by simp[S.ids,hsi]) rfl hrs
       case bm f j=>exact sI (c:=c) rfl e1 hne hhp (by simp[Cx.turn,hβ]) (by simp[S.ids,hsi]) rfl hrs
       case ptr j g i p=>
        subst hsi;obtain⟨z0,oo,z1,z2,z3,z4⟩:=hrs;rw[e1]at z1;cases z1;obtain⟨b2,y1,y2,y3⟩:=z3 cs rfl hne;rw[hβ]at y1;cases y1;exact⟨z0,_,hhp,z2,λcs2 e2 _=>⟨b,by simp[Cx.turn],y2,y3⟩,λk xs gen hist frz e=>by cases e⟩
      have he:=wE hm (β':=some b) (o':=.box cs') hblk (λ_ h=>h) hids;have ht:Turn w0 M c id w' c.S (some b) (.box cs'):=by
       refine⟨s2.os,s2.tape,s2.output,by rw[s2.size];exact NG _,hblk,λ_ h=>h,λb' hb'=>⟨by rw[s2.size];exact hm.below b' hb',.inl hb'⟩,⟨_,e1⟩,λ_=>?_,λb' hb' _=>?_,hids⟩
       ·refine⟨b,_,by simp[Cx.turn],⟨T,fz,s2.here,by rw[b9];exact q3⟩,?_⟩;have hal:(bC arr (aS p) vn).toList.length=arr.size:=by rw[O7];exact b9 _ _ _
        refine LR.of_get (by rw[OA,hal];omega) λj x y hx hy=>?_
        rw[Ol]at hy;split at hy
        ·rw[NR,cF vn arr _ j (by omega)]at hy;rw[w2,Jh _ _ _ _ w1]at hx;rw[<- hln]at hy;refine he.rep ?_;split at hy
         ·rw[NI (by assumption)]at hx;obtain⟨y',e2,e3⟩:=s1.get _ _ hx;rw[hy]at e2;cases e2;exact e3
         ·rw[ND (by assumption)]at hx;obtain⟨y',e2,e3⟩:=q4.get _ _ hx;rw[Ol]at e2;split at e2
          ·rw[NR,hy]at e2;cases e2;exact e3
          ·cases e2
        ·cases hy
       ·cases hb';exact⟨by rw[s2.size];exact(hm.live id b hlive).1,(hm.live id b hlive).2.1,.inl hlive⟩
      refine⟨.skip,c.turn id w' c.S (some b) (.box cs'),?_,ht.mem hm,he,by rw[bO,cC];rfl,.inr ⟨rfl,rfl⟩⟩;rw[ev];exact fI s3
     ·cases h
   ·-- a row's element
    rename_i k xs gen hist hid;cases hb2:(Nat.beq g gen && !(ba new).contains id)with
    |false=>rw[hb2]at h;cases h
    |true=>
     rw[hb2]at h;simp only[NH]at h;simp only[NM,Oz]at hb2;have hg:=NB hb2.1;have hni:id ∉ ba new:=by
      have:=hb2.2;intro hmem;rw[OL.2 hmem]at this;cases this
     split at h
     ·rename_i cs' uf hset huf;split at h
      ·rename_i y hy;simp only[Out.ok.injEq,Oh]at h;obtain⟨rfl,rfl⟩:=h;have e1:=hh id _ hid;obtain⟨c1,f1,f2,m1,x1,p1,p2⟩:=yl hm hh huf;have e2:c1.hp id=some (.row k xs gen hist false):=by
        rw[p1];unfold hpU;rw[rY huf hni];exact e1
       -- the element as it was
       obtain⟨_,ob,t1,tp,t2,t3⟩:=hra;rw[e1]at t1;cases t1;obtain⟨hlt,b,hβ,ev⟩:=(t3 _ _ _ _ _ rfl).2 hg;have hro:=hm.obj id _ e1;unfold RepO at hro;simp only[hβ]at hro;obtain⟨⟨arr,q1,q2,q3⟩,q4,_⟩:=hro;obtain⟨arr',q5⟩:=q4 trivial;have earr:=q1.uniq q5.blk;subst earr;obtain⟨T,fz,q6,q7⟩:=q5;have hxi:xs[i]?=some (xs.getD i k.dflt):=by
        rw[NT hlt,NP,NT hlt];rfl
       obtain⟨vs,r1,r2⟩:=q3 i _ hxi;have hlv:=(bj k _ vs).2 r1;have hvl:=RepT.len r1;obtain⟨w1,w2⟩:=qs p new _ cs' hset tp;have hll:=hlv.length;have hroom:i*k.size+k.size<=xs.length*k.size:=by
        have:(i+1)*k.size<=xs.length*k.size:=Of _ hlt;rw[Og]at this;omega
       obtain⟨w',vn,s1,s2,s3⟩:=qv (P:=P) (o:=i*k.size+aS p) hs hx q6 q7 (by omega);have hln:=s1.length
       -- the element as it is
       have hl2:=hlv.wr s1 w2;have hyr:RepT c.te c.w c1.S k y (vs.take (aS p)++vn++vs.drop (aS p+vn.length)):=by
        refine dV hm hh x1.sub (λj hj=>?_) hl2 hy;obtain⟨s,hs1,hs2⟩:=qZ.1 hj;rw[w2]at hs1;rcases NU.1 hs1 with hs1|hs1
        ·rcases NU.1 hs1 with hs1|hs1
         ·rw[fk k _ s (Pa hs1)]at hs2;simp at hs2
         ·exact p2 j (qZ.2 ⟨s,hs1,hs2⟩)
        ·rw[fk k _ s (Ql hs1)]at hs2;simp at hs2
       have hβ1:c1.β id=some b:=by rw[f2];exact hβ
       have hlive:Live c1 id b:=⟨hβ1,_,e2,rfl⟩
       have hblk:∀j,j<c1.w.heap.size->¬ Live c1 id j->w'.heap[j]?=c1.w.heap[j]?:=λj _ hl=>by rw[f1];exact s2.other j (by rintro rfl;exact hl hlive)
       have hstab:∀j,c1.S j->w'.heap[j]?=c1.w.heap[j]?:=λj hj=>hblk j (m1.below j hj) λhl=>(m1.live id j hl).2.1 hj
       have hsz2:(bC arr (i*k.size+aS p) vn).size=arr.size:=b9 _ _ _;have hids:∀s v,s.ids=[id]->RepS c1 s v->RepS (c1.turn id w' c1.S (some b) (.row k (xs.set i y) gen [] false)) s v:=by
        intro s v hsi hrs;have hhp:(c1.turn id w' c1.S (some b) (.row k (xs.set i y) gen [] false)).hp id=some (.row k (xs.set i y) gen [] false):=by simp[Cx.turn,upd]
        have hβ2:(c1.turn id w' c1.S (some b) (.row k (xs.set i y) gen [] false)).β id=c1.β id:=by simp[Cx.turn,hβ1]
        have hbk:∀b',c1.β id=some b'->∀ar,Blk c1.w b' ar->∃ar',Blk (c1.turn id w' c1.S (some b) (.row k (xs.set i y) gen [] false)).w b' ar'/\ar.size<=ar'.size:=by
         intro b' hb' ar har;rw[hβ1]at hb';cases hb';rw[f1]at har;have:=har.uniq q1;subst this;exact⟨_,⟨T,fz,s2.here⟩,by rw[hsz2];exact NG _⟩
        cases s<;>simp only[S.ids,NY,OV,reduceCtorEq]at hsi
        case vw j g2=>
         subst hsi;obtain⟨z0,oo,z1,z2⟩:=hrs;rw[e2]at z1;cases z1;obtain⟨y1,y2,y3⟩:=z2 _ _ _ _ _ rfl;refine⟨z0,_,hhp,λk' xs' gen' hist' frz' e'=>?_⟩;cases e';refine⟨y1,λhg2=>?_,λ_ zs hz=>by simp at hz⟩;rw[NA];exact cz.of hβ2 hbk (y2 hg2)
        case pv j g2 off len=>
         subst hsi;obtain⟨z0,oo,z1,z2⟩:=hrs;rw[e2]at z1;cases z1;obtain⟨y1,y2⟩:=z2 _ _ _ _ _ rfl;refine⟨z0,_,hhp,λk' xs' gen' hist' frz' e'=>?_⟩;cases e';refine⟨y1,λhg2=>?_⟩;rw[NA];exact cz.of hβ2 hbk (y2 hg2)
        case mp j=>exact cv (c:=c1) rfl hhp (.inl rfl) (by simp[S.ids,hsi]) rfl hrs
        case rp t i off=>exact cv (c:=c1) rfl hhp (.inl rfl) (by simp[S.ids,hsi]) rfl hrs
        case ov j g i=>exact cv (c:=c1) rfl hhp (.inl rfl) (by simp[S.ids,hsi]) rfl hrs
        case oe j g i q p=>exact cv (c:=c1) rfl hhp (.inl rfl) (by simp[S.ids,hsi]) rfl hrs
        case bm f j=>exact cv (c:=c1) rfl hhp (.inl rfl) (by simp[S.ids,hsi]) rfl hrs
        case ptr j g2 i2 p2=>
         subst hsi;obtain⟨z0,oo,z1,zp,z2,z3⟩:=hrs;rw[e2]at z1;cases z1;refine⟨z0,_,hhp,zp,λcs e'=>by(cases e'),λk' xs' gen' hist' frz' e'=>?_⟩;cases e';rw[hβ2,NA];exact z3 _ _ _ _ _ rfl
       have ht:Turn w0 M c1 id w' c1.S (some b) (.row k (xs.set i y) gen [] false):=by
        refine⟨by rw[f1];exact s2.os,by rw[f1];exact s2.tape,by rw[f1];exact s2.output,by rw[f1,s2.size];exact NG _,hblk,λ_ h=>h,λb' hb'=>⟨by rw[s2.size,<- f1];exact m1.below b' hb',.inl hb'⟩,⟨_,e2⟩,?_,λb' hb' _=>?_,hids⟩
        ·have hβ2:(c1.turn id w' c1.S (some b) (.row k (xs.set i y) gen [] false)).β id=some b:=by simp[Cx.turn]
         unfold RepO;simp only[hβ2];refine⟨⟨_,⟨T,fz,s2.here⟩,by rw[hsz2,NA];exact q2,λj x hx=>?_⟩,λ_=>⟨_,T,fz,s2.here,by rw[hsz2];exact q7⟩,λh=>by(cases h)⟩;have hget:=λq=>cF vn arr (i*k.size+aS p) q (by omega)
         by_cases hj:j=i
         ·subst hj;rw[OG hlt]at hx;simp only[Nz]at hx;subst hx;refine⟨_,RepT.mono (w:=c1.w) hstab (λ_ h=>h) (by rw[f1];have:=hyr;rw[<- x1.te]at this;exact this),λq v hv=>?_⟩;rw[Jh _ _ _ _ (by omega)]at hv;rw[hget];split at hv
          ·rw[NI (by omega),show j*k.size+q-(j*k.size+aS p)=q-aS p by omega];exact hv
          ·rw[ND (by omega)];exact r2 q v hv
         ·rw[OH (by omega)]at hx;obtain⟨vs2,u1,u2⟩:=q3 j x hx;refine⟨vs2,RepT.mono (w:=c.w) (λb' hb'=>by have:=hstab b' (x1.sub b' hb');rw[f1]at this;exact this) x1.sub (by rw[show(c1.turn id w' c1.S (some b) (.row k (xs.set i y) gen [] false)).te=c.te from x1.te];exact u1),λq v hv=>?_⟩;have hq:q<k.size:=by rw[<- RepT.len u1];obtain⟨z,_⟩:=NJ.1 hv;exact z
          rw[hget,ND]
          ·exact u2 q v hv
          ·rintro⟨c1',c2'⟩;rcases Oy j i with hji|hji
           ·have:(j+1)*k.size<=i*k.size:=Of _ hji;rw[Og]at this;omega
           ·have:(i+1)*k.size<=j*k.size:=Of _ (by omega);rw[Og]at this;omega
        ·cases hb';exact⟨by rw[s2.size,<- f1];exact(m1.live id b hlive).1,(m1.live id b hlive).2.1,.inl hlive⟩
       have hstep:aU w0 M c1 ((do Instr.storeAt t (r a) (r x);pure Next.skip:Sem Next).run P c.w) .undef [(id,.row k (xs.set i y) gen [] false)]:=by
        refine⟨.skip,c1.turn id w' c1.S (some b) (.row k (xs.set i y) gen [] false),?_,ht.mem m1,ht.ext m1,by rw[bO,cC];rfl,.inr ⟨rfl,rfl⟩⟩;rw[ev];exact fI s3
       exact hstep.after x1 p1 (λj=>iX _ _ _ j)
      ·cases h
     ·cases h
   ·cases h
 ·rename_i t' i off gg new n hsl ex hs;revert h;cases Nat.beq new.length n with
  |false=>simp
  |true=>exact λh=>(AY (P:=P) h).elim
 ·cases h
theorem G1 (hm:Mem w0 M c)(hh:∀id o,hp id=some o->c.hp id=some o)(hr:∀x,RepV c (ρ x) (r x)){st dt:TypeId}{x:Operand}(ho:o.op=.convert st dt x){id g:Nat}{e0 e:TypeId}
  (hx:slot x ρ=some (.vw id g)) (hsu:P.underlying st=some (.slice e0)) (hdu:P.underlying dt=some (.slice e)) (h:core P A fid ρ hp o=.ok true v u):
  aU w0 M c ((execOp r o).run P c.w) v u:=by
 simp only[core,ho,hx,hsu,hdu]at h;simp only[execOp,ho];split at h
 ·rename_i k xs gen hist heu hid;cases hb:(Nat.beq g gen&&Nat.beq st dt)with
  |false=>rw[hb]at h;cases h
  |true=>
   rw[hb]at h;simp only[NH,Out.ok.injEq,Oz]at h;obtain⟨hne,rfl,rfl⟩:=h;simp only[NM]at hb;have hg:=NB hb.1;have hst:=NB hb.2;subst hg;subst hst;have hxs:0<xs.length:=by
    rcases xs with _|⟨y,ys⟩
    ·simp at hne
    ·simp
   have e1:=hh id _ hid;have hrx:=aF hr hx;obtain⟨hone,ob,t1,t2⟩:=hrx;rw[e1]at t1;cases t1;have hnow:=(t2 _ _ _ _ _ rfl).2.1 rfl;have hro:=hm.obj id _ e1;unfold RepO at hro;cases hβ:c.β id with
   |none=>simp only[hβ]at hro;rw[hro]at hxs;simp at hxs
   |some b=>
   simp only[hβ]at hro;unfold cz at hnow;simp only[hβ]at hnow;obtain⟨cap,arr,a,ev,hle,hblk0,_,hcap⟩:=hnow;obtain⟨rfl,_⟩:=hcap (by omega);obtain⟨⟨arr1,p1,p2,p3⟩,p4,p5⟩:=hro;have earr:=hblk0.uniq p1;subst earr;obtain⟨arr2,T,fz,q1,q2⟩:=p4 trivial;have earr:=hblk0.uniq ⟨T,fz,q1⟩;subst earr
   let w':=jQ c.w b arr.size
   let fz':Nat×Nat:=if fz.1==fz.2 then(arr.size,arr.size+1)else(min fz.1 arr.size,max fz.2 (arr.size+1))
   have hfz':FzOk arr.size fz':=by
    show FzOk arr.size (if fz.1==fz.2 then(arr.size,arr.size+1)else(min fz.1 arr.size,max fz.2 (arr.size+1)));split
    ·exact⟨λo ho=>(by show ¬ (arr.size<=o/\o<arr.size+1);omega),Rl _⟩
    ·rename_i hne2;have hne3:fz.1≠fz.2:=by simpa using hne2
     have hle2:=q2.2;have hge:arr.size<=fz.1:=by
      rcases Oy fz.1 arr.size with q|q
      ·exact(q2.1 fz.1 q ⟨NG _,by omega⟩).elim
      ·exact q
     exact⟨λo ho=>(by show ¬ (min fz.1 arr.size<=o/\o<max fz.2 (arr.size+1));omega),(by show min fz.1 arr.size<=max fz.2 (arr.size+1);omega)⟩
   have hwb:w'.heap[b]?=some (.cells arr T fz'):=by
    show(c.w.freeze { block:=b,off:=arr.size } 1).heap[b]?=_;unfold World.freeze;rw[ND (by decide)];simp only[Pr,NI,q1];rfl
   have hwo:∀j,j≠b->w'.heap[j]?=c.w.heap[j]?:=by
    intro j hj;show(c.w.freeze { block:=b,off:=arr.size } 1).heap[j]?=_;unfold World.freeze;rw[ND (by decide)];simp only[Pr];rw[ND (λh=>hj h.symm)]
   have hwsz:w'.heap.size=c.w.heap.size:=by
    show(c.w.freeze { block:=b,off:=arr.size } 1).heap.size=_;unfold World.freeze;rw[ND (by decide)];simp
   have hwos:w'.os=c.w.os/\w'.tape=c.w.tape/\w'.output=c.w.output:=by
    show(c.w.freeze _ 1).os=_/\(c.w.freeze _ 1).tape=_/\(c.w.freeze _ 1).output=_;unfold World.freeze;rw[ND (by decide)];exact⟨rfl,rfl,rfl⟩
   have hlive:Live c id b:=⟨hβ,_,e1,rfl⟩
   have hblk:∀j,j<c.w.heap.size->¬ Live c id j->w'.heap[j]?=c.w.heap[j]?:=λj _ hl=>hwo j (by rintro rfl;exact hl hlive)
   have hstab:∀j,c.S j->w'.heap[j]?=c.w.heap[j]?:=λj hj=>hblk j (hm.below j hj) λhl=>(hm.live id j hl).2.1 hj
   have hids:∀s v,s.ids=[id]->RepS c s v->RepS (c.turn id w' c.S (some b) (.row k xs g [] false)) s v:=by
    intro s v hsi hrs;have hhp:(c.turn id w' c.S (some b) (.row k xs g [] false)).hp id=some (.row k xs g [] false):=by simp[Cx.turn,upd]
    have hβ2:(c.turn id w' c.S (some b) (.row k xs g [] false)).β id=c.β id:=by simp[Cx.turn,hβ]
    have hbk:∀b',c.β id=some b'->∀ar,Blk c.w b' ar->∃ar',Blk (c.turn id w' c.S (some b) (.row k xs g [] false)).w b' ar'/\ar.size<=ar'.size:=by
     intro b' hb' ar har;rw[hβ]at hb';cases hb';have:=har.uniq ⟨T,fz,q1⟩;subst this;exact⟨_,⟨T,fz',hwb⟩,NG _⟩
    cases s<;>simp only[S.ids,NY,OV,reduceCtorEq]at hsi
    case vw j g2=>
     subst hsi;obtain⟨z0,oo,z1,z2⟩:=hrs;rw[e1]at z1;cases z1;obtain⟨y1,y2,y3⟩:=z2 _ _ _ _ _ rfl;refine⟨z0,_,hhp,λk' xs' gen' hist' frz' e'=>?_⟩;cases e';exact⟨y1,λhg2=>cz.of hβ2 hbk (y2 hg2),λ_ zs hz=>by simp at hz⟩
    case pv j g2 off len=>
     subst hsi;obtain⟨z0,oo,z1,z2⟩:=hrs;rw[e1]at z1;cases z1;obtain⟨y1,y2⟩:=z2 _ _ _ _ _ rfl;refine⟨z0,_,hhp,λk' xs' gen' hist' frz' e'=>?_⟩;cases e';exact⟨y1,λhg2=>cz.of hβ2 hbk (y2 hg2)⟩
    case mp j=>exact cv (c:=c) rfl hhp (.inl rfl) (by simp[S.ids,hsi]) rfl hrs
    case rp t i off=>exact cv (c:=c) rfl hhp (.inl rfl) (by simp[S.ids,hsi]) rfl hrs
    case ov j g i=>exact cv (c:=c) rfl hhp (.inl rfl) (by simp[S.ids,hsi]) rfl hrs
    case oe j g i q p=>exact cv (c:=c) rfl hhp (.inl rfl) (by simp[S.ids,hsi]) rfl hrs
    case bm f j=>exact cv (c:=c) rfl hhp (.inl rfl) (by simp[S.ids,hsi]) rfl hrs
    case ptr j g2 i2 p2=>
     subst hsi;obtain⟨z0,oo,z1,zp,z2,z3⟩:=hrs;rw[e1]at z1;cases z1;refine⟨z0,_,hhp,zp,λcs e'=>by(cases e'),λk' xs' gen' hist' frz' e'=>?_⟩;cases e';rw[hβ2];exact z3 _ _ _ _ _ rfl
   have ht:Turn w0 M c id w' c.S (some b) (.row k xs g [] false):=by
    refine⟨hwos.1,hwos.2.1,hwos.2.2,by rw[hwsz];exact NG _,hblk,λ_ h=>h,λb' hb'=>⟨by rw[hwsz];exact hm.below b' hb',.inl hb'⟩,⟨_,e1⟩,?_,λb' hb' _=>?_,hids⟩
    ·have hβ2:(c.turn id w' c.S (some b) (.row k xs g [] false)).β id=some b:=by simp[Cx.turn]
     unfold RepO;simp only[hβ2];refine⟨⟨_,⟨T,fz',hwb⟩,p2,λj x hx=>?_⟩,λ_=>⟨_,T,fz',hwb,hfz'⟩,λh=>by(cases h)⟩;obtain⟨vs,r1,r2⟩:=p3 j x hx;exact⟨vs,RepT.mono (w:=c.w) hstab (λ_ h=>h) r1,r2⟩
    ·cases hb';exact⟨by rw[hwsz];exact(hm.live id b hlive).1,(hm.live id b hlive).2.1,.inl hlive⟩
   have hrv:RepS (c.turn id w' c.S (some b) (.row k xs g [] false)) (.vw id g) (r x):=hids (.vw id g) (r x) rfl (aF hr hx);refine⟨.value (r x),c.turn id w' c.S (some b) (.row k xs g [] false),?_,ht.mem hm,ht.ext hm,by rw[bO,cC];rfl,.inl ⟨_,rfl,aB hrv⟩⟩;refine aM ?_;rw[ev];unfold convert;rw[run_ok (run_underlying hsu c.w),run_ok (run_underlying hdu c.w)];simp only[];rw[run_ok (run_underlying heu c.w)];simp only[PJ];have hmk:(markStringish ⟨b,0*k.size,none⟩).run P c.w=.ok () w':=by
    unfold markStringish;have hshape:(shape b).run P c.w=.ok (some (T,arr.size)) c.w:=by
     show Result.ok (c.w.shape? b) c.w=_;simp only[World.shape?,q1]
    rw[run_ok hshape];rfl
   rw[run_ok hmk];rfl
 ·cases h
theorem wJ (hm:Mem w0 M c)(hh:∀id o,hp id=some o->c.hp id=some o)(hf:∀d,o.dst=some d->hp d=none->c.hp d=none)(hr:∀x,RepV c (ρ x) (r x)){st dt:TypeId}{x:Operand}(ho:o.op=.convert st dt x)(h:core P A fid ρ hp o=.ok true v u):
  aU w0 M c ((execOp r o).run P c.w) v u:=by
 by_cases hs:∃id g e0 e,slot x ρ=some (.vw id g)/\P.underlying st=some (.slice e0)/\P.underlying dt=some (.slice e)
 ·obtain⟨id,g,e0,e,h1,h2,h3⟩:=hs;exact G1 hm hh hr ho h1 h2 h3 h
 ·exact yT hm hh hf hr ho (λid g e0 e q=>hs ⟨id,g,e0,e,q⟩) h
end
end Go.Eng
namespace Go.Eng
open Go.RowKit
section
variable {P:Program} {A:Ann} {fid:Nat} {w0:World} {M:MS} {c:Cx} {ρ:Operand->AV} {r:Operand->Value} {hp:Nat->Option Obj} {o:Oper} {v:AV} {u:Upd}
theorem JM {q:Bool}{a:Out}{cb:Bool}{v:AV}{u:Upd}(h:(bif q then a else .bad)=.ok cb v u):a=.ok cb v u:=by
 cases q with
 |false=>cases h
 |true=>exact h
theorem xA {α:Type}{c:Cx}{f:α->AV}{g:α->Value}(l:List α)(h:∀x,RepV c (f x) (g x)):LR (RepV c) (l.map f) (l.map g):=by
 induction l with
 |nil=>trivial
 |cons a r ih=>exact⟨h a,ih⟩
theorem yU (hm:Mem w0 M c)(hM:ManR A c)(hh:∀id o,hp id=some o->c.hp id=some o)(hf:∀d,o.dst=some d->hp d=none->c.hp d=none)(hr:∀x,RepV c (ρ x) (r x)){cc:Call}{b:Builtin}(ho:o.op=.call cc)(hb:cc.callee=.builtin b)(h:jW P hp o.dst b cc.argTypes.toList (cc.args.toList.map ρ)=.ok true v u):
  aU w0 M c ((execOp r o).run P c.w) v u:=by
 have hlr:LR (RepV c) (cc.args.toList.map ρ) (cc.args.map r).toList:=by rw[OO];exact xA _ hr
 have e1:(execOp r o).run P c.w=(builtin b cc.argTypes o.type (cc.args.map fun| .const _=>true|_=>false) (cc.args.map r)).run P c.w:=by
  simp only[execOp,ho,resolve,hb];rw[run_pb];rfl
 rw[e1];by_cases ha:b=.append
 ·subst ha;unfold jW at h;simp only[]at h;split at h
  ·rename_i t t2 a1 a2 ht ht2 hargs;split at h
   ·rename_i s x hs hx;have ht':cc.argTypes[0]?=some t:=by rw[<- NR];exact ht
    have ht2':cc.argTypes[1]?=some t2:=by rw[<- NR];exact ht2
    rw[hargs]at hlr
    match hvs:(cc.args.map r).toList,hlr with
    |[v0,v1],hlr=>
     have a0:(cc.args.map r)[0]?=some v0:=by rw[<- NR,hvs];rfl
     have a1:(cc.args.map r)[1]?=some v1:=by rw[<- NR,hvs];rfl
     have r0:=iP hs hlr.1;have r1:=iP hx hlr.2.1;unfold builtin;simp only[];unfold appB at h;have main:∀{e:TypeId},oO P t=some e->((∃q,P.underlying t2=some (.slice q))\/P.underlying t2=some .string)->oU P hp o.dst e s x=.ok true v u ->
       aU w0 M c ((do pure (Next.value (<- Builtin.append_ cc.argTypes o.type (cc.args.map r))):Sem Next).run P c.w) v u:=by
      intro e hel hu2 hz;have hu:=oN hel;unfold oU at hz;split at hz
      ·split at hz
       ·rename_i k d hk hfr;obtain⟨hd,hd2⟩:=cK hfr;cases hek:fF P e k with
        |false=>rw[hek]at hz;cases hz
        |true=>
         rw[hek]at hz;simp only[Pw,NS]at hz;split at hz
         ·rename_i ys hy;simp only[Out.ok.injEq,N0]at hz;obtain⟨hlim,rfl,rfl⟩:=hz;have hn:v0=.slice none 0 0:=r0;subst hn;exact append_nil hm hM hh (hf d hd hd2) ht' ht2' hu hu2 a0 a1 hek r1 hy hlim
         ·cases hz
       ·cases hz
      ·split at hz
       ·rename_i id g x2 k xs gen hist hid;cases hc:(Nat.beq g gen&&decide (kd P e=some k)&&fF P e k)with
        |false=>rw[hc]at hz;cases hz
        |true=>
         rw[hc]at hz;simp only[NH]at hz;simp only[NM]at hc;have hg:=NB hc.1.1;subst hg;split at hz
         ·rename_i ys hy;simp only[Out.ok.injEq,N0]at hz;obtain⟨hlim,rfl,rfl⟩:=hz;exact Ea hm hM hh ht' ht2' hu hu2 a0 a1 hc.2 (hh _ _ hid) r0 r1 hy hlim
         ·cases hz
       ·cases hz
      ·split at hz
       ·have hz:=JM hz;split at hz<;>cases hz
       ·cases hz
      ·cases hz
     split at h
     ·rename_i e q hel hq;exact main hel (.inl ⟨q,hq⟩) h
     ·rename_i e hel hq;exact main hel (.inr hq) h
     ·cases h
   ·cases h
  ·cases h
 ·exact wM hm hM hh ha hlr h _
theorem pS {k:K}{x:k.T}{v:Value}(h:RepE c.te k x v):RepV c (inj k x) v:=by
 cases k with
 |int k=>exact⟨_,rfl,h⟩
 |bool=>exact⟨_,rfl,h⟩
 |ref t=>exact⟨_,rfl,h⟩
 |_=>exact h.elim
theorem Jt {te:TE}{w:World}{Sb:Nat->Prop}{k:K}{x:k.T}{v:Value}(hk:zr k=true)(h:RepT te w Sb k x [v]):RepE te k x v:=by
 cases k with
 |int k=>obtain⟨h1,h2⟩:=h;cases h1;exact⟨rfl,h2⟩
 |bool=>cases h;rfl
 |ref t=>obtain⟨v',e,h⟩:=h;cases e;exact h
 |_=>cases hk
theorem wR {te:TE}{et:TypeId}{k:K}(h:C5 P et k=true)(w:World):∃z,(zeroValue et).run P w=.ok z w/\RepE te k k.dflt z:=by
 unfold C5 at h;split at h
 ·rename_i i hi;split at h
  ·rename_i kk k' n hz;simp only[NM,N0]at h;obtain⟨rfl,rfl⟩:=h;refine⟨.int kk 0,?_,?_⟩
   ·unfold zeroValue;rw[run_ok (bK hi w)];simp only[hz];rfl
   ·exact⟨rfl,by unfold okI okB;cases kk<;>rfl⟩
  ·rename_i b hz;have hb:b=false:=by cases b<;>simp_all
   subst hb;refine⟨.bool false,?_,?_⟩
   ·unfold zeroValue;rw[run_ok (bK hi w)];simp only[hz];rfl
   ·rfl
  ·rename_i t hz;refine⟨.pointer none,?_,?_⟩
   ·unfold zeroValue;rw[run_ok (bK hi w)];simp only[hz];rfl
   ·rfl
  ·cases h
 ·cases h
theorem ca (a b:Int):Instr.sameNow (.int .i64) (.int .i64 a) (.int .i64 b)=some (a==b):=rfl
theorem lD {te:TE}{k:K}(n:Int)(x:k.T):∀(es:List (Int×k.T))(l:List MapEntry)(i:Nat),LR (RepM te k) es l ->
  (Instr.findNow (.int .i64) (.int .i64 n) l i=some none/\aO k.dflt es n=k.dflt/\aR es n x=es++[(n,x)]) \/
  ∃j e,Instr.findNow (.int .i64) (.int .i64 n) l i=some (some (i+j,e.val))/\l[j]?=some e/\e.key=.int .i64 n/\RepE te k (aO k.dflt es n) e.val/\aR es n x=es.set j (n,x)
 |[],[],i,_=>.inl ⟨rfl,rfl,rfl⟩
 |e::es,m::l,i,h=>by
  obtain⟨⟨hk,hv⟩,hr⟩:=h;by_cases q:e.1=n
  ·refine .inr ⟨0,m,?_,rfl,by rw[hk,q],?_,?_⟩
   ·simp only[Instr.findNow,hk,ca,q,PJ,Pz]
   ·unfold aO;rw[NK q];exact hv
   ·unfold aR;rw[NK q];rfl
  ·have hne:(n==e.1)=false:=by rw[O6];exact λh=>q h.symm
   rcases lD n x es l (i+1) hr with⟨h1,h2,h3⟩|⟨j,m',h1,h2,h3,h4,h5⟩
   ·refine .inl ⟨?_,?_,?_⟩
    ·simp only[Instr.findNow,hk,ca,hne];exact h1
    ·unfold aO;rw[NF q];exact h2
    ·unfold aR;rw[NF q];exact congrArg (e::·) h3
   ·refine .inr ⟨j+1,m',?_,h2,h3,?_,?_⟩
    ·simp only[Instr.findNow,hk,ca,hne];rw[h1,show i+1+j=i+(j+1) by omega]
    ·unfold aO;rw[NF q];exact h4
    ·unfold aR;rw[NF q];exact congrArg (e::·) h5
theorem Fs (hm:Mem w0 M c){id:Nat}{k:K}{es:List (Int×k.T)}(ho:c.hp id=some (.mp k es)){v:Value}(h:RepS c (.mp id) v):
  ∃b ents clock,c.β id=some b/\v=.map (some b)/\c.w.heap[b]?=some (.map ents clock)/\LR (RepM c.te k) es ents.toList:=by
 obtain⟨_,o',h1,h2⟩:=h;rw[ho]at h1;cases h1;obtain⟨b,q1,q2⟩:=h2 rfl;obtain⟨b',ents,clock,r1,r2,r3⟩:=hm.obj id _ ho;rw[q1]at r1;cases r1;exact⟨b,ents,clock,q1,q2,r2,r3⟩
theorem yR (hm:Mem w0 M c)(hf:∀d,o.dst=some d->hp d=none->c.hp d=none){t:TypeId}{rv:Option Operand}(ho:o.op=.makeMap t rv)(h:core P A fid ρ hp o=.ok true v u):
  aU w0 M c ((execOp r o).run P c.w) v u:=by
 cases rv with
 |some x=>simp[core,ho]at h
 |none=>
  simp only[core,ho]at h;simp only[execOp,ho];split at h
  ·rename_i kt et d hu hfr;split at h
   ·rename_i hkt hkd;simp only[Out.ok.injEq,Oh]at h;obtain⟨rfl,rfl⟩:=h;obtain⟨hd,hd2⟩:=cK hfr;have hdn:=hf d hd hd2;have hg:=cI c.w (.map #[] 0);have he:=vE (b:=c.w.heap.size) (o:=.fm []) hm hdn hg;have hβ:(c.new (bY c.w (.map #[] 0)) d c.w.heap.size (.fm [])).β d=some c.w.heap.size:=by simp[Cx.new,upd]
    refine⟨.value (.map (some c.w.heap.size)),c.new (bY c.w (.map #[] 0)) d c.w.heap.size (.fm []),rfl,vD hm hdn hg (NG _) (by simp[bY]) ?_,he,by rw[bO,cC];rfl,.inl ⟨_,rfl,aB ?_⟩⟩
    ·exact⟨c.w.heap.size,#[],0,hβ,mH _ _,trivial⟩
    ·exact⟨rfl,.fm [],by simp[Cx.new,upd],λ_=>⟨_,hβ,rfl⟩⟩
   ·rename_i k _ hkt hkd;cases hs:zr k with
    |false=>rw[hs]at h;cases h
    |true=>
     rw[hs]at h;simp only[NH,Out.ok.injEq,Oh]at h;obtain⟨rfl,rfl⟩:=h;obtain⟨hd,hd2⟩:=cK hfr;have hdn:=hf d hd hd2;have hg:=cI c.w (.map #[] 0);have he:=vE (b:=c.w.heap.size) (o:=.mp k []) hm hdn hg;have hβ:(c.new (bY c.w (.map #[] 0)) d c.w.heap.size (.mp k [])).β d=some c.w.heap.size:=by simp[Cx.new,upd]
     refine⟨.value (.map (some c.w.heap.size)),c.new (bY c.w (.map #[] 0)) d c.w.heap.size (.mp k []),rfl,vD hm hdn hg (NG _) (by simp[bY]) ?_,he,by rw[bO,cC];rfl,.inl ⟨_,rfl,aB ?_⟩⟩
     ·exact⟨c.w.heap.size,#[],0,hβ,mH _ _,trivial⟩
     ·exact⟨rfl,.mp k [],by simp[Cx.new,upd],λ_=>⟨_,hβ,rfl⟩⟩
   ·cases h
  ·cases h
theorem AT (hm:Mem w0 M c)(hM:ManR A c)(hh:∀id o,hp id=some o->c.hp id=some o)(hr:∀x,RepV c (ρ x) (r x)){t:TypeId}{x ix:Operand}{cm:Bool}(ho:o.op=.lookup t x ix cm)(h:core P A fid ρ hp o=.ok true v u):
  aU w0 M c ((execOp r o).run P c.w) v u:=by
 cases cm with
 |true=>simp[core,ho]at h
 |false=>
  simp only[core,ho]at h;simp only[execOp,ho];split at h
  ·rename_i id n kt et hx hi hu;split at h
   ·rename_i k es hid hkt;cases hs:C5 P et k with
    |false=>rw[hs]at h;cases h
    |true=>
     rw[hs]at h;simp only[NH,Out.ok.injEq,Oh]at h;obtain⟨rfl,rfl⟩:=h;obtain⟨b,ents,clock,q1,q2,q3,q4⟩:=Fs hm (hh id _ hid) (aF hr hx);obtain⟨q5,_⟩:=aF hr hi;obtain⟨z,z1,z2⟩:=wR (te:=c.te) hs c.w;have hck:=MapKept.run_checkKey (w:=c.w) (k:=.int .i64 n) hkt rfl ents.isEmpty 9999;rcases lD (k:=k) n k.dflt es ents.toList 0 q4 with⟨f1,f2,_⟩|⟨j,e,f1,f2,f3,f4,_⟩
     ·refine .quiet hm (v':=z) (aM ?_) (pS (by rw[f2];exact z2));rw[q2,q5];unfold Instr.lookup;rw[run_ok (run_underlying hu c.w)];simp only[];rw[run_ok (MapKept.run_getObj_map q3)];simp only[];rw[run_pb,run_ok hck,run_ok (MapKept.run_findKey hkt f1)];simp only[];rw[run_ok z1];rfl
     ·refine .quiet hm (v':=e.val) (aM ?_) (pS f4);rw[q2,q5];unfold Instr.lookup;rw[run_ok (run_underlying hu c.w)];simp only[];rw[run_ok (MapKept.run_getObj_map q3)];simp only[];rw[run_pb,run_ok hck,run_ok (MapKept.run_findKey hkt f1)];rfl
   ·cases h
  ·rename_i cid g i n kt et hx hi hu;split at h
   ·rename_i t' off e xs g' pd hid hkt;cases hs:(Nat.beq g g'&&C5 P et (.ref e))with
    |false=>rw[hs]at h;cases h
    |true=>
     rw[hs]at h;simp only[NH,Out.ok.injEq,Oh]at h;obtain⟨rfl,rfl⟩:=h;simp only[NM]at hs;have hid':=hh cid _ hid;obtain⟨_,ob,t1,t2⟩:=aF hr hx;rw[hid']at t1;cases t1;obtain⟨hi1,hcur⟩:=(t2 _ _ _ _ _ _ _ rfl).2 (NB hs.1);have hlt:=(hM.dom _ _ _ _ _ _ _ _ hid' i).2 hi1;obtain⟨b,ents,clock,q0,q2,q3,⟨q4,_⟩,_⟩:=hM.mpp _ _ _ e xs g' pd hid' i _ (getD_some [] hlt);obtain⟨q5,_⟩:=aF hr hi;obtain⟨z,z1,z2⟩:=wR (te:=c.te) hs.2 c.w;have hck:=MapKept.run_checkKey (w:=c.w) (k:=.int .i64 n) hkt rfl ents.isEmpty 9999;rcases lD (k:=.ref e) n none _ ents.toList 0 q4 with⟨f1,f2,_⟩|⟨j,m,f1,f2,f3,f4,_⟩
     ·refine .quiet hm (v':=z) (aM ?_) (pS (k:=.ref e) (by rw[show aO none (xs.getD i []) n=(none:Option Nat) from f2];exact z2));rw[hcur,q2,q5];unfold Instr.lookup;rw[run_ok (run_underlying hu c.w)];simp only[];rw[run_ok (MapKept.run_getObj_map q3)];simp only[];rw[run_pb,run_ok hck,run_ok (MapKept.run_findKey hkt f1)];simp only[];rw[run_ok z1];rfl
     ·refine .quiet hm (v':=m.val) (aM ?_) (pS (k:=.ref e) f4);rw[hcur,q2,q5];unfold Instr.lookup;rw[run_ok (run_underlying hu c.w)];simp only[];rw[run_ok (MapKept.run_getObj_map q3)];simp only[];rw[run_pb,run_ok hck,run_ok (MapKept.run_findKey hkt f1)];rfl
   ·cases h
  ·cases h
theorem Gi {c:Cx}(n:Int):∀(es:List (Int×Nat×Nat))(l:List MapEntry)(i:Nat),LR (λ(e:Int×Nat×Nat)(m:MapEntry)=>m.key=.int .i64 e.1/\RepS c (.bm e.2.1 e.2.2) m.val) es l->es.all (λe=>!decide (e.1=n))=true ->
  Instr.findNow (.int .i64) (.int .i64 n) l i=some none
 |[],[],i,_,_=>rfl
 |e::es,m::l,i,h,ha=>by
  obtain⟨⟨hk,hv⟩,hr⟩:=h;simp only[QZ,NM,Oz,PL]at ha;have hne:(n==e.1)=false:=by rw[O6];exact λh=>ha.1 h.symm
  simp only[Instr.findNow,hk,ca,hne];exact Gi n es l (i+1) hr ha.2
 |[],_::_,_,h,_=>h.elim
 |_::_,[],_,h,_=>h.elim
def KN (P:Program)(hp:Nat->Option Obj)(t:TypeId)(a b:Option S)(y:AV):Out:=
 match a,b,y,P.underlying t with
 |some (.mp id),some (.int .i64 n),.val false cs,some (.map kt _)=>(match hp id,P.underlying kt with
  |some (.mp k es),some (.int .i64)=>bif zr k then(match rei1 hp k cs with|some v=>.ok true .undef [(id,.mp k (aR es n v))]|none=>.bad)else .bad
  |some (.fm es),some (.int .i64)=>(match cs with
   |[.bm f j]=>bif es.all (λe=>!decide (e.1=n))then .ok true .undef [(id,.fm (es++[(n,f,j)]))]else .bad
   |_=>.bad)
  |_,_=>.bad)
 |some (.ov cid g i),some (.int .i64 n),.val false cs,some (.map kt _)=>(match hp cid,P.underlying kt with
  |some (.col t' off .mp (.slice (.prod (.int .i64) (.ref e))) xs g' p),some (.int .i64)=>bif Nat.beq g g' then(match rei1 hp (.ref e) cs with
   |some v=>.okm true .undef [(cid,.col t' off .mp (.slice (.prod (.int .i64) (.ref e))) (xs.set i (aR (xs.getD i []) n v)) (g'+1) p)]
   |none=>.bad)else .bad
  |_,_=>.bad)
 |_,_,_,_=>.bad
theorem Fp {t:TypeId}{x ix y:Operand}{out:Out}(ho:o.op=.mapUpdate t x ix y\/o.op=.insert t x ix y)(h:core P A fid ρ hp o=out):KN P hp t (slot x ρ) (slot ix ρ) (ρ y)=out:=by
 rcases ho with ho|ho<;>simp only[core,ho]at h<;>exact h
theorem lW (hm:Mem w0 M c)(hh:∀id o,hp id=some o->c.hp id=some o)(hr:∀x,RepV c (ρ x) (r x)){t:TypeId}{x ix y:Operand}(ho:o.op=.mapUpdate t x ix y\/o.op=.insert t x ix y)(h:core P A fid ρ hp o=.ok true v u):
  aU w0 M c ((execOp r o).run P c.w) v u:=by
 have e0:(execOp r o).run P c.w=((do Instr.mapUpdate t (r x) (r ix) (r y);pure Next.skip:Sem Next)).run P c.w:=by
  rcases ho with ho|ho<;>simp only[execOp,ho]
 rw[e0];have h:=Fp ho h;unfold KN at h;split at h
 ·rename_i id n cs kt et hx hi hy hu;split at h
  ·rename_i k es hid hkt;cases hs:zr k with
   |false=>rw[hs]at h;cases h
   |true=>
    rw[hs]at h;simp only[NH]at h;split at h
    ·rename_i val hval;simp only[Out.ok.injEq,Oh]at h;obtain⟨rfl,rfl⟩:=h;have hid':=hh id _ hid;obtain⟨b,ents,clock,q1,q2,q3,q4⟩:=Fs hm hid' (aF hr hx);obtain⟨q5,q6⟩:=aF hr hi;have hyr:=hr y;rw[hy]at hyr;obtain⟨s,rfl,hsv⟩:=hyr;have hE:RepE c.te k val (r y):=by
      have hnid:∀id∈ba [s],∀b,c.β id=some b->c.S b\/True:=λ_ _ _ _=>.inr trivial
      exact Jt hs (dV (S':=λb=>c.S b\/True) hm hh (λ_ h=>.inl h) hnid ⟨hsv,trivial⟩ hval)
     have hck:=MapKept.run_checkKey (w:=c.w) (k:=.int .i64 n) hkt rfl false 9999;have hlive:Live c id b:=⟨q1,_,hid',rfl⟩
     have fin:∀(ents':Array MapEntry) (clock':Nat),LR (RepM c.te k) (aR es n val) ents'.toList ->
       (Instr.mapUpdate t (.map (some b)) (.int .i64 n) (r y)).run P c.w=.ok () { c.w with heap:=c.w.heap.setIfInBounds b (.map ents' clock') }->aU w0 M c ((do Instr.mapUpdate t (r x) (r ix) (r y);pure Next.skip:Sem Next).run P c.w) .undef [(id,.mp k (aR es n val))]:=by
      intro ents' clock' hl hrun;obtain⟨hs1,hs2⟩:=MapKept.heap_set (o':=.map ents' clock') q3
      let w':World:={ c.w with heap:=c.w.heap.setIfInBounds b (.map ents' clock') }
      have hblk:∀j,j<c.w.heap.size->¬ Live c id j->w'.heap[j]?=c.w.heap[j]?:=λj _ hl=>hs2 j (by rintro rfl;exact hl hlive)
      have hhp:(c.turn id w' c.S (some b) (.mp k (aR es n val))).hp id=some (.mp k (aR es n val)):=by simp[Cx.turn,upd]
      have hids:∀s v,s.ids=[id]->RepS c s v->RepS (c.turn id w' c.S (some b) (.mp k (aR es n val))) s v:=by
       intro s v hsi hrs;cases s<;>simp only[S.ids,NY,OV,reduceCtorEq]at hsi
       case vw j g=>subst hsi;exact⟨hrs.1,_,hhp,λk xs gen hist frz e=>by cases e⟩
       case pv j g off len=>subst hsi;exact⟨hrs.1,_,hhp,λk xs gen hist frz e=>by cases e⟩
       case ptr j g i p=>
        subst hsi;obtain⟨z0,oo,z1,z2,_⟩:=hrs;exact⟨z0,_,hhp,z2,(λcs e=>by cases e),λk xs gen hist frz e=>by cases e⟩
       case mp j=>
        subst hsi;obtain⟨z0,oo,z1,z2⟩:=hrs;rw[hid']at z1;cases z1;obtain⟨b2,y1,y2⟩:=z2 rfl;rw[q1]at y1;cases y1;exact⟨z0,_,hhp,λ_=>⟨b,by simp[Cx.turn],y2⟩⟩
       case rp t i off=>exact nT (c:=c) rfl rfl hrs
       case ov j g i=>subst hsi;exact⟨hrs.1,_,hhp,λt off m k xs g' p e=>by cases e⟩
       case oe j g i q p=>subst hsi;obtain⟨h0,o',h1,hpi,h2⟩:=hrs;exact⟨h0,_,hhp,hpi,λt off m e xs g' q' he=>by cases he⟩
       case bm f j=>subst hsi;obtain⟨p,hv,o',h1,h2⟩:=hrs;exact⟨p,hv,_,hhp,λcs e=>by cases e⟩
      have he:=wE hm (β':=some b) (o':=.mp k (aR es n val)) hblk (λ_ h=>h) hids;have hsz:w'.heap.size=c.w.heap.size:=by show(c.w.heap.setIfInBounds b _).size=_;simp
      have ht:Turn w0 M c id w' c.S (some b) (.mp k (aR es n val)):=by
       refine⟨rfl,rfl,rfl,by rw[hsz];exact NG _,hblk,λ_ h=>h,λb' hb'=>⟨by rw[hsz];exact hm.below b' hb',.inl hb'⟩,⟨_,hid'⟩,?_,λb' hb' _=>?_,hids⟩
       ·exact⟨b,ents',clock',by simp[Cx.turn],hs1,hl⟩
       ·cases hb';exact⟨by rw[hsz];exact(hm.live id b hlive).1,(hm.live id b hlive).2.1,.inl hlive⟩
      refine⟨.skip,c.turn id w' c.S (some b) (.mp k (aR es n val)),?_,ht.mem hm,he,by rw[bO,cC];rfl,.inr ⟨rfl,rfl⟩⟩;rw[q2,q5];exact fI hrun
     rcases lD (k:=k) n val es ents.toList 0 q4 with⟨f1,_,f3⟩|⟨j,e,f1,f2,f3,_,f5⟩
     ·refine fin (ents.push { key:=.int .i64 n,val:=r y,born:=clock }) (clock+1) ?_ ?_
      ·rw[f3,QH];exact q4.append ⟨⟨rfl,hE⟩,trivial⟩
      ·unfold Instr.mapUpdate;rw[run_ok (run_underlying hu c.w)];simp only[];rw[run_ok (MapKept.run_getObj_map q3)];simp only[];rw[run_ok hck,run_ok (MapKept.run_findKey hkt f1)];simp only[];exact MapKept.run_setObj_map _ q3
     ·refine fin (ents.modify (0+j) λe=>{ e with key:=.int .i64 n,val:=r y }) clock ?_ ?_
      ·rw[f5,Q3,Ox];refine LR.of_get (by rw[NA,Rb];exact q4.length) λi a m ha hm'=>?_
       rw[P9]at ha;rw[QY]at hm';by_cases hji:j=i
       ·subst hji;rw[NI rfl]at ha;rw[f2]at hm';split at ha
        ·cases ha;simp only[NI,Qa,OS,Nz]at hm';subst hm';exact⟨rfl,hE⟩
        ·cases ha
       ·rw[ND hji]at ha;obtain⟨m',e1,e2⟩:=q4.get i a ha;rw[e1]at hm';simp only[ND hji,Qa,OS,Nz,id_eq]at hm';subst hm';exact e2
      ·have hej:ents[0+j]?=some e:=by rw[Ox,<- NR];exact f2
       unfold Instr.mapUpdate;rw[run_ok (run_underlying hu c.w)];simp only[];rw[run_ok (MapKept.run_getObj_map q3)];simp only[];rw[run_ok hck,run_ok (MapKept.run_findKey hkt f1)];simp only[];rw[hej];simp only[OS,NN,f3];rw[run_ok (MapKept.run_keyThatStays (d:=.int .i64) (k:=.int .i64 n) rfl)];exact MapKept.run_setObj_map _ q3
    ·cases h
  ·rename_i es hid hkt;split at h
   ·rename_i f j;cases hal:(es.all λe=>!decide (e.1=n))with
    |false=>rw[hal]at h;cases h
    |true=>
     rw[hal]at h;simp only[NH,Out.ok.injEq,Oh]at h;obtain⟨rfl,rfl⟩:=h;have hid':=hh id _ hid;obtain⟨_,ob,t1,t2⟩:=aF hr hx;rw[hid']at t1;cases t1;obtain⟨b,q1,q2⟩:=t2 rfl;obtain⟨b',ents,clock,r1,q3,q4⟩:=hm.obj id _ hid';rw[q1]at r1;cases r1;obtain⟨q5,q6⟩:=aF hr hi;have hyr:=hr y;rw[hy]at hyr;obtain⟨s,es1,hsv⟩:=hyr;cases es1;have hck:=MapKept.run_checkKey (w:=c.w) (k:=.int .i64 n) hkt rfl false 9999;have hlive:Live c id b:=⟨q1,_,hid',rfl⟩
     have f1:=Gi n es ents.toList 0 q4 hal
     let ents':=ents.push { key:=.int .i64 n,val:=r y,born:=clock }
     obtain⟨hs1,hs2⟩:=MapKept.heap_set (o':=.map ents' (clock+1)) q3
     let w':World:={ c.w with heap:=c.w.heap.setIfInBounds b (.map ents' (clock+1)) }
     have hblk:∀j,j<c.w.heap.size->¬ Live c id j->w'.heap[j]?=c.w.heap[j]?:=λj _ hl=>hs2 j (by rintro rfl;exact hl hlive)
     have hhp:(c.turn id w' c.S (some b) (.fm (es++[(n,f,j)]))).hp id=some (.fm (es++[(n,f,j)])):=by simp[Cx.turn,upd]
     have hids:∀s v,s.ids=[id]->RepS c s v->RepS (c.turn id w' c.S (some b) (.fm (es++[(n,f,j)]))) s v:=by
      intro s v hsi hrs;cases s<;>simp only[S.ids,NY,OV,reduceCtorEq]at hsi
      case vw j g=>subst hsi;exact⟨hrs.1,_,hhp,λk xs gen hist frz e=>by cases e⟩
      case pv j g off len=>subst hsi;exact⟨hrs.1,_,hhp,λk xs gen hist frz e=>by cases e⟩
      case ptr j g i p=>
       subst hsi;obtain⟨z0,oo,z1,z2,_⟩:=hrs;exact⟨z0,_,hhp,z2,(λcs e=>by cases e),λk xs gen hist frz e=>by cases e⟩
      case mp j=>
       subst hsi;obtain⟨z0,oo,z1,z2⟩:=hrs;rw[hid']at z1;cases z1;obtain⟨b2,y1,y2⟩:=z2 rfl;rw[q1]at y1;cases y1;exact⟨z0,_,hhp,λ_=>⟨b,by simp[Cx.turn],y2⟩⟩
      case rp t i off=>exact nT (c:=c) rfl rfl hrs
      case ov j g i=>subst hsi;exact⟨hrs.1,_,hhp,λt off m k xs g' p e=>by cases e⟩
      case oe j g i q p=>subst hsi;obtain⟨h0,o',h1,hpi,h2⟩:=hrs;exact⟨h0,_,hhp,hpi,λt off m e xs g' q' he=>by cases he⟩
      case bm f j=>subst hsi;obtain⟨p,hv,o',h1,h2⟩:=hrs;exact⟨p,hv,_,hhp,λcs e=>by cases e⟩
     have he:=wE hm (β':=some b) (o':=.fm (es++[(n,f,j)])) hblk (λ_ h=>h) hids;have hsz:w'.heap.size=c.w.heap.size:=by show(c.w.heap.setIfInBounds b _).size=_;simp
     have ht:Turn w0 M c id w' c.S (some b) (.fm (es++[(n,f,j)])):=by
      refine⟨rfl,rfl,rfl,by rw[hsz];exact NG _,hblk,λ_ h=>h,λb' hb'=>⟨by rw[hsz];exact hm.below b' hb',.inl hb'⟩,⟨_,hid'⟩,?_,λb' hb' _=>?_,hids⟩
      ·refine⟨b,ents',clock+1,by simp[Cx.turn],hs1,?_⟩;show LR _ _ (ents.push _).toList;rw[QH];exact(q4.mono λ_ _ _ q=>⟨q.1,he.rep q.2⟩).append ⟨⟨rfl,he.rep hsv⟩,trivial⟩
      ·cases hb';exact⟨by rw[hsz];exact(hm.live id b hlive).1,(hm.live id b hlive).2.1,.inl hlive⟩
     refine⟨.skip,c.turn id w' c.S (some b) (.fm (es++[(n,f,j)])),?_,ht.mem hm,he,by rw[bO,cC];rfl,.inr ⟨rfl,rfl⟩⟩;rw[q2,q5];refine fI ?_;unfold Instr.mapUpdate;rw[run_ok (run_underlying hu c.w)];simp only[];rw[run_ok (MapKept.run_getObj_map q3)];simp only[];rw[run_ok hck,run_ok (MapKept.run_findKey hkt f1)];simp only[];exact MapKept.run_setObj_map _ q3
   ·cases h
  ·cases h
 ·split at h
  ·have h:=JM h;split at h<;>cases h
  ·cases h
 ·cases h
theorem wI (hm:Mem w0 M c)(hh:∀id o,hp id=some o->c.hp id=some o)(hr:∀x,RepV c (ρ x) (r x)){fv:Fn}{first captured:Array Operand}(ho:o.op=.makeFunc fv first captured)(h:core P A fid ρ hp o=.ok true v u):
  aU w0 M c ((execOp r o).run P c.w) v u:=by
 cases fv with
 |func f=>
  simp only[core,ho]at h;simp only[execOp,ho];split at h
  ·rename_i x hfst hcap;split at h
   ·rename_i id g i p hx;cases hq:(Nat.beq g 0&&Nat.beq i 0&&p.isEmpty)with
    |false=>rw[hq]at h;cases h
    |true=>
     rw[hq]at h;simp only[NH]at h;split at h
     ·rename_i k xs hid;simp only[Out.ok.injEq,Oh]at h;obtain⟨rfl,rfl⟩:=h;have hid':=hh id _ hid;have hxr:=aF hr hx;simp only[NM]at hq;obtain⟨_,ob,t1,_,t2,_⟩:=hxr;rw[hid']at t1;cases t1;obtain⟨b,q1,q2,_,_⟩:=t2 _ rfl (by simp);have hpn:p=[]:=Qe.1 hq.2;subst hpn;obtain⟨b',arr,r1,⟨T,fz,r2,r3⟩,r4⟩:=hm.obj id _ hid' (by simp);rw[q1]at r1;cases r1;have hlive:Live c id b:=⟨q1,_,hid',rfl⟩
      let S':Nat->Prop:=λb'=>c.S b'\/Live c id b'
      have hhp:(c.turn id c.w S' (some b) (.box [])).hp id=some (.box []):=by simp[Cx.turn,upd]
      have hids:∀s v,s.ids=[id]->RepS c s v->RepS (c.turn id c.w S' (some b) (.box [])) s v:=by
       intro s v hsi hrs;cases s<;>simp only[S.ids,NY,OV,reduceCtorEq]at hsi
       case vw j g=>subst hsi;exact⟨hrs.1,_,hhp,λk xs gen hist frz e=>by cases e⟩
       case pv j g off len=>subst hsi;exact⟨hrs.1,_,hhp,λk xs gen hist frz e=>by cases e⟩
       case ptr j g i p=>
        subst hsi;obtain⟨z0,oo,z1,z2,_⟩:=hrs;exact⟨z0,_,hhp,z2,(λcs e hne=>by cases e;exact(hne rfl).elim),λk xs gen hist frz e=>by cases e⟩
       case mp j=>exact cv (c:=c) rfl hhp (.inr rfl) (by simp[S.ids,hsi]) rfl hrs
       case rp t i off=>exact cv (c:=c) rfl hhp (.inr rfl) (by simp[S.ids,hsi]) rfl hrs
       case ov j g i=>exact cv (c:=c) rfl hhp (.inr rfl) (by simp[S.ids,hsi]) rfl hrs
       case oe j g i q p=>exact cv (c:=c) rfl hhp (.inr rfl) (by simp[S.ids,hsi]) rfl hrs
       case bm f j=>exact cv (c:=c) rfl hhp (.inr rfl) (by simp[S.ids,hsi]) rfl hrs
      have ht:Turn w0 M c id c.w S' (some b) (.box []):=by
       refine⟨rfl,rfl,rfl,NG _,λ_ _ _=>rfl,λ_ h=>.inl h,λb' hb'=>⟨?_,hb'⟩,⟨_,hid'⟩,λhne=>(hne rfl).elim,λb' _ hl=>(by cases hl),hids⟩;rcases hb' with hb'|hb'
       ·exact hm.below b' hb'
       ·exact(hm.live id b' hb').1
      have he:=ht.ext hm;refine⟨_,c.turn id c.w S' (some b) (.box []),aM (v:=.func (.func f) #[] #[.pointer (some ⟨b,0,none⟩)]) ?_,ht.mem hm,he,by rw[bO,cC];rfl,.inl ⟨_,rfl,_,rfl,?_⟩⟩
      ·have e1:first.map r=#[]:=by apply O5;rw[OO,hfst];rfl
       have e2:captured.map r=#[.pointer (some ⟨b,0,none⟩)]:=by
        apply O5;rw[OO,hcap];simp only[NV,OY,q2,aS,List.foldr_nil]
       rw[e1,e2];rfl
      ·match hal:arr.toList,r4 with
       |[],r4=>exact r4.elim
       |y::ys,r4=>
        obtain⟨r5,_⟩:=r4;refine⟨b,0,[y],.inr hlive,rfl,RepT.mono (w:=c.w) (Sb:=c.S) (λ_ _=>rfl) (λ_ h=>.inl h) r5,?_⟩;intro j v hj;cases j with
        |zero=>
         simp at hj;subst hj;have hy:arr[0]?=some y:=by rw[<- NR,hal];rfl
         simp only[World.cell?];show(match c.w.heap[b]? with|some (.cells cs T fz)=>_|_=>_)=_;rw[r2];simpa using hy
        |succ j=>simp at hj
     ·cases h
   ·cases h
  ·rename_i x hfst hcap;split at h
   ·rename_i id g i p hx;cases hq:(Nat.beq g 0&&Nat.beq i 0&&p.isEmpty)with
    |false=>rw[hq]at h;cases h
    |true=>
     rw[hq]at h;simp only[NH]at h;split at h
     ·rename_i c0 cr hid;simp only[okv,Out.ok.injEq,Oh]at h;obtain⟨rfl,rfl⟩:=h;have hid':=hh id _ hid;have hxr:=aF hr hx;simp only[NM]at hq;obtain⟨_,ob,t1,_,t2,_⟩:=hxr;rw[hid']at t1;cases t1;obtain⟨b,q1,q2,_,_⟩:=t2 _ rfl (by simp);have hpn:p=[]:=Qe.1 hq.2;subst hpn;refine .quiet hm (aM (v:=.func (.func f) #[.pointer (some ⟨b,0,none⟩)] #[]) ?_) (aB ⟨_,rfl,_,hid',λcs e _=>⟨b,q1,rfl⟩⟩);have e1:captured.map r=#[]:=by apply O5;rw[OO,hcap];rfl
      have e2:first.map r=#[.pointer (some ⟨b,0,none⟩)]:=by
       apply O5;rw[OO,hfst];simp only[NV,OY,q2,aS,List.foldr_nil]
      rw[e1,e2];rfl
     ·cases h
   ·cases h
  ·cases h
 |_=>simp[core,ho]at h
theorem Lh (hm:Mem w0 M c)(hM:ManR A c)(hte:c.te.te=A.te)(hh:∀id o,hp id=some o->c.hp id=some o)(hf:∀d,o.dst=some d->hp d=none->c.hp d=none)(hr:∀x,RepV c (ρ x) (r x))(hcv:∀v,r (.const v)=v)(h:core P A fid ρ hp o=.ok true v u):
  aU w0 M c ((execOp r o).run P c.w) v u:=by
 cases ho:o.op with
 |move x=>exact yQ hm hf hr (.inl ho) h
 |assign x=>exact yQ hm hf hr (.inr ho) h
 |alloc e=>exact D3 hm hf ho h
 |nilCheck x=>exact wH hm hh hr ho h
 |box e x=>exact I3 hm hf hr ho h
 |build t ps=>exact D1 hm hr ho h
 |buildSlice t n ps=>exact sB hm hh hf hr ho h
 |load t a=>exact G2 hm hM hh hr ho h
 |store t a x=>exact DW hm hh hr ho h
 |binOp op t x y ty=>exact D2 hm hte hr hcv ho h
 |unOp op t x=>exact G0 hm hr ho h
 |convert st dt x=>exact wJ hm hh hf hr ho h
 |makeInterface t x=>exact nD hm hte hr ho h
 |makeSlice t l cc=>exact tC hm hf hr ho h
 |slice t x lo hi mx=>exact DY hm hh hr ho h
 |fieldAddr t x f=>exact tE hm hh hr ho h
 |field t x f=>exact D0 hm hr ho h
 |indexAddr t x ix=>exact tD hm hM hh hr ho h
 |index t x ix=>exact DZ hm hr ho h
 |extract t ix=>exact yS hm hr ho h
 |makeMap t rv=>exact yR hm hf ho h
 |makeFunc fv a b=>exact wI hm hh hr ho h
 |lookup t x ix cm=>exact AT hm hM hh hr ho h
 |mapUpdate t x ix y=>exact lW hm hh hr (.inl ho) h
 |insert t x ix y=>exact lW hm hh hr (.inr ho) h
 |_=>simp[core,ho]at h
end
end Go.Eng
namespace Go.Eng
open Go.RowKit
structure sP (w0:World)(M:MS)(c:Cx)(I X:Nat->Prop)(c':Cx):Prop where
 te:TLe c.te c'.te
 samo:∀cid,¬ I cid->c'.te.ow cid=c.te.ow cid/\c'.te.cur cid=c.te.cur cid
 os:c'.w.os=c.w.os
 tape:c'.w.tape=c.w.tape
 output:c'.w.output=c.w.output
 size:c.w.heap.size<=c'.w.heap.size
 blk:∀b,b<c.w.heap.size->(∀id,I id->¬ Live c id b)->¬ X b->c'.w.heap[b]?=c.w.heap[b]?
 xs:∀b,X b->¬ c.S b/\(∀id,¬ Live c id b)/\(w0.heap.size<=b\/M.f b)
 sub:∀b,c.S b->c'.S b
 sup:∀b,c'.S b->b<c'.w.heap.size/\(c.S b\/(∃id,I id/\Live c id b)\/c.w.heap.size<=b)
 out:∀id,¬ I id->c'.hp id=c.hp id/\c'.β id=c.β id
 obj:∀id o,I id->c'.hp id=some o->RepO c' id o
 live:∀id b,I id->Live c' id b->¬ c'.S b/\Live c id b
 ids:∀id s v,I id->s.ids=[id]->RepS c s v->RepS c' s v
theorem sP.stab {w0:World}{M:MS}{c c':Cx}{I X:Nat->Prop}(hm:Mem w0 M c)(h:sP w0 M c I X c')(b:Nat)(hb:c.S b):c'.w.heap[b]?=c.w.heap[b]?:=
 h.blk b (hm.below b hb) (λid _ hl=>(hm.live id b hl).2.1 hb) λhx=>(h.xs b hx).1 hb
theorem sP.other {w0 : World} {M : MS} {c c' : Cx} {I X : Nat → Prop} (hm : Mem w0 M c) (h : sP w0 M c I X c') {j b : Nat} {o : Obj} (hj : ¬ I j)
    (hβ : c.β j = some b) (ho : c.hp j = some o) (hl : o.live = true ∨ o.isRow = true) : c'.w.heap[b]? = c.w.heap[b]? := by
  obtain ⟨x, hx⟩ := gY (hm.obj j o ho) hl hβ
  have hfz : o.live ≠ true → c.S b := by
    intro hv
    cases o with
    | mp k es => exact absurd rfl hv
    | fm es => exact absurd rfl hv
    | col => rcases hl with hl | hl <;> cases hl
    | box cs => rcases hl with hl | hl
                · exact (hv hl).elim
                · cases hl
    | row k xs gen hist frz =>
      have hf : frz = true := by simpa [Obj.live] using hv
      have := hm.obj j _ ho
      simp only [RepO, hβ] at this
      exact this.2.2 hf
  refine h.blk b (bE hx) (fun id hi hid => ?_) (fun hxx => ?_)
  · by_cases hv : o.live = true
    · have := hm.one j id b ⟨hβ, o, ho, hv⟩ hid
      subst this; exact hj hi
    · exact (hm.live id b hid).2.1 (hfz hv)
  · by_cases hv : o.live = true
    · exact (h.xs b hxx).2.1 j ⟨hβ, o, ho, hv⟩
    · exact (h.xs b hxx).1 (hfz hv)
theorem sP.ext {w0:World}{M:MS}{c c':Cx}{I X:Nat->Prop}(hm:Mem w0 M c)(h:sP w0 M c I X c'):ExtM c c':=by
 refine⟨h.te,h.stab hm,h.sub,λj s v hs hr=>?_⟩;by_cases hj:I j
 ·exact h.ids j s v hj hs hr
 ·refine RepS.sameM (id:=j) (c:=c) h.te (h.samo j hj) (h.stab hm) h.sub (h.out j hj).2 (λb o hb ho hrow=>h.other hm hj hb ho (.inr hrow)) (λo ho=>by rw[(h.out j hj).1];exact ho) hs hr
theorem sP.mem {w0:World}{M:MS}{c c':Cx}{I X:Nat->Prop}(hm:Mem w0 M c)(h:sP w0 M c I X c'):Mem w0 M c':=by
 have he:=h.ext hm;have hlive:∀j b,Live c' j b->(I j/\¬ c'.S b/\Live c j b)\/(¬ I j/\Live c j b):=by
  rintro j b hl;by_cases e:I j
  ·obtain⟨h1,h2⟩:=h.live j b e hl;exact .inl ⟨e,h1,h2⟩
  ·obtain⟨h1,h2⟩:=h.out j e;obtain⟨q1,o,q2,q3⟩:=hl;exact .inr ⟨e,by rw[<- h2];exact q1,o,by rw[<- h1];exact q2,q3⟩
 refine⟨⟨h.os.trans hm.fr.os,h.tape.trans hm.fr.tape,h.output.trans hm.fr.output,Oa hm.fr.size h.size,λb hb hM=>?_⟩,λb hb=>(h.sup b hb).1,λj o ho=>?_,λj b hl=>?_,λj j' b hl hl'=>?_,λb hb=>(h.sup b hb).2.elim (hm.sup b) (λq=>q.elim (λ⟨id,_,hl⟩=>.inr (hm.live id b hl).2.2) (λq=>.inr (.inl (Oa hm.fr.size q)))),λb hb=>h.sub b (hm.inf b hb)⟩
 ·refine(h.blk b (N1 hb hm.fr.size) (λid _ hl=>?_) (λhx=>?_)).trans (hm.fr.block b hb hM)
  ·rcases(hm.live id b hl).2.2 with q|q
   ·omega
   ·exact hM (.inl q)
  ·rcases(h.xs b hx).2.2 with q|q
   ·omega
   ·exact hM q
 ·by_cases e:I j
  ·exact h.obj j o e ho
  ·rw[(h.out j e).1]at ho;exact he.repO (h.out j e).2 (λb hb hl=>h.other hm e hb ho hl) (hm.obj j o ho)
 ·rcases hlive j b hl with⟨_,h1,h2⟩|⟨hj,h2⟩
  ·obtain⟨q1,q2,q3⟩:=hm.live j b h2;exact⟨N1 q1 h.size,h1,q3⟩
  ·obtain⟨q1,q2,q3⟩:=hm.live j b h2;refine⟨N1 q1 h.size,λhs=>?_,q3⟩;rcases(h.sup b hs).2 with r|⟨id,hi,r⟩|r
   ·exact q2 r
   ·have:=hm.one j id b h2 r;subst this;exact hj hi
   ·omega
 ·have h1:Live c j b:=by rcases hlive j b hl with⟨_,_,q⟩|⟨_,q⟩<;>exact q
  have h2:Live c j' b:=by rcases hlive j' b hl' with⟨_,_,q⟩|⟨_,q⟩<;>exact q
  exact hm.one j j' b h1 h2
def clC (te:TE)(w:World)(Sb:Nat->Prop):Cx:=⟨te,w,Sb,λ_=>none,λ_=>none⟩
theorem gi {te:TE}{w:World}{Sb:Nat->Prop}{c:Cx}(hte:TLe te c.te)(hst:∀b,Sb b->c.w.heap[b]?=w.heap[b]?)(hsub:∀b,Sb b->c.S b){s:S}{v:Value}(h:RepS (clC te w Sb) s v):RepS c s v:=by
 cases s with
 |vw id g=>obtain⟨_,o,h1,_⟩:=h;cases h1
 |pv id g off len=>obtain⟨_,o,h1,_⟩:=h;cases h1
 |ptr id g i p=>obtain⟨_,o,h1,_⟩:=h;cases h1
 |mp id=>obtain⟨_,o,h1,_⟩:=h;cases h1
 |ov id g i=>obtain⟨_,o,h1,_⟩:=h;cases h1
 |oe id g i j p=>obtain⟨_,o,h1,_⟩:=h;cases h1
 |bm f id=>obtain⟨_,_,o,h1,_⟩:=h;cases h1
 |rp t i off=>obtain⟨b,h1,h2⟩:=h;exact⟨b,hte.2 _ _ _ h1,h2⟩
 |rb t i=>obtain⟨b,h1,h2⟩:=h;exact⟨b,hte.2 _ _ _ h1,h2⟩
 |ref t r=>exact RefV.le hte h
 |nilP=>exact h
 |co=>exact h
 |clo f k x=>
  obtain⟨b,o,vs,h1,h2,h3,h4⟩:=h;exact⟨b,o,vs,hsub b h1,h2,RepT.move (w:=w) hte hst hsub h3,h4.of (hst b h1)⟩
 |sl k xs=>exact RepT.move (w:=w) hte hst hsub h
 |ipt k x p=>
  obtain⟨hp,b,o,vs,h1,h2,h3,h4⟩:=h;exact⟨hp,b,o,vs,hsub b h1,h2,RepT.move (w:=w) hte hst hsub h3,h4.of (hst b h1)⟩
 |undef=>exact h
 |bool b=>exact h
 |int k n=>exact h
 |str q=>exact h
 |err e=>show v=errV c.te e;rw[wG hte];exact h
 |fn f=>exact h
 |nilS=>exact h
 |mv k xs=>exact h
 |io k x=>exact h
theorem AZ {te:TE}{w:World}{Sb:Nat->Prop}{c:Cx}(hte:TLe te c.te)(hst:∀b,Sb b->c.w.heap[b]?=w.heap[b]?)(hsub:∀b,Sb b->c.S b){a:AV}{v:Value}(h:RepV (clC te w Sb) a v):RepV c a v:=by
 cases a with
 |undef=>trivial
 |val g cs=>
  cases g with
  |true=>obtain⟨arr,hv,hl⟩:=h;exact⟨arr,hv,hl.mono λ_ _ _=>gi hte hst hsub⟩
  |false=>obtain⟨s,hc,hs⟩:=h;exact⟨s,hc,gi hte hst hsub hs⟩
 |tup vs=>
  obtain⟨arr,hv,hl⟩:=h;refine⟨arr,hv,hl.mono λp _ u hu=>?_⟩;split at hu
  ·rename_i hp;rw[NI hp];obtain⟨a,h1,h2⟩:=hu;exact⟨a,h1,h2.mono λ_ _ _=>gi hte hst hsub⟩
  ·rename_i hp;rw[ND hp];obtain⟨a,h1,h2⟩:=hu;exact⟨a,h1,gi hte hst hsub h2⟩
def za (te:TE)(w:World)(Sb:Nat->Prop)(b:Nat)(cs:List S):Prop:=∃arr,bD w b arr/\LR (RepS (clC te w Sb)) cs (arr.toList.take cs.length)
def ArgRel (te:TE)(w:World)(Sb:Nat->Prop):AV->Value->Option Nat->Prop
 |.val false [.mv k xs],v,b=>bR te w Sb b k xs v
 |.val false [.io k x],v,b=>∃b',b=some b'/\v=.pointer (some ⟨b',0,none⟩)/\za te w Sb b' (bg k x)
 |a,v,b=>b=none/\RepV (clC te w Sb) a v
def Hand.blk (β:Nat->Option Nat)(h:Hand):Option Nat:=
 match h.mv,h.io with
 |id::_,_=>β id
 |[],(id,_)::_=>β id
 |[],[]=>none
theorem zx {c:Cx}{w0:World}{M:MS}(hm:Mem w0 M c){id:Nat}{k:K}{xs:List k.T}{gen:Nat}{hist:List (List k.T)}(ho:c.hp id=some (.row k xs gen hist false)){v:Value}(hv:RepS c (.vw id gen) v){S':Nat->Prop}(hs:∀b,c.S b->S' b):
  bR c.te c.w S' (c.β id) k xs v:=by
 obtain⟨_,o,e1,e2⟩:=hv;rw[ho]at e1;cases e1;have hnow:=(e2 _ _ _ _ _ rfl).2.1 rfl;have hro:=hm.obj id _ ho;unfold bR;simp only[cz]at hnow;unfold RepO at hro;cases hb:c.β id with
 |none=>
  rw[hb]at hnow;simp only[hb]at hro;exact⟨hnow.1,hro⟩
 |some b=>
  rw[hb]at hnow;simp only[hb]at hro;obtain⟨cap,arr,a,q1,q2,q3,q4,q5⟩:=hnow;obtain⟨⟨arr1,p1,p2,p3⟩,p4,_⟩:=hro;have:=q3.uniq p1;subst this;obtain⟨arr2,p5⟩:=p4 trivial;have:=q3.uniq p5.blk;subst this;exact⟨cap,arr,a,q1,q2,λhc=>⟨by simpa using(q5 hc).1,by simpa using(q5 hc).2⟩,p5,p2,λi x hx=>by
   obtain⟨vs,t1,t2⟩:=p3 i x hx;exact⟨vs,RepT.mono (λ_ _=>rfl) hs t1,t2⟩⟩
theorem km (k:K)(x:k.T):(∀k' xs,inj k x=.val false [.mv k' xs]->False)/\(∀k' y,inj k x=.val false [.io k' y]->False):=by
 cases k<;>simp[inj,bg,K.isAgg]
theorem lF {P:Program}{hp:Nat->Option Obj}{t:TypeId}{g:Bool}{cs:List S}{h:Hand}(hd:vU P hp t g cs=some h):∃k x,g=k.isAgg/\rei1 hp k cs=some x/\h=⟨inj k x,ba cs,[],[]⟩:=by
 unfold vU at hd;split at hd
 ·rename_i k _;cases hg:(g==k.isAgg)with
  |false=>rw[hg]at hd;cases hd
  |true=>
   rw[hg]at hd;simp only[NH]at hd;split at hd
   ·rename_i x hx;simp only[Nz]at hd;exact⟨k,x,by simpa using hg,hx,hd.symm⟩
   ·cases hd
 ·cases hd
theorem ru {P:Program}{c:Cx}{w0:World}{M:MS}(hm:Mem w0 M c){hp:Nat->Option Obj}(hh:∀id o,hp id=some o->c.hp id=some o){t:TypeId}{g:Bool}{cs:List S}{h:Hand}{v:Value}(hd:vU P hp t g cs=some h)(hr:RepV c (.val g cs) v){S':Nat->Prop}(hs:∀b,c.S b->S' b)(hi:∀id∈h.frz,∀b,c.β id=some b->S' b):
  ArgRel c.te c.w S' h.arg v none/\h.mv=[]/\h.io=[]:=by
 obtain⟨k,x,hg,hx,rfl⟩:=lF hd;refine⟨?_,rfl,rfl⟩;have hc:RepV (clC c.te c.w S') (inj k x) v:=by
  unfold inj;cases g with
  |true=>
   obtain⟨arr,rfl,hl⟩:=hr;rw[<- hg];exact⟨arr,rfl,(bj (c:=clC c.te c.w S') k x _).2 (dV hm hh hs hi hl hx)⟩
  |false=>
   obtain⟨s,rfl,hrs⟩:=hr;rw[<- hg];have hl:=(bj (c:=clC c.te c.w S') k x _).2 (dV hm hh hs hi (vs:=[v]) ⟨hrs,trivial⟩ hx)
   match hlv:bg k x,hl with
   |[s'],hl=>exact⟨s',rfl,hl.1⟩
 show ArgRel c.te c.w S' (inj k x) v none;unfold ArgRel;split
 ·rename_i e;exact((km k x).1 _ _ e).elim
 ·rename_i e;exact((km k x).2 _ _ e).elim
 ·exact⟨rfl,hc⟩
theorem zX {P:Program}{c:Cx}{w0:World}{M:MS}(hm:Mem w0 M c){hp:Nat->Option Obj}(hh:∀id o,hp id=some o->c.hp id=some o){mv:Bool}{t:TypeId}{a:AV}{h:Hand}{v:Value}(hd:gE P hp mv t a=some h)(hr:RepV c a v){S':Nat->Prop}(hs:∀b,c.S b->S' b)(hi:∀id∈h.frz,∀b,c.β id=some b->S' b):
  ArgRel c.te c.w S' h.arg v (h.blk c.β)/\(∀b,h.blk c.β=some b->∃id∈h.excl,Live c id b)/\(∀id∈h.excl,id∈a.ids)/\(h.mv=[]\/h.io=[])/\(∀id∈h.mv,∃k xs gen hist,c.hp id=some (.row k xs gen hist false)) /\
   (∀id k,(id,k)∈h.io->∃cs x,c.hp id=some (.box cs)/\cs≠[]/\cs.length=k.size/\h.arg=.val false [.io k x]/\h.blk c.β=c.β id)/\h.excl.length<=1:=by
 have trivialRest:h.mv=[]->h.io=[]->(∀b,h.blk c.β=some b->∃id∈h.excl,Live c id b)/\(∀id∈h.excl,id∈a.ids)/\(h.mv=[]\/h.io=[])/\(∀id∈h.mv,∃k xs gen hist,c.hp id=some (.row k xs gen hist false)) /\
   (∀id k,(id,k)∈h.io->∃cs x,c.hp id=some (.box cs)/\cs≠[]/\cs.length=k.size/\h.arg=.val false [.io k x]/\h.blk c.β=c.β id)/\h.excl.length<=1:=by
  intro e1 e2;refine⟨λb hb=>?_,λid hid=>?_,.inl e1,λid hid=>?_,λid k hid=>?_,by simp[Hand.excl,e1,e2]⟩
  ·simp[Hand.blk,e1,e2]at hb
  ·simp[Hand.excl,e1,e2]at hid
  ·rw[e1]at hid;simp at hid
  ·rw[e2]at hid;simp at hid
 unfold gE at hd;split at hd
 ·-- nil
  have hn:v=.slice none 0 0:=aT hr;cases mv with
  |true=>
   simp only[NH]at hd;split at hd
   ·split at hd
    ·simp only[Nz]at hd;subst hd;exact⟨⟨hn,rfl⟩,trivialRest rfl rfl⟩
    ·cases hd
   ·cases hd
  |false=>
   simp only[NS]at hd;obtain⟨p1,p2,p3⟩:=ru hm hh hd hr hs hi;exact⟨by rw[show h.blk c.β=none by simp[Hand.blk,p2,p3]];exact p1,trivialRest p2 p3⟩
 ·rename_i id g;have hv:=aT hr;cases mv with
  |true=>
   simp only[NH]at hd;split at hd
   ·rename_i k xs gen hist ho;cases hg:Nat.beq g gen with
    |false=>rw[hg]at hd;cases hd
    |true=>
     rw[hg]at hd;simp only[NH,Nz]at hd;subst hd;have hg:=NB hg;subst hg;have e1:=hh id _ ho;refine⟨zx hm e1 hv hs,λb hb=>⟨id,by simp[Hand.excl],hb,_,e1,rfl⟩,λj hj=>?_,.inr rfl,λj hj=>?_,λj k hj=>by simp at hj,by simp[Hand.excl]⟩
     ·simp[Hand.excl]at hj;subst hj;simp[AV.ids,ba,S.ids]
     ·simp at hj;subst hj;exact⟨_,_,_,_,e1⟩
   ·cases hd
  |false=>
   simp only[NS]at hd;obtain⟨p1,p2,p3⟩:=ru hm hh hd hr hs hi;exact⟨by rw[show h.blk c.β=none by simp[Hand.blk,p2,p3]];exact p1,trivialRest p2 p3⟩
 ·rename_i id g i p;have hv:=aT hr;cases hp0:p.isEmpty with
  |false=>rw[hp0]at hd;cases hd
  |true=>
   rw[hp0]at hd;simp only[NH]at hd;have hp1:p=[]:=Qe.1 hp0;subst hp1;split at hd
   ·rename_i cs e ho hu;cases hne:(!cs.isEmpty&&Nat.beq g 0&&Nat.beq i 0)with
    |false=>rw[hne]at hd;cases hd
    |true=>
     rw[hne]at hd;simp only[NH]at hd;split at hd
     ·rename_i k hk;split at hd
      ·rename_i x hx;simp only[Nz]at hd;subst hd;have e1:=hh id _ ho;have hcn:cs≠[]:=by rintro rfl;simp at hne
       obtain⟨_,ob,t1,_,t2,_⟩:=hv;rw[e1]at t1;cases t1;obtain⟨b,hb,ev,_,_⟩:=t2 cs rfl hcn;obtain⟨b',arr,q1,q2,q3⟩:=hm.obj id _ e1 hcn;rw[hb]at q1;cases q1;have hrx:=dV hm hh hs hi q3 hx;have hlen:cs.length=k.size:=q3.length.trans (RepT.len hrx);refine⟨⟨b,hb,by simpa[aS]using ev,arr,q2,?_⟩,λb' hb'=>⟨id,by simp[Hand.excl],hb',_,e1,by simp[Obj.live,hcn]⟩,λj hj=>?_,.inl rfl,λj hj=>by simp at hj,λj k' hj=>?_,by simp[Hand.excl]⟩
       ·have:=(bj (c:=clC c.te c.w S') k x _).2 hrx;have hll:(bg k x).length=cs.length:=this.length.trans q3.length.symm;rw[hll];exact this
       ·simp[Hand.excl]at hj;subst hj;simp[AV.ids,ba,S.ids]
       ·simp at hj;obtain⟨rfl,rfl⟩:=hj;exact⟨cs,x,e1,hcn,hlen,rfl,rfl⟩
      ·cases hd
     ·cases hd
   ·cases hd
 ·rename_i k x p;simp only[Nz]at hd;subst hd;have hv:=aT hr;obtain⟨q1,b,o,vs,q2,q3,q4,q5⟩:=hv;exact⟨⟨rfl,_,rfl,q1,b,o,vs,hs b q2,q3,RepT.mono (λ_ _=>rfl) hs q4,q5⟩,trivialRest rfl rfl⟩
 ·rename_i g cs _ _ _ _;obtain⟨p1,p2,p3⟩:=ru hm hh hd hr hs hi;exact⟨by rw[show h.blk c.β=none by simp[Hand.blk,p2,p3]];exact p1,trivialRest p2 p3⟩
 ·cases hd
end Go.Eng
namespace Go.Eng
open Go.RowKit
def LR3 {α β γ:Type}(R:α->β->γ->Prop):List α->List β->List γ->Prop
 |[],[],[]=>True
 |a::r,b::s,c::t=>R a b c/\LR3 R r s t
 |_,_,_=>False
def mvB (args:List AV)(bs:List (Option Nat))(b:Nat):Prop:=∃(j:Nat)(k:K)(xs:List k.T),args[j]?=some (AV.val false [S.mv k xs])/\bs[j]?=some (some b)
def tupA (arr:Array Value):Value:=if h:arr.size=1 then arr[0]else .tuple arr
def ResV (te:TE)(w':World)(S':Nat->Prop)(okb:Nat->Prop):List (Bool×K)->List (Bool×List S)->List Value->Prop
 |[],[],[]=>True
 |(true,_)::r,(_,[.sl k xs])::l,v::vs=>(∃ob,bR te w' S' ob k xs v/\∀b,ob=some b->okb b/\¬ S' b)/\ResV te w' S' okb r l vs
 |(false,_)::r,(g,cs)::l,v::vs=>RepV (clC te w' S') (.val g cs) v/\ResV te w' S' okb r l vs
 |_,_,_=>False
def pK (te:TE)(w':World)(S':Nat->Prop):List AV->List (Option Nat)->List (Bool×List S)->Prop
 |.val false [.io k _]::r,ob::bs,p::l=>(∃b,ob=some b/\za te w' S' b p.2/\¬ S' b/\p.2.length=k.size)/\pK te w' S' r bs l
 |.val false [.io _ _]::_,_,[]=>False
 |_::r,_::bs,l=>pK te w' S' r bs l
 |[],[],l=>l=[]
 |_,_,_=>False
structure CoD where
 cid:Nat
 t:Nat
 off:Nat
 m:Mode
 k:K
 xs:List k.T
def coAV (d:CoD):AV:=.val false [.co d.cid d.t d.off d.m d.k d.xs]
def isCo:AV->Bool
 |.val false [.co ..]=>true
 |_=>false
def coHp:List CoD->Nat->Option Obj
 |[],_=>none
 |d::r,id=>if d.cid=id then some (.col d.t d.off d.m d.k d.xs 0 none)else coHp r id
def coC (te:TE)(w:World)(Sb:Nat->Prop)(cos:List CoD):Cx:=⟨te,w,Sb,λ_=>none,coHp cos⟩
structure oX (A:Ann)(te:TE)(w:World)(Sb:Nat->Prop)(bs:List (Option Nat))(cos:List CoD):Prop where
 nod:(cos.map (·.cid)).Nodup
 r:ManR A (coC te w Sb cos)
 sep:∀l b,OwnX (coC te w Sb cos) l b->some b ∉ bs
def j9 (d d':CoD):Prop:=d'.cid=d.cid/\d'.t=d.t/\d'.off=d.off/\d'.m=d.m/\d'.k=d.k
def XOf (te:TE)(w:World)(Sb:Nat->Prop)(cos:List CoD)(b:Nat):Prop:=∃l,OwnX (coC te w Sb cos) l b
structure iH (A:Ann)(te te':TE)(w w':World)(Sb S':Nat->Prop)(args:List AV)(bs:List (Option Nat))(cos cos':List CoD):Prop where
 same:LR j9 cos cos'
 man:Man A te w ⟨λb=>some b∈bs,Sb,XOf te w Sb cos⟩ (coC te' w' S' cos')
 io:∀l b,OwnX (coC te' w' S' cos') l b->∀(j:Nat) k x,args[j]?=some (.val false [.io k x])->bs[j]? ≠ some (some b)
def Res (te:TE)(X Z:Nat->Prop)(w w':World)(Sb S':Nat->Prop)(args:List AV)(bs:List (Option Nat))(sg:Sig)(rr:sg.R)(v:Value):Prop:=
 ∃(arr:Array Value),v=tupA arr/\Fr w (λb=>some b∈bs\/X b) w'/\(∀b,Sb b->S' b)/\(∀b,S' b->b<w'.heap.size/\(Sb b\/w.heap.size<=b\/mvB args bs b)) /\
  ResV te w' S' (λb=>b<w'.heap.size/\(w.heap.size<=b\/mvB args bs b)/\¬ Z b) sg.res ((lvs sg.ks rr).take sg.res.length) arr.toList /\
  pK te w' S' args bs (((lvs sg.ks rr).drop sg.res.length).take (ioKs args).length)
def Glob (Gl:Nat->Option Go.Obj)(Sb:Nat->Prop)(w:World):Prop:=∀b o,Gl b=some o->Sb b/\w.heap[b]?=some o
def j8 (P:Program)(A:Ann)(Gl:Nat->Option Go.Obj)(C:ic):Prop:=
 ∀(sg:Sig) (f:Nat) (args:List AV) (cos:List CoD) (rr:sg.R),(∀a∈args,isCo a=false)->C sg f (args++cos.map coAV)=some rr ->
  (∃ fn, P.funcs[f]? = some fn /\ (fn.name == "runtime.NumGoroutine") = false /\ fn.body.isNone = false) /\
  ∀(te:TE) (w:World) (Sb:Nat->Prop) (vs:Array Value) (bs:List (Option Nat)),te.te=A.te->Glob Gl Sb w->(∀b,Sb b->b<w.heap.size)->LR3 (ArgRel te w Sb) args vs.toList bs ->
   (∀(j b:Nat),bs[j]?=some (some b)->b<w.heap.size/\¬ Sb b)->(∀(j j' b:Nat),bs[j]?=some (some b)->bs[j']?=some (some b)->j=j')->oX A te w Sb bs cos ->
   Calls P f vs w (λe w'=>∃v te' S' cos',e=.returned v/\Res te' (XOf te w Sb cos) (XOf te' w' S' cos') w w' Sb S' args bs sg rr v/\iH A te te' w w' Sb S' args bs cos cos' /\
    LR (λ(p:Bool×List S) (d:CoD)=>p.2=[.sl d.k d.xs]) ((lvs sg.ks rr).drop (sg.res.length+(ioKs args).length)) cos')
theorem xd {P : Program} {w : World} {f : Nat} {fn : Func} (h1 : P.funcs[f]? = some fn) (h2 : (fn.name == "runtime.NumGoroutine") = false) (h3 : fn.body.isNone = false) (vs : Array Value) : (callFunc f vs).run P w = .ok (.enter f vs) w := by
 unfold callFunc;rw[run_ok (show(program).run P w=.ok P w from rfl)];simp only[h1,h2,h3,Od,OE];rfl
theorem nB {a b:List Nat}(h:disj a b=true){x:Nat}(ha:x∈a)(hb:x∈b):False:=by
 unfold disj at h;have:=OW.1 h x ha;rw[OL.2 hb]at this;cases this
theorem sq:∀{l:List (List Nat×List Nat)},exOk l=true->∀(i j:Nat) p q,i≠j->l[i]?=some p->l[j]?=some q->∀x,x∈p.1->x∈q.2->False
 |[],_,i,j,p,q,_,hi,_=>by simp at hi
 |a::r,h,i,j,p,q,hij,hi,hj=>by
  simp only[exOk,NM]at h;intro x hx hy;cases i with
  |zero=>
   cases j with
   |zero=>exact hij rfl
   |succ j=>
    simp at hi hj;subst hi;have:=OW.1 h.1 q (NX hj);simp only[NM]at this;exact nB this.1 hx hy
  |succ i=>
   cases j with
   |zero=>
    simp at hi hj;subst hj;have:=OW.1 h.1 p (NX hi);simp only[NM]at this;exact nB this.2 hx hy
   |succ j=>exact sq h.2 i j p q (by omega) (by simpa using hi) (by simpa using hj) x hx hy
theorem pf {P:Program}{hp:Nat->Option Obj}:∀{m:List Bool} {ts:List TypeId} {args:List AV} {hs:List Hand},lG P hp m ts args=some hs->args.length=hs.length/\∀(j:Nat) a,args[j]?=some a->∃h b t,hs[j]?=some h/\gE P hp b t a=some h
 |m,ts,[],hs,h=>by
  have:hs=[]:=by
   cases ts<;>simp[lG]at h<;>first|exact h|exact h.symm
  subst this;exact⟨rfl,by simp⟩
 |m,t::ts,a::r,hs,h=>by
  simp only[lG]at h;split at h
  ·rename_i h1 hs1 e1 e2;simp only[Nz]at h;subst h;obtain⟨q1,q2⟩:=pf e2;refine⟨by simp[q1],λj x hx=>?_⟩;cases j with
   |zero=>simp at hx;subst hx;exact⟨h1,_,t,rfl,e1⟩
   |succ j=>simpa using q2 j x (by simpa using hx)
  ·cases h
 |m,[],a::r,hs,h=>by simp[lG]at h
theorem kX:∀{args:List AV} {hs:List Hand} {j:Nat} {a:AV} {h:Hand},args[j]?=some a->hs[j]?=some h->(DU args hs)[j]?=some (h.excl,a.ids++h.frz)
 |a::as,h::hs,0,_,_,h1,h2=>by simp at h1 h2;subst h1;subst h2;rfl
 |a::as,h::hs,j+1,_,_,h1,h2=>by simpa[DU]using kX (args:=as) (hs:=hs) (j:=j) (by simpa using h1) (by simpa using h2)
 |[],_,_,_,_,h1,_=>by simp at h1
 |_::_,[],_,_,_,_,h2=>by simp at h2
theorem EN {hp:Nat->Option Obj}{s:S}(h:cZ hp s≠ .none):∀id∈s.ids,∃k xs gen hist frz,hp id=some (.row k xs gen hist frz):=by
 intro id hid;cases s<;>simp only[S.ids,N5,Oc]at hid
 case vw j g=>
  subst hid;simp only[cZ]at h;split at h
  ·rename_i k xs gen hist frz hq;exact⟨_,_,_,_,_,hq⟩
  ·exact(h rfl).elim
 case pv j g off len=>
  subst hid;simp only[cZ]at h;split at h
  ·rename_i k xs gen hist frz hq;exact⟨_,_,_,_,_,hq⟩
  ·exact(h rfl).elim
 case ptr=>simp[cZ]at h
 case mp=>simp[cZ]at h
 case rp=>simp[cZ]at h
 case ov=>simp[cZ]at h
 case oe=>simp[cZ]at h
 case bm=>simp[cZ]at h
theorem Kr {hp:Nat->Option Obj}:∀(k:K)(cs:List S)(x:k.T)(r:List S),rei hp k cs=some (x,r)->∀id∈ba cs,id∈ba r\/∃k xs gen hist frz,hp id=some (.row k xs gen hist frz):=by
 intro k
 induction k with
 |prod a b iha ihb=>
  intro cs x r h id hid;simp only[rei]at h;split at h
  ·rename_i y r1 h1;split at h
   ·rename_i z r2 h2;cases h;rcases iha cs y r1 h1 id hid with q|q
    ·exact ihb r1 z r h2 id q
    ·exact .inr q
   ·cases h
  ·cases h
 |strct a ih=>
  intro cs x r h id hid;simp only[rei]at h;exact ih cs x r h id hid
 |slice e _=>
  intro cs x r h id hid
  match cs with
  |[]=>simp[rei]at h
  |s::cs=>
   simp only[rei]at h;simp only[ba,NU]at hid;have hr:r=cs/\cZ hp s≠ .none:=by
    split at h
    ·rename_i hq;cases h;exact⟨rfl,by rw[hq];simp⟩
    ·rename_i k' xs hq;split at h
     ·cases h;exact⟨rfl,by rw[hq];simp⟩
     ·cases h
    ·cases h
   rcases hid with q|q
   ·exact .inr (EN hr.2 id q)
   ·exact .inl (by rw[hr.1];exact q)
 |int k=>
  intro cs x r h id hid
  match cs with
  |.int k' n::cs=>
   simp only[rei]at h;cases hd:decide (k'=k)with
   |true=>rw[hd]at h;cases h;exact .inl (by simpa[ba,S.ids]using hid)
   |false=>rw[hd]at h;cases h
  |[]=>simp[rei]at h
  |.undef::_| .bool _::_| .str _::_| .err _::_| .fn _::_| .nilS::_| .sl _ _::_| .vw _ _::_| .pv _ _ _ _::_| .ptr _ _ _ _::_| .mp _::_| .clo _ _ _::_| .ipt _ _ _::_| .mv _ _::_| .io _ _::_| .nilP::_| .ref ..::_| .rb ..::_| .rp ..::_| .ov ..::_| .oe ..::_| .bm ..::_| .co ..::_=>simp[rei]at h
 |bool=>
  intro cs x r h id hid
  match cs with
  |.bool n::cs=>simp only[rei]at h;cases h;exact .inl (by simpa[ba,S.ids]using hid)
  |[]=>simp[rei]at h
  |.undef::_| .int _ _::_| .str _::_| .err _::_| .fn _::_| .nilS::_| .sl _ _::_| .vw _ _::_| .pv _ _ _ _::_| .ptr _ _ _ _::_| .mp _::_| .clo _ _ _::_| .ipt _ _ _::_| .mv _ _::_| .io _ _::_| .nilP::_| .ref ..::_| .rb ..::_| .rp ..::_| .ov ..::_| .oe ..::_| .bm ..::_| .co ..::_=>simp[rei]at h
 |str=>
  intro cs x r h id hid
  match cs with
  |.str n::cs=>simp only[rei]at h;cases h;exact .inl (by simpa[ba,S.ids]using hid)
  |[]=>simp[rei]at h
  |.undef::_| .int _ _::_| .bool _::_| .err _::_| .fn _::_| .nilS::_| .sl _ _::_| .vw _ _::_| .pv _ _ _ _::_| .ptr _ _ _ _::_| .mp _::_| .clo _ _ _::_| .ipt _ _ _::_| .mv _ _::_| .io _ _::_| .nilP::_| .ref ..::_| .rb ..::_| .rp ..::_| .ov ..::_| .oe ..::_| .bm ..::_| .co ..::_=>simp[rei]at h
 |err=>
  intro cs x r h id hid
  match cs with
  |.err n::cs=>simp only[rei]at h;cases h;exact .inl (by simpa[ba,S.ids]using hid)
  |[]=>simp[rei]at h
  |.undef::_| .int _ _::_| .bool _::_| .str _::_| .fn _::_| .nilS::_| .sl _ _::_| .vw _ _::_| .pv _ _ _ _::_| .ptr _ _ _ _::_| .mp _::_| .clo _ _ _::_| .ipt _ _ _::_| .mv _ _::_| .io _ _::_| .nilP::_| .ref ..::_| .rb ..::_| .rp ..::_| .ov ..::_| .oe ..::_| .bm ..::_| .co ..::_=>simp[rei]at h
 |fn=>
  intro cs x r h id hid
  match cs with
  |.fn n::cs=>simp only[rei]at h;cases h;exact .inl (by simpa[ba,S.ids]using hid)
  |[]=>simp[rei]at h
  |.undef::_| .int _ _::_| .bool _::_| .str _::_| .err _::_| .nilS::_| .sl _ _::_| .vw _ _::_| .pv _ _ _ _::_| .ptr _ _ _ _::_| .mp _::_| .clo _ _ _::_| .ipt _ _ _::_| .mv _ _::_| .io _ _::_| .nilP::_| .ref ..::_| .rb ..::_| .rp ..::_| .ov ..::_| .oe ..::_| .bm ..::_| .co ..::_=>simp[rei]at h
 |ref t=>
  intro cs x r h id hid
  match cs with
  |.ref t' n::cs=>
   simp only[rei]at h;cases hb:Nat.beq t' t with
   |false=>rw[hb]at h;cases h
   |true=>rw[hb]at h;cases h;exact .inl (by simpa[ba,S.ids]using hid)
  |.rb t' n::cs=>
   simp only[rei]at h;cases hb:Nat.beq t' t with
   |false=>rw[hb]at h;cases h
   |true=>rw[hb]at h;cases h;exact .inl (by simpa[ba,S.ids]using hid)
  |.nilP::cs=>simp only[rei]at h;cases h;exact .inl (by simpa[ba,S.ids]using hid)
  |[]=>simp[rei]at h
  |.undef::_| .int _ _::_| .bool _::_| .str _::_| .err _::_| .fn _::_| .nilS::_| .sl _ _::_| .vw _ _::_| .pv _ _ _ _::_| .ptr _ _ _ _::_| .mp _::_| .clo _ _ _::_| .ipt _ _ _::_| .mv _ _::_| .io _ _::_| .rp ..::_| .ov ..::_| .oe ..::_| .bm ..::_| .co ..::_=>simp[rei]at h
theorem vl {hp:Nat->Option Obj}{k:K}{cs:List S}{x:k.T}(h:rei1 hp k cs=some x):∀id∈ba cs,∃k xs gen hist frz,hp id=some (.row k xs gen hist frz):=by
 intro id hid;unfold rei1 at h;split at h
 ·rename_i y hy;rcases Kr k cs y [] hy id hid with q|q
  ·simp[ba]at q
  ·exact q
 ·cases h
theorem ry {P:Program}{hp:Nat->Option Obj}{t:TypeId}{g:Bool}{cs:List S}{h:Hand}(hd:vU P hp t g cs=some h):(h.io=[]->∀id∈h.frz,∃k xs gen hist frz,hp id=some (.row k xs gen hist frz))/\h.io=[]:=by
 obtain⟨k,x,_,hx,rfl⟩:=lF hd;exact⟨λ_=>vl hx,rfl⟩
theorem rA {P:Program}{hp:Nat->Option Obj}{mv:Bool}{t:TypeId}{a:AV}{h:Hand}(hd:gE P hp mv t a=some h):(h.io=[]->∀id∈h.frz,∃k xs gen hist frz,hp id=some (.row k xs gen hist frz))/\(BY a=false->h.io=[]):=by
 unfold gE at hd;split at hd
 ·cases mv with
  |true=>
   simp only[NH]at hd;split at hd
   ·split at hd
    ·simp only[Nz]at hd;subst hd;exact⟨λ_ id hid=>by simp at hid,λ_=>rfl⟩
    ·cases hd
   ·cases hd
  |false=>simp only[NS]at hd;obtain⟨p1,p2⟩:=ry hd;exact⟨p1,λ_=>p2⟩
 ·rename_i id g;cases mv with
  |true=>
   simp only[NH]at hd;split at hd
   ·rename_i k xs gen hist ho;cases hg:Nat.beq g gen with
    |false=>rw[hg]at hd;cases hd
    |true=>rw[hg]at hd;simp only[NH,Nz]at hd;subst hd;exact⟨λ_ id hid=>by simp at hid,λ_=>rfl⟩
   ·cases hd
  |false=>simp only[NS]at hd;obtain⟨p1,p2⟩:=ry hd;exact⟨p1,λ_=>p2⟩
 ·refine⟨λhio=>?_,λhp=>by simp[BY]at hp⟩;rename_i id g i p;cases hp0:p.isEmpty with
  |false=>rw[hp0]at hd;cases hd
  |true=>
   rw[hp0]at hd;simp only[NH]at hd;split at hd
   ·rename_i cs e ho hu;cases hne:(!cs.isEmpty&&Nat.beq g 0&&Nat.beq i 0)with
    |false=>rw[hne]at hd;cases hd
    |true=>
     rw[hne]at hd;simp only[NH]at hd;split at hd
     ·split at hd
      ·simp only[Nz]at hd;subst hd;simp at hio
      ·cases hd
     ·cases hd
   ·cases hd
 ·simp only[Nz]at hd;subst hd;exact⟨λ_ id hid=>by simp at hid,λ_=>rfl⟩
 ·obtain⟨p1,p2⟩:=ry hd;exact⟨p1,λ_=>p2⟩
 ·cases hd
theorem Ec {args:List AV}(h:eC args=false)(a:AV)(ha:a∈args):BY a=false:=by
 unfold eC at h;rw[List.any_eq_false]at h;simpa using h a ha
def scal:S->Bool
 |.bool _| .int _ _| .str _| .err _| .fn _| .ref _ _=>true
 |_=>false
theorem gB:∀(k:K)(x:k.T),k.rows=false->∀s∈bg k x,scal s=true
 |.int _,_,_,s,h=>by simp[bg]at h;subst h;rfl
 |.bool,_,_,s,h=>by simp[bg]at h;subst h;rfl
 |.str,_,_,s,h=>by simp[bg]at h;subst h;rfl
 |.err,_,_,s,h=>by simp[bg]at h;subst h;rfl
 |.fn,_,_,s,h=>by simp[bg]at h;subst h;rfl
 |.ref _,_,_,s,h=>by simp[bg]at h;subst h;rfl
 |.slice _,_,hr,s,h=>by simp[K.rows]at hr
 |.prod a b,x,hr,s,h=>by
  simp[K.rows]at hr;simp only[bg,NU]at h;rcases h with h|h
  ·exact gB a x.1 hr.1 s h
  ·exact gB b x.2 hr.2 s h
 |.strct a,x,hr,s,h=>gB a x hr s h
theorem vO:∀(ks:List K)(x:Ts ks),ks.any K.rows=false->∀p∈lvs ks x,∀s∈p.2,scal s=true
 |[],_,_,p,h=>by simp[lvs]at h
 |[k],x,hr,p,h=>by
  simp[lvs]at h;subst h;simp at hr;exact gB k x hr
 |k::k'::r,x,hr,p,h=>by
  simp only[lvs,NO]at h;simp only[List.any_cons,Ph]at hr;rcases h with rfl|h
  ·exact gB k x.1 hr.1
  ·exact vO (k'::r) x.2 (by simp only[List.any_cons,Ph];exact hr.2) p (by simpa using h)
theorem HI {c c':Cx}(hte:TLe c.te c'.te){s:S}{v:Value}(h:scal s=true)(hr:RepS c s v):RepS c' s v:=by
 cases s<;>simp[scal]at h<;>simp only[RepS]at hr ⊢<;>first|exact hr|(rw[wG hte];exact hr)|exact RefV.le hte hr
def y9 (c:Cx)(p:Bool×List S)(u:Value):Prop:=if p.1=true then ∃a,u=Value.agg a/\LR (RepS c) p.2 a.toList else ∃s,p.2=[s]/\RepS c s u
theorem vz {c:Cx}{p:Bool×List S}{u:Value}:y9 c p u ↔ RepV c (.val p.1 p.2) u:=by
 obtain⟨g,cs⟩:=p;cases g<;>simp[y9,RepV]
theorem lE:∀(ks:List K)(x:Ts ks),(lvs ks x).length=ks.length
 |[],_=>rfl
 |[_],_=>rfl
 |_::k'::r,x=>by simp only[lvs,NC];rw[lE (k'::r) x.2];rfl
theorem Dn {te:TE}{w':World}{S':Nat->Prop}{okb:Nat->Prop}:∀(ks:List K)(d:Option Nat)(own:List Bool)(comps l:List (Bool×List S))(u:Upd)(vals:List Value),dO d own comps=some (l,u)->ResV te w' S' okb (iM own ks) comps vals ->
  (u=[]/\∀c3:Cx,(∀p∈comps,∀s∈p.2,∀v,RepS (clC te w' S') s v->RepS c3 s v)->LR (y9 c3) l vals) \/
  (∃id k xs ob v,d=some id/\u=[(id,.row k xs 0 [] false)]/\bR te w' S' ob k xs v/\(∀b,ob=some b->okb b/\¬ S' b)/\(∃p∈comps,(.sl k xs:S)∈p.2) /\
   ∀c3:Cx,(∀p∈comps,∀s∈p.2,∀v,RepS (clC te w' S') s v->RepS c3 s v)->RepS c3 (.vw id 0) v->LR (y9 c3) l vals):=by
 intro ks
 induction ks with
 |nil=>
  intro d own comps l u vals h hr;have:comps=[]/\vals=[]:=by
   cases own<;>cases comps<;>cases vals<;>simp[iM,ResV]at hr ⊢
  obtain⟨rfl,rfl⟩:=this;have:l=[]/\u=[]:=by cases own<;>simp[dO]at h<;>first|exact⟨h.1.symm,h.2.symm⟩|exact h
  obtain⟨rfl,rfl⟩:=this;exact .inl ⟨rfl,λ_ _=>trivial⟩
 |cons k0 ks ih=>
  intro d own comps l u vals h hr;have hz:iM own (k0::ks)=(own.headD false,k0)::iM own.tail ks:=by cases own<;>rfl
  rw[hz]at hr
  match comps,vals,hr with
  |p::cr,v::vr,hr=>
   have plain:∀(o':List Bool),o'=own.tail->own.headD false=false->(∃l1 u1,dO d o' cr=some (l1,u1)/\l=p::l1/\u=u1) ->
     (u=[]/\∀c3:Cx,(∀q∈p::cr,∀s∈q.2,∀v,RepS (clC te w' S') s v->RepS c3 s v)->LR (y9 c3) l (v::vr)) \/
     (∃id k xs ob v',d=some id/\u=[(id,.row k xs 0 [] false)]/\bR te w' S' ob k xs v'/\(∀b,ob=some b->okb b/\¬ S' b)/\(∃q∈p::cr,(.sl k xs:S)∈q.2) /\
      ∀c3:Cx,(∀q∈p::cr,∀s∈q.2,∀v,RepS (clC te w' S') s v->RepS c3 s v)->RepS c3 (.vw id 0) v'->LR (y9 c3) l (v::vr)):=by
    intro o' ho' hown hh;subst ho';rw[hown]at hr;obtain⟨g,cs⟩:=p;simp only[ResV]at hr;obtain⟨hv,hr⟩:=hr;obtain⟨l1,u1,e1,rfl,rfl⟩:=hh;have head:∀c3:Cx,(∀q∈(g,cs)::cr,∀s∈q.2,∀v,RepS (clC te w' S') s v->RepS c3 s v)->y9 c3 (g,cs) v:=by
     intro c3 hg;rw[vz];cases g with
     |true=>obtain⟨arr,e,hl⟩:=hv;exact⟨arr,e,hl.mono λs hs v'=>hg (true,cs) (by simp) s hs v'⟩
     |false=>obtain⟨s,e,hs⟩:=hv;subst e;exact⟨s,rfl,hg (false,[s]) (by simp) s (by simp) v hs⟩
    rcases ih d own.tail cr l1 u vr e1 hr with⟨rfl,q⟩|⟨id,k,xs,ob,v',q1,q2,q3,q4,⟨p',q5,q6⟩,q7⟩
    ·exact .inl ⟨rfl,λc3 hg=>⟨head c3 hg,q c3 λq hq=>hg q (by simp[hq])⟩⟩
    ·exact .inr ⟨id,k,xs,ob,v',q1,q2,q3,q4,⟨p',by simp[q5],q6⟩,λc3 hg hv'=>⟨head c3 hg,q7 c3 (λq hq=>hg q (by simp[hq])) hv'⟩⟩
   match own,h with
   |[],h=>
    simp only[dO]at h;split at h
    ·rename_i l1 u1 e1;simp only[Nz,Ov]at h;exact plain [] rfl rfl ⟨l1,u1,e1,h.1.symm,h.2.symm⟩
    ·cases h
   |false::o,h=>
    simp only[dO]at h;split at h
    ·rename_i l1 u1 e1;simp only[Nz,Ov]at h;exact plain o rfl rfl ⟨l1,u1,e1,h.1.symm,h.2.symm⟩
    ·cases h
   |true::o,h=>
    simp only[List.headD_cons,List.tail_cons]at hr;obtain⟨g,cs⟩:=p
    match cs,hr with
    |[.sl k xs],hr=>
     simp only[ResV]at hr;obtain⟨⟨ob,hra,hok⟩,hr⟩:=hr;cases d with
     |none=>simp[dO]at h
     |some id=>
     simp only[dO]at h;cases e1:dO none o cr with
     |none=>rw[e1]at h;cases h
     |some q=>
      obtain⟨l1,u1⟩:=q;rw[e1]at h;simp only[Nz,Ov]at h;obtain⟨rfl,rfl⟩:=h;rcases ih none o cr l1 u1 vr e1 hr with⟨rfl,q⟩|⟨id',_,_,_,_,q1,_⟩
      ·refine .inr ⟨id,k,xs,ob,v,rfl,rfl,hra,hok,⟨(g,[.sl k xs]),by simp,by simp⟩,λc3 hg hv'=>⟨?_,q c3 λq hq=>hg q (by simp[hq])⟩⟩;rw[vz];exact⟨_,rfl,hv'⟩
      ·cases q1
  |[],_,hr=>cases own<;>simp[ResV]at hr
  |_::_,[],hr=>
   exfalso;unfold ResV at hr;split at hr<;>simp_all
end Go.Eng
namespace Go.Eng
open Go.RowKit
theorem bt:∀{cos:List CoD} {id:Nat} {o:Obj},coHp cos id=some o->∃d∈cos,d.cid=id/\o=.col d.t d.off d.m d.k d.xs 0 none
 |[],id,o,h=>by cases h
 |d::r,id,o,h=>by
  simp only[coHp]at h;by_cases e:d.cid=id
  ·rw[NI e]at h;cases h;exact⟨d,by simp,e,rfl⟩
  ·rw[ND e]at h;obtain⟨d',q1,q2⟩:=bt h;exact⟨d',by simp[q1],q2⟩
theorem fX:∀{cos:List CoD} {d:CoD},(cos.map (·.cid)).Nodup->d∈cos->coHp cos d.cid=some (.col d.t d.off d.m d.k d.xs 0 none)
 |[],d,_,h=>by cases h
 |a::r,d,hn,h=>by
  simp only[NV,Pn]at hn;simp only[coHp];rcases NO.1 h with rfl|h
  ·rw[NI rfl]
  ·rw[ND,fX hn.2 h];intro e;exact hn.1 (N9.2 ⟨d,h,e.symm⟩)
theorem jT:∀{cos cos':List CoD},LR j9 cos cos'->cos'.map (·.cid)=cos.map (·.cid)
 |[],[],_=>rfl
 |a::r,b::s,h=>by simp only[NV];rw[h.1.1,jT h.2]
 |[],_::_,h=>h.elim
 |_::_,[],h=>h.elim
theorem dU:∀{cos cos':List CoD},LR j9 cos cos'->∀d∈cos,∃d'∈cos',j9 d d'
 |[],[],_,d,h=>by cases h
 |a::r,b::s,h,d,hd=>by
  rcases NO.1 hd with rfl|hd
  ·exact⟨b,by simp,h.1⟩
  ·obtain⟨d',q1,q2⟩:=dU h.2 d hd;exact⟨d',by simp[q1],q2⟩
 |[],_::_,h,_,_=>h.elim
 |_::_,[],h,_,_=>h.elim
theorem bW:∀{cos cos':List CoD},LR j9 cos cos'->∀d'∈cos',∃d∈cos,j9 d d'
 |[],[],_,d,h=>by cases h
 |a::r,b::s,h,d,hd=>by
  rcases NO.1 hd with rfl|hd
  ·exact⟨a,by simp,h.1⟩
  ·obtain⟨d',q1,q2⟩:=bW h.2 d hd;exact⟨d',by simp[q1],q2⟩
 |[],_::_,h,_,_=>h.elim
 |_::_,[],h,_,_=>h.elim
theorem wQ.inj {l:List (Nat×Mode×K)}(h:wQ l){off:Nat}{m m':Mode}{k k':K}(h1:(off,m,k)∈l)(h2:(off,m',k')∈l):m=m'/\k=k':=by
 have sz:∀(m:Mode) (k:K),0<csz m k:=λm k=>by cases m<;>simp[csz];exact ln k
 rcases h.2 _ h1 _ h2 with e|e|e
 ·cases e;exact⟨rfl,rfl⟩
 ·have:=sz m k;simp at e;omega
 ·have:=sz m' k';simp at e;omega
theorem G4 {t t' off off':Nat}(h:off<64)(h':off'<64)(e:aX t off=aX t' off'):t=t'/\off=off':=by
 unfold aX at e;omega
theorem ManR.two {A:Ann}{c c':Cx}(hM:ManR A c)(hM':ManR A c'){cid t off t' off':Nat}{m m':Mode}{k k':K}{xs:List k.T}{xs':List k'.T}{g g':Nat}{p p':Option Nat}
  (h:c.hp cid=some (.col t off m k xs g p)) (h':c'.hp cid=some (.col t' off' m' k' xs' g' p')):t=t'/\off=off'/\m=m'/\k=k':=by
 obtain⟨h1,h2⟩:=hM.ci _ _ _ _ _ _ _ _ h;obtain⟨h3,h4⟩:=hM'.ci _ _ _ _ _ _ _ _ h';obtain⟨rfl,rfl⟩:=G4 ((hM.lay t).1 _ h2).1 ((hM'.lay t').1 _ h4).1 (h1.symm.trans h3);obtain⟨rfl,rfl⟩:=(hM.lay t).inj h2 h4;exact⟨rfl,rfl,rfl,rfl⟩
structure ch (A:Ann)(c1 c2:Cx)(S':Nat->Prop)(args:List AV)(bs:List (Option Nat))(ds cos':List CoD):Prop where
 hds:∀d∈ds,∃g,c1.hp d.cid=some (.col d.t d.off d.m d.k d.xs g none)
 nod:(ds.map (·.cid)).Nodup
 out:iH A c1.te c2.te c1.w c2.w c1.S S' args bs ds cos'
 fr:Fr c1.w (λb=>some b∈bs\/XOf c1.te c1.w c1.S ds b) c2.w
 hbs:∀b,some b∈bs->∃id,Live c1 id b
 sub:∀b,c1.S b->c2.S b
 s2:ds≠[]->c2.S=S'
 sup:∀b,c2.S b->c1.S b\/c1.w.heap.size<=b\/some b∈bs
 hp1:∀d∈cos',∃g,c2.hp d.cid=some (.col d.t d.off d.m d.k d.xs g none)
 hp2:∀cid,(∀d∈ds,d.cid≠cid)->∀t off m k (xs:List k.T) g p,c2.hp cid=some (.col t off m k xs g p) ↔ c1.hp cid=some (.col t off m k xs g p)
 lv:∀id b,Live c2 id b->(Live c1 id b/\(some b∈bs->∃(j:Nat) (k:K) (x:k.T),args[j]?=some (.val false [.io k x])/\bs[j]?=some (some b)))
section
variable {A:Ann} {te0:TE} {w0:World} {M:MS} {c1 c2:Cx} {S':Nat->Prop} {args:List AV} {bs:List (Option Nat)} {ds cos':List CoD}
theorem ch.nod' (h:ch A c1 c2 S' args bs ds cos'):(cos'.map (·.cid)).Nodup:=by rw[jT h.out.same];exact h.nod
theorem ch.cc (h:ch A c1 c2 S' args bs ds cos'){cid t off:Nat}{m:Mode}{k:K}{xs:List k.T}{g:Nat}{p:Option Nat}(hc:c2.hp cid=some (.col t off m k xs g p))(hp:∃d∈ds,d.cid=cid):
  (coC c2.te c2.w S' cos').hp cid=some (.col t off m k xs 0 none)/\p=none:=by
 obtain⟨d,hd,rfl⟩:=hp;obtain⟨d',hd',e1,_⟩:=dU h.out.same d hd;obtain⟨g',q⟩:=h.hp1 d' hd';rw[e1,hc]at q;cases q;refine⟨?_,rfl⟩;rw[<- e1];exact fX h.nod' hd'
theorem ch.cc0 (h:ch A c1 c2 S' args bs ds cos'){l:Lab}{b:Nat}(hx:OwnX (coC c1.te c1.w c1.S ds) l b):OwnX c1 l b:=by
 cases l with
 |man t i=>
  obtain⟨⟨cid,off,m,k,xs,g,p,hc⟩,hi⟩:=hx;obtain⟨d,hd,rfl,e⟩:=bt hc;obtain⟨g',q⟩:=h.hds d hd;cases e;exact⟨⟨_,_,_,_,_,_,_,q⟩,hi⟩
 |own cid i=>
  obtain⟨⟨t,off,m,k,xs,g,p,hc,hm,hl⟩,hi⟩:=hx;obtain⟨d,hd,rfl,e⟩:=bt hc;obtain⟨g',q⟩:=h.hds d hd;cases e;exact⟨⟨_,_,_,_,_,_,_,q,hm,hl⟩,hi⟩
def Lent (ds:List CoD):Lab->Prop
 |.man t _=>∃d∈ds,d.t=t
 |.own cid _=>∃d∈ds,d.cid=cid
theorem ch.lent0 {te:TE}{w:World}{Sb:Nat->Prop}{l:Lab}{b:Nat}(hx:OwnX (coC te w Sb ds) l b):Lent ds l:=by
 cases l with
 |man t i=>
  obtain⟨⟨cid,off,m,k,xs,g,p,hc⟩,hi⟩:=hx;obtain⟨d,hd,rfl,e⟩:=bt hc;cases e;exact⟨d,hd,rfl⟩
 |own cid i=>
  obtain⟨⟨t,off,m,k,xs,g,p,hc,hm,hl⟩,hi⟩:=hx;obtain⟨d,hd,rfl,e⟩:=bt hc;exact⟨d,hd,rfl⟩
theorem ch.lent' (h:ch A c1 c2 S' args bs ds cos'){l:Lab}:Lent cos' l ↔ Lent ds l:=by
 cases l with
 |man t i=>
  constructor
  ·rintro⟨d',hd',rfl⟩;obtain⟨d,hd,e⟩:=bW h.out.same d' hd';exact⟨d,hd,e.2.1.symm⟩
  ·rintro⟨d,hd,rfl⟩;obtain⟨d',hd',e⟩:=dU h.out.same d hd;exact⟨d',hd',e.2.1⟩
 |own cid i=>
  constructor
  ·rintro⟨d',hd',rfl⟩;obtain⟨d,hd,e⟩:=bW h.out.same d' hd';exact⟨d,hd,e.1.symm⟩
  ·rintro⟨d,hd,rfl⟩;obtain⟨d',hd',e⟩:=dU h.out.same d hd;exact⟨d',hd',e.1⟩
theorem ch.notFull (h:ch A c1 c2 S' args bs ds cos')(hM1:ManR A c1){cid t off:Nat}{m:Mode}{k:K}{xs:List k.T}{g:Nat}{p:Option Nat}(hc:c1.hp cid=some (.col t off m k xs g p))(hn:∀d∈ds,d.cid≠cid):
  c2.te.ι t=c1.te.ι t:=by
 refine h.out.man.f.same t λhf=>?_
 obtain⟨h1,h2⟩:=hM1.ci _ _ _ _ _ _ _ _ hc;obtain⟨off',m',k',xs',g',p',q⟩:=hf.2 _ h2;obtain⟨d',hd',e,_⟩:=bt q;obtain⟨d,hd,e'⟩:=bW h.out.same d' hd';exact hn d hd (by rw[<- e'.1,e,h1])
theorem ch.own2 (h:ch A c1 c2 S' args bs ds cos')(hM1:ManR A c1){l:Lab}{b:Nat}(hx:OwnX c2 l b):(Lent ds l/\OwnX (coC c2.te c2.w S' cos') l b)\/(¬ Lent ds l/\OwnX c1 l b):=by
 by_cases hl:Lent ds l
 ·refine .inl ⟨hl,?_⟩;cases l with
  |man t i=>
   obtain⟨d',hd',e⟩:=h.lent'.2 hl;subst e;exact⟨⟨d'.cid,_,_,_,_,_,_,fX h.nod' hd'⟩,hx.2⟩
  |own cid i=>
   obtain⟨⟨t,off,m,k,xs,g,p,hc,hm,hlt⟩,hi⟩:=hx;exact⟨⟨t,off,m,k,xs,_,_,(h.cc hc hl).1,hm,hlt⟩,hi⟩
 ·refine .inr ⟨hl,?_⟩;cases l with
  |man t i=>
   obtain⟨⟨cid,off,m,k,xs,g,p,hc⟩,hi⟩:=hx;have hn:∀d∈ds,d.cid≠cid:=by
    rintro d hd rfl;have q:=h.cc hc ⟨d,hd,rfl⟩;obtain⟨d',hd',e,e2⟩:=bt q.1;cases e2;exact hl (h.lent'.1 ⟨d',hd',rfl⟩)
   have hc1:=(h.hp2 cid hn _ _ _ _ _ _ _).1 hc;exact⟨⟨cid,off,m,k,xs,g,p,hc1⟩,by rw[<- h.notFull hM1 hc1 hn];exact hi⟩
  |own cid i=>
   obtain⟨⟨t,off,m,k,xs,g,p,hc,hm,hlt⟩,hi⟩:=hx;have hn:∀d∈ds,d.cid≠cid:=λd hd e=>hl ⟨d,hd,e⟩
   refine⟨⟨t,off,m,k,xs,g,p,(h.hp2 cid hn _ _ _ _ _ _ _).1 hc,hm,hlt⟩,?_⟩;have:=(h.out.man.f.samo cid λt off m k xs g p hq=>by
    obtain⟨d',hd',e,_⟩:=bt hq;obtain⟨d,hd,e'⟩:=bW h.out.same d' hd';exact hn d hd (by rw[<- e'.1,e])).1
   rw[<- this];exact hi
theorem ch.still (h:ch A c1 c2 S' args bs ds cos')(hM1:ManR A c1){l:Lab}{b:Nat}(hl:¬ Lent ds l)(hx:OwnX c1 l b):c2.w.heap[b]?=c1.w.heap[b]?:=by
 obtain⟨q1,q2,q3⟩:=hM1.sep l b hx;refine h.fr.block b q1 ?_;rintro(hb|⟨l',hb⟩)
 ·obtain⟨id,hid⟩:=h.hbs b hb;exact q3 id hid
 ·have:=hM1.one l l' b hx (h.cc0 hb);subst this;exact hl (ch.lent0 hb)
theorem ch.stab (h:ch A c1 c2 S' args bs ds cos')(hM1:ManR A c1)(hm1:Mem w0 M c1)(b:Nat)(hb:c1.S b):c2.w.heap[b]?=c1.w.heap[b]?:=by
 refine h.fr.block b (hm1.below b hb) ?_;rintro(hq|⟨l',hq⟩)
 ·obtain⟨id,hid⟩:=h.hbs b hq;exact(hm1.live id b hid).2.1 hb
 ·exact(hM1.sep l' b (h.cc0 hq)).2.1 hb
theorem ch.cells (h:ch A c1 c2 S' args bs ds cos')(hM1:ManR A c1){cid t off:Nat}{m:Mode}{k:K}{xs:List k.T}{g:Nat}{p:Option Nat}(hc:c1.hp cid=some (.col t off m k xs g p))(hn:∀d∈ds,d.cid≠cid)
  {i b:Nat} {arr:Array Value} (hi:c1.te.ι t i=some b) (hb:Blk c2.w b arr):∃arr0,Blk c1.w b arr0/\∀o,off<=o->o<off+csz m k->arr[o]?=arr0[o]?:=by
 have hh:cO c1 t:=⟨cid,off,m,k,xs,g,p,hc⟩
 by_cases hl:Lent ds (.man t i)
 ·have hl':=h.lent'.2 hl;obtain⟨d',hd',e⟩:=hl';subst e;have hlt:=(hM1.sep (.man d'.t i) b ⟨hh,hi⟩).1;obtain⟨arr0,q1,q2,q3⟩:=h.out.man.f.frc d'.t i b arr ⟨d'.cid,_,_,_,_,_,_,fX h.nod' hd'⟩ (h.out.man.f.tle.2 _ _ _ hi) hlt hb;refine⟨arr0,q1,λo ho1 ho2=>q3 o λcid2 off2 m2 k2 xs2 g2 p2 hq=>?_⟩;rintro⟨z1,z2⟩;obtain⟨r1,r2⟩:=h.out.man.r.ci _ _ _ _ _ _ _ _ hq;obtain⟨r3,r4⟩:=hM1.ci _ _ _ _ _ _ _ _ hc;obtain⟨d2,hd2,e2,_⟩:=bt hq;obtain⟨d3,hd3,e3⟩:=bW h.out.same d2 hd2;rcases(hM1.lay _).2 _ r4 _ r2 with e|e|e
  ·cases e;exact hn d3 hd3 (by rw[<- e3.1,e2,r1,r3])
  ·simp at e;omega
  ·simp at e;omega
 ·exact⟨arr,hb.of (h.still hM1 hl ⟨hh,hi⟩).symm,λ_ _ _=>rfl⟩
theorem ch.full (h:ch A c1 c2 S' args bs ds cos')(hM1:ManR A c1)(hM2:∀cid t off m k (xs:List k.T) g p,c2.hp cid=some (.col t off m k xs g p)->cid=aX t off/\(off,m,k)∈A.man t)(t:Nat):Full A c2 t ↔ Full A c1 t:=by
 have lay:=hM1.lay t;constructor
 ·rintro⟨h1,h2⟩;refine⟨h1,λd hd=>?_⟩;obtain⟨off,m,k,xs,g,p,q⟩:=h2 d hd;by_cases hp:∃e∈ds,e.cid=aX t d.1
  ·obtain⟨e,he,hee⟩:=hp;obtain⟨g',q'⟩:=h.hds e he;rw[hee]at q';obtain⟨e',he',es⟩:=dU h.out.same e he;obtain⟨g2,q2⟩:=h.hp1 e' he';rw[es.1,hee,q]at q2;have:t=e'.t:=by cases q2;rfl
   rw[es.2.1]at this;subst this;exact⟨_,_,_,_,_,_,q'⟩
  ·exact⟨off,m,k,xs,g,p,(h.hp2 _ (λe he hee=>hp ⟨e,he,hee⟩) _ _ _ _ _ _ _).1 q⟩
 ·rintro⟨h1,h2⟩;refine⟨h1,λd hd=>?_⟩;obtain⟨off,m,k,xs,g,p,q⟩:=h2 d hd;by_cases hp:∃e∈ds,e.cid=aX t d.1
  ·obtain⟨e,he,hee⟩:=hp;obtain⟨g',q'⟩:=h.hds e he;rw[hee,q]at q';have:t=e.t:=by cases q';rfl
   subst this;obtain⟨e',he',es⟩:=dU h.out.same e he;obtain⟨g2,q2⟩:=h.hp1 e' he';rw[es.1,hee,es.2.1]at q2;exact⟨_,_,_,_,_,_,q2⟩
  ·exact⟨off,m,k,xs,g,p,(h.hp2 _ (λe he hee=>hp ⟨e,he,hee⟩) _ _ _ _ _ _ _).2 q⟩
theorem ch.r (h:ch A c1 c2 S' args bs ds cos')(hM1:ManR A c1)(hm1:Mem w0 M c1):ManR A c2:=by
 have hO:=h.out.man;have pas:∀{cid t off:Nat} {m:Mode} {k:K} {xs:List k.T} {g:Nat} {p:Option Nat},c2.hp cid=some (.col t off m k xs g p) ->
   ((coC c2.te c2.w S' cos').hp cid=some (.col t off m k xs 0 none)/\p=none/\c2.S=S')\/(c1.hp cid=some (.col t off m k xs g p)/\∀d∈ds,d.cid≠cid):=by
  intro cid t off m k xs g p hc;by_cases hp:∃d∈ds,d.cid=cid
  ·refine .inl ⟨(h.cc hc hp).1,(h.cc hc hp).2,h.s2 ?_⟩;obtain⟨d,hd,_⟩:=hp;intro e;rw[e]at hd;cases hd
  ·have hn:∀d∈ds,d.cid≠cid:=λd hd e=>hp ⟨d,hd,e⟩
   exact .inr ⟨(h.hp2 cid hn _ _ _ _ _ _ _).1 hc,hn⟩
 have hci:∀cid t off m k (xs:List k.T) g p,c2.hp cid=some (.col t off m k xs g p)->cid=aX t off/\(off,m,k)∈A.man t:=by
  intro cid t off m k xs g p hc;rcases pas hc with⟨q,_⟩|⟨q,_⟩
  ·exact hO.r.ci _ _ _ _ _ _ _ _ q
  ·exact hM1.ci _ _ _ _ _ _ _ _ q
 have hmove:∀{k:K} {x:k.T} {cs:List Value},RepT c1.te c1.w c1.S k x cs->RepT c2.te c2.w c2.S k x cs:=λhq=>RepT.move hO.f.tle (h.stab hM1 hm1) h.sub hq
 have samo:∀cid,(∀d∈ds,d.cid≠cid)->c2.te.ow cid=c1.te.ow cid/\c2.te.cur cid=c1.te.cur cid:=λcid hn=>hO.f.samo cid λt off m k xs g p hq=>by
  obtain⟨d',hd',e,_⟩:=bt hq;obtain⟨d,hd,e'⟩:=bW h.out.same d' hd';exact hn d hd (by rw[<- e'.1,e])
 refine⟨hM1.lay,hci,λcid t off m k xs g p hc i=>?_,λt i b hh hi=>?_,λcid t off k xs g p hc i x b arr hx hi hb=>?_,λcid t off e xs g p hc i x hx=>?_,λcid t off e xs g p hc i es hx=>?_,λl b hx=>?_,λl l' b hx hx'=>?_⟩
 ·rcases pas hc with⟨q,_⟩|⟨q,hn⟩
  ·exact hO.r.dom _ _ _ _ _ _ _ _ q i
  ·rw[h.notFull hM1 q hn];exact hM1.dom _ _ _ _ _ _ _ _ q i
 ·rcases h.own2 hM1 (l:=.man t i) ⟨hh,hi⟩with⟨hl,q⟩|⟨hl,q⟩
  ·exact hO.r.box t i b q.1 q.2
  ·obtain⟨arr,q1,q2⟩:=hM1.box t i b q.1 q.2;exact⟨arr,q1.of (h.still hM1 hl q),q2⟩
 ·rcases pas hc with⟨q,_,hS⟩|⟨q,hn⟩
  ·have:=hO.r.dat _ _ _ k xs _ _ q i x b arr hx hi hb;rw[hS];exact this
  ·rw[h.notFull hM1 q hn]at hi;obtain⟨arr0,z1,z2⟩:=h.cells hM1 q hn hi hb;obtain⟨vs,r1,r2⟩:=hM1.dat _ _ _ k xs _ _ q i x b arr0 hx hi z1;refine⟨vs,hmove r1,λj v hv=>?_⟩;have hj:j<k.size:=by rw[<- RepT.len r1];exact(NJ.1 hv).1
   rw[z2 (off+j) (by omega) (by simp only[csz];omega)];exact r2 j v hv
 ·rcases pas hc with⟨q,hp,hS⟩|⟨q,hn⟩
  ·subst hp;have:=hO.r.own _ _ _ e xs _ _ q i x hx;rw[hS];exact this
  ·obtain⟨r1,r2⟩:=hM1.own _ _ _ e xs _ _ q i x hx;rw[(samo cid hn).1,(samo cid hn).2];refine⟨r1.move hO.f.tle (h.stab hM1 hm1) h.sub (λb hb=>h.still hM1 (l:=.own cid i) (λ⟨d,hd,e⟩=>hn d hd e) (hM1.ownB q (by simp) hx hb)),λhpi b arr hi hb=>?_⟩;rw[h.notFull hM1 q hn]at hi;obtain⟨arr0,z1,z2⟩:=h.cells hM1 q hn hi hb;rw[z2 off (NG _) (by simp[csz])];exact r2 hpi b arr0 hi z1
 ·rcases pas hc with⟨q,hp,hS⟩|⟨q,hn⟩
  ·exact hO.r.mpp _ _ _ e xs _ _ q i es hx
  ·obtain⟨b',ents,clock,r1,r2,r3,r4,r5⟩:=hM1.mpp _ _ _ e xs _ _ q i es hx;rw[(samo cid hn).1,(samo cid hn).2];refine⟨b',ents,clock,r1,r2,by rw[h.still hM1 (l:=.own cid i) (λ⟨d,hd,e⟩=>hn d hd e) (hM1.ownB q (by simp) hx r1)];exact r3,⟨r4.1.mono λ_ _ _ z=>⟨z.1,RepE.le hO.f.tle z.2⟩,r4.2⟩,λb arr hi hb=>?_⟩;rw[h.notFull hM1 q hn]at hi;obtain⟨arr0,z1,z2⟩:=h.cells hM1 q hn hi hb;rw[z2 off (NG _) (by simp[csz])];exact r5 b arr0 hi z1
 ·rcases h.own2 hM1 hx with⟨hl,q⟩|⟨hl,q⟩
  ·obtain⟨r1,r2,_⟩:=hO.r.sep l b q;have hne:ds≠[]:=by
    cases l with
    |man t i=>obtain⟨d,hd,_⟩:=hl;intro e;rw[e]at hd;cases hd
    |own cid i=>obtain⟨d,hd,_⟩:=hl;intro e;rw[e]at hd;cases hd
   refine⟨r1,by rw[h.s2 hne];exact r2,λid hlv=>?_⟩;obtain⟨z1,z2⟩:=h.lv id b hlv;rcases hO.f.wr l b q with y|y|⟨l',y⟩
   ·have:=(hm1.live id b z1).1;omega
   ·obtain⟨j,k,x,y1,y2⟩:=z2 y;exact h.out.io l b q j k x y1 y2
   ·exact(hM1.sep l' b (h.cc0 y)).2.2 id z1
  ·obtain⟨r1,r2,r3⟩:=hM1.sep l b q;refine⟨N1 r1 h.fr.size,λhs=>?_,λid hlv=>r3 id (h.lv id b hlv).1⟩;rcases h.sup b hs with y|y|y
   ·exact r2 y
   ·omega
   ·obtain⟨id,hid⟩:=h.hbs b y;exact r3 id hid
 ·have mix:∀l l' b,Lent ds l->OwnX (coC c2.te c2.w S' cos') l b->¬ Lent ds l'->OwnX c1 l' b->False:=by
   intro l l' b hl q hl' q';obtain⟨r1,r2,r3⟩:=hM1.sep l' b q';rcases hO.f.wr l b q with y|y|⟨l2,y⟩
   ·have y:c1.w.heap.size<=b:=y;omega
   ·obtain⟨id,hid⟩:=h.hbs b y;exact r3 id hid
   ·have:=hM1.one l' l2 b q' (h.cc0 y);subst this;exact hl' (ch.lent0 y)
  rcases h.own2 hM1 hx with⟨hl,q⟩|⟨hl,q⟩<;>rcases h.own2 hM1 hx' with⟨hl',q'⟩|⟨hl',q'⟩
  ·exact hO.r.one l l' b q q'
  ·exact(mix l l' b hl q hl' q').elim
  ·exact(mix l' l b hl' q' hl q).elim
  ·exact hM1.one l l' b q q'
theorem ch.man (h:ch A c1 c2 S' args bs ds cos')(hM1:Man A te0 w0 M c1)(hm1:Mem w0 M c1):Man A te0 w0 M c2:=by
 have hR:=h.r hM1.r hm1;have hO:=h.out.man;refine⟨hR,λl b hx=>?_,λt i b arr hh hi hlt hb=>?_,hM1.f.tle.trans hO.f.tle,λt hf=>?_,λcid hn=>?_,λt i b hi=>?_⟩
 ·rcases h.own2 hM1.r hx with⟨hl,q⟩|⟨hl,q⟩
  ·rcases hO.f.wr l b q with y|y|⟨l',y⟩
   ·exact .inl (Oa hm1.fr.size y)
   ·obtain⟨id,hid⟩:=h.hbs b y;exact(hm1.live id b hid).2.2.imp (λq=>q) .inl
   ·exact hM1.f.wr l' b (h.cc0 y)
  ·exact hM1.f.wr l b q
 ·have hcol:∀{cid t off:Nat} {m:Mode} {k:K} {xs:List k.T} {g:Nat} {p:Option Nat},c1.hp cid=some (.col t off m k xs g p)->∃(xs':List k.T) (g':Nat) (p':Option Nat),c2.hp cid=some (.col t off m k xs' g' p'):=by
   intro cid t off m k xs g p hc;by_cases hp:∃d∈ds,d.cid=cid
   ·obtain⟨d,hd,rfl⟩:=hp;obtain⟨d',hd',e⟩:=dU h.out.same d hd;obtain⟨g',q⟩:=h.hp1 d' hd';rw[e.1]at q;obtain⟨rfl,rfl,rfl,rfl⟩:=hM1.r.two hR hc q;exact⟨_,_,_,q⟩
   ·exact⟨xs,g,p,(h.hp2 cid (λd hd e=>hp ⟨d,hd,e⟩) _ _ _ _ _ _ _).2 hc⟩
  have hlt1:b<c1.w.heap.size:=N1 hlt hm1.fr.size;rcases h.own2 hM1.r (l:=.man t i) ⟨hh,hi⟩with⟨hl,q⟩|⟨hl,q⟩
  ·obtain⟨arr1,q1,q2,q3⟩:=hO.f.frc t i b arr q.1 q.2 hlt1 hb;have hi1:c1.te.ι t i=some b:=by
    rcases hO.f.newb t i b q.2 with y|y
    ·exact y
    ·have y:c1.w.heap.size<=b:=y;omega
   have hh1:cO c1 t:=by
    obtain⟨d,hd,e⟩:=hl;obtain⟨g,z⟩:=h.hds d hd;subst e;exact⟨_,_,_,_,_,_,_,z⟩
   obtain⟨arr0,p1,p2,p3⟩:=hM1.f.frc t i b arr1 hh1 hi1 hlt q1;refine⟨arr0,p1,p2.trans q2,λo ho=>?_⟩;rw[q3 o λcid off m k xs g p hc=>?_,p3 o λcid off m k xs g p hc=>?_]
   ·obtain⟨xs',g',p',z⟩:=hcol hc;exact ho cid off m k xs' g' p' z
   ·obtain⟨d',hd',e,e2⟩:=bt hc;obtain⟨g',z⟩:=h.hp1 d' hd';cases e2;exact ho _ _ _ _ _ _ _ z
  ·obtain⟨arr0,p1,p2,p3⟩:=hM1.f.frc t i b arr q.1 q.2 hlt (hb.of (h.still hM1.r hl q).symm);refine⟨arr0,p1,p2,λo ho=>p3 o λcid off m k xs g p hc=>?_⟩;obtain⟨xs',g',p',z⟩:=hcol hc;exact ho cid off m k xs' g' p' z
 ·have hf1:¬ Full A c1 t:=λq=>hf ((h.full hM1.r hR.ci t).2 q)
  rw[<- hM1.f.same t hf1];refine hO.f.same t λq=>hf1 ⟨q.1,λd hd=>?_⟩
  obtain⟨off,m,k,xs,g,p,z⟩:=q.2 d hd;obtain⟨d',hd',e,e2⟩:=bt z;obtain⟨d0,hd0,es⟩:=bW h.out.same d' hd';obtain⟨g',y⟩:=h.hds d0 hd0;cases e2;rw[<- es.1,e,<- es.2.1]at y;exact⟨_,_,_,_,_,_,y⟩
 ·have hn1:∀d∈ds,d.cid≠cid:=by
   rintro d hd rfl;obtain⟨d',hd',e⟩:=dU h.out.same d hd;obtain⟨g',q⟩:=h.hp1 d' hd';rw[e.1]at q;exact hn _ _ _ _ _ _ _ q
  have s1:=hO.f.samo cid λt off m k xs g p hq=>by
   obtain⟨d',hd',e,_⟩:=bt hq;obtain⟨d,hd,e'⟩:=bW h.out.same d' hd';exact hn1 d hd (by rw[<- e'.1,e])
  have s2:=hM1.f.samo cid λt off m k xs g p hq=>hn _ _ _ _ _ _ _ ((h.hp2 cid hn1 _ _ _ _ _ _ _).2 hq)
  exact⟨s1.1.trans s2.1,s1.2.trans s2.2⟩
 ·rcases hO.f.newb t i b hi with y|y
  ·exact hM1.f.newb t i b y
  ·exact .inr (Oa hm1.fr.size y)
end
end Go.Eng
namespace Go.Eng
open Go.RowKit
theorem vS {P:Program}{hp:Nat->Option Obj}{t:TypeId}{g:Bool}{cs:List S}{h:Hand}(hd:vU P hp t g cs=some h):h.io=[]/\(∀k x,h.arg≠ .val false [.io k x])/\(h.mv≠[]->∃k xs,h.arg=.val false [.mv k xs]):=by
 obtain⟨k,x,_,hx,rfl⟩:=lF hd;exact⟨rfl,λk' y e=>(km k x).2 k' y e,λh=>(h rfl).elim⟩
theorem Dx {P:Program}{hp:Nat->Option Obj}{mv:Bool}{t:TypeId}{a:AV}{h:Hand}(hd:gE P hp mv t a=some h):
  (∃id k x,h.io=[(id,k)]/\h.mv=[]/\h.arg=.val false [.io k x])\/(h.io=[]/\(∀k x,h.arg≠ .val false [.io k x])/\(h.mv≠[]->∃k xs,h.arg=.val false [.mv k xs])):=by
 unfold gE at hd;split at hd
 ·cases mv with
  |true=>
   simp only[NH]at hd;split at hd
   ·split at hd
    ·simp only[Nz]at hd;subst hd;exact .inr ⟨rfl,λ_ _=>by simp,λh=>(h rfl).elim⟩
    ·cases hd
   ·cases hd
  |false=>simp only[NS]at hd;exact .inr (vS hd)
 ·rename_i id g;cases mv with
  |true=>
   simp only[NH]at hd;split at hd
   ·rename_i k xs gen hist ho;cases hg:Nat.beq g gen with
    |false=>rw[hg]at hd;cases hd
    |true=>rw[hg]at hd;simp only[NH,Nz]at hd;subst hd;exact .inr ⟨rfl,λ_ _=>by simp,λ_=>⟨k,xs,rfl⟩⟩
   ·cases hd
  |false=>simp only[NS]at hd;exact .inr (vS hd)
 ·rename_i id g i p;cases hp0:p.isEmpty with
  |false=>rw[hp0]at hd;cases hd
  |true=>
   rw[hp0]at hd;simp only[NH]at hd;split at hd
   ·rename_i cs e ho hu;cases hne:(!cs.isEmpty&&Nat.beq g 0&&Nat.beq i 0)with
    |false=>rw[hne]at hd;cases hd
    |true=>
     rw[hne]at hd;simp only[NH]at hd;split at hd
     ·split at hd
      ·rename_i k _ x _;simp only[Nz]at hd;subst hd;exact .inl ⟨id,_,_,rfl,rfl,rfl⟩
      ·cases hd
     ·cases hd
   ·cases hd
 ·simp only[Nz]at hd;subst hd;exact .inr ⟨rfl,λk x e=>(by cases e),λe=>(e rfl).elim⟩
 ·exact .inr (vS hd)
 ·cases hd
theorem LR3.of_get {α β γ:Type}{R:α->β->γ->Prop}:∀{l:List α} {m:List β} {n:List γ},l.length=m.length->l.length=n.length->(∀(i:Nat) a b c,l[i]?=some a->m[i]?=some b->n[i]?=some c->R a b c)->LR3 R l m n
 |[],[],[],_,_,_=>trivial
 |a::r,b::s,c::t,h1,h2,h=>⟨h 0 a b c rfl rfl rfl,LR3.of_get (by simpa using h1) (by simpa using h2) λi x y z hx hy hz=>h (i+1) x y z (by simpa using hx) (by simpa using hy) (by simpa using hz)⟩
 |[],_::_,_,h1,_,_=>by simp at h1
 |_::_,[],_,h1,_,_=>by simp at h1
 |[],[],_::_,_,h2,_=>by simp at h2
 |_::_,_::_,[],_,h2,_=>by simp at h2
theorem Df {te : TE} {w' : World} {S' : Nat → Prop} {a : AV} {r : List AV} {ob : Option Nat} {bs : List (Option Nat)} {l : List (Bool × List S)} (ha : ∀ k x, a ≠ .val false [.io k x]) (h : pK te w' S' (a :: r) (ob :: bs) l) : pK te w' S' r bs l := by
  unfold pK at h
  split at h
  all_goals first
  | (simp_all; done)
  | (rename_i h1 h2 h3 h4; trace_state; simp_all; done)
theorem qA {te : TE} {w' : World} {S' : Nat → Prop} {β : Nat → Option Nat} : ∀ (hs : List Hand) (l : List (Bool × List S)),
    (∀ h ∈ hs, (∃ id k x, h.io = [(id, k)] ∧ h.mv = [] ∧ h.arg = .val false [.io k x]) ∨ (h.io = [] ∧ (∀ k x, h.arg ≠ .val false [.io k x]) ∧ (h.mv ≠ [] → ∃ k xs, h.arg = .val false [.mv k xs]))) →
    pK te w' S' (hs.map Hand.arg) (hs.map (Hand.blk β)) l →
    ∀ id, (∃ cs b k, (id, k) ∈ hs.flatMap Hand.io ∧ hget (ia (hs.flatMap Hand.io) l) id = some (.box cs) ∧ β id = some b ∧ za te w' S' b cs ∧ ¬ S' b ∧ cs.length = k.size) ∨ ((∀ k, (id, k) ∉ hs.flatMap Hand.io) ∧ hget (ia (hs.flatMap Hand.io) l) id = none)
  | [], l, _, _, id => by
    right
    refine ⟨by simp, ?_⟩
    simp [ia, hget]
  | h :: hs, l, hio, hr, id => by
    rcases hio h (by simp) with ⟨j, k, x, e1, e2, e3⟩ | ⟨e1, e2, _⟩
    · simp only [NV, e3] at hr
      match l, hr with
      | p :: l, hr =>
        simp only [pK] at hr
        obtain ⟨⟨b, hb, h1, h2, h3⟩, hr⟩ := hr
        have hbl : h.blk β = β j := by simp [Hand.blk, e1, e2]
        rw [hbl] at hb
        have e : (h :: hs).flatMap Hand.io = (j, k) :: hs.flatMap Hand.io := by simp [e1]
        rw [e]
        simp only [ia, hget]
        by_cases hj : j = id
        · subst hj
          left
          exact ⟨p.2, b, k, by simp, by simp, hb, h1, h2, h3⟩
        · have hbq : Nat.beq j id = false := by
            cases hq : Nat.beq j id with
            | true => exact (hj (NB hq)).elim
            | false => rfl
          rw [hbq]
          rcases qA hs l (fun h hh => hio h (by simp [hh])) hr id with ⟨cs, b', k', q1, q2⟩ | ⟨q1, q2⟩
          · exact .inl ⟨cs, b', k', by simp [q1], by simpa using q2⟩
          · right
            refine ⟨fun k' hk' => ?_, by simpa using q2⟩
            rcases NO.1 hk' with hk' | hk'
            · simp at hk'; exact hj hk'.1.symm
            · exact q1 k' hk'
      | [], hr => simp [pK] at hr
    · have e : (h :: hs).flatMap Hand.io = hs.flatMap Hand.io := by simp [e1]
      rw [e]
      have hr' : pK te w' S' (hs.map Hand.arg) (hs.map (Hand.blk β)) l := by
        simp only [NV] at hr
        exact Df e2 hr
      exact qA hs l (fun h hh => hio h (by simp [hh])) hr' id
theorem ga:∀(l:List Nat)(id:Nat),hget (nC l) id=if id∈l then some (.box [])else none
 |[],id=>by simp[nC,hget]
 |a::r,id=>by
  have ih:=ga r id;unfold nC at ih ⊢;simp only[NV,hget];by_cases h:a=id
  ·subst h;simp
  ·have hb:Nat.beq a id=false:=by
    cases hq:Nat.beq a id with
    |true=>exact(h (NB hq)).elim
    |false=>rfl
   rw[hb];simp only[NS,NO,Ne.symm h,false_or];exact ih
theorem Hu {arr:Array Value}{x:Value}(h:arr.toList=[x]):tupA arr=x:=by
 have:arr=#[x]:=by apply O5;simpa using h
 subst this;rfl
theorem Eo {arr:Array Value}(h:arr.toList.length≠1):tupA arr=.tuple arr:=by
 unfold tupA;rw[dif_neg (by simpa using h)]
theorem Bw {te:TE}{w':World}{S' okb:Nat->Prop}:∀(res:List (Bool×K))(l:List (Bool×List S))(vals:List Value),ResV te w' S' okb res l vals->vals.length=res.length
 |[],l,vals,h=>by cases l<;>cases vals<;>simp[ResV]at h ⊢
 |(o,k)::r,[],vals,h=>by cases o<;>cases vals<;>simp[ResV]at h
 |(o,k)::r,p::l,[],h=>by
  exfalso;unfold ResV at h;split at h<;>simp_all
 |(o,k)::r,p::l,v::vs,h=>by
  have:ResV te w' S' okb r l vs:=by
   unfold ResV at h;split at h<;>simp_all
  simp[Bw r l vs this]
theorem qG {tup:Bool}{d:Option Nat}{own:List Bool}{n:Nat}{io:List (Nat×K)}{vs l:List (Bool×List S)}{u:Upd}(h:dO d own (vs.take n)=some (l,u)):j3 tup d own n io vs=((bif tup then .tup l else oneV l),u++ia io (vs.drop n)):=by
 unfold j3;rw[h]
theorem qH {tup:Bool}{d:Option Nat}{own:List Bool}{n:Nat}{io:List (Nat×K)}{vs:List (Bool×List S)}(h:dO d own (vs.take n)=none):j3 tup d own n io vs=(.undef,ia io (vs.drop n)):=by
 unfold j3;rw[h]
theorem I1 {k:K}(xs:List k.T):cst k k xs=some xs:=by unfold cst;rw[dif_pos rfl]
theorem sE {hp:Nat->Option Obj}:∀{cids:List Nat} {l:List (AV×K)},yX hp cids=some l->∃ds:List CoD,l=ds.map (λd=>(coAV d,K.slice d.k))/\LR (λ(cid:Nat)(d:CoD)=>d.cid=cid/\∃g,hp cid=some (.col d.t d.off d.m d.k d.xs g none)) cids ds
 |[],l,h=>by simp[yX]at h;subst h;exact⟨[],rfl,trivial⟩
 |cid::r,l,h=>by
  simp only[yX]at h;split at h
  ·rename_i a l' h1 h2;simp only[Nz]at h;subst h;obtain⟨ds,rfl,hl⟩:=sE h2;unfold Mz at h1;split at h1
   ·rename_i t off m k xs g hq;simp only[Nz]at h1;subst h1;exact⟨⟨cid,t,off,m,k,xs⟩::ds,rfl,⟨rfl,g,hq⟩,hl⟩
   ·cases h1
  ·cases h
theorem Fw {hp:Nat->Option Obj}:∀{cids:List Nat} {ds:List CoD},LR (λ(cid:Nat)(d:CoD)=>d.cid=cid/\∃g,hp cid=some (.col d.t d.off d.m d.k d.xs g none)) cids ds->ds.map (·.cid)=cids
 |[],[],_=>rfl
 |a::r,b::s,h=>by simp only[NV];rw[h.1.1,Fw h.2]
 |[],_::_,h=>h.elim
 |_::_,[],h=>h.elim
theorem oQ:∀{l:List Nat},dupF l=true->l.Nodup
 |[],_=>P7
 |a::r,h=>by
  simp only[dupF,NM,Oz]at h;refine Pn.2 ⟨λhm=>?_,oQ h.2⟩;rw[OL.2 hm]at h;cases h.1
theorem yW {hp:Nat->Option Obj}:∀{cids:List Nat} {ds cos':List CoD} {l:List (Bool×List S)},LR (λ(cid:Nat)(d:CoD)=>d.cid=cid/\∃g,hp cid=some (.col d.t d.off d.m d.k d.xs g none)) cids ds->LR j9 ds cos' ->
  LR (λ(p:Bool×List S) (d:CoD)=>p.2=[.sl d.k d.xs]) l cos'->dupF cids=true ->
  ∀id,(id∈cids/\∃d'∈cos',d'.cid=id/\∃g,hget (wL hp cids l) id=some (.col d'.t d'.off d'.m d'.k d'.xs (g+1) none)/\∃(xs:List d'.k.T),hp id=some (.col d'.t d'.off d'.m d'.k xs g none))\/(id ∉ cids/\hget (wL hp cids l) id=none)
 |[],[],[],[],_,_,_,_,id=>.inr ⟨by simp,rfl⟩
 |cid::r,d::ds,d'::cos',p::l,h1,h2,h3,hn,id=>by
  obtain⟨⟨rfl,g,hq⟩,h1⟩:=h1;obtain⟨⟨e1,e2,e3,e4,e5⟩,h2⟩:=h2;obtain⟨hp2,h3⟩:=h3;simp only[dupF,NM,Oz]at hn;have hnm:d.cid ∉ r:=λhm=>by rw[OL.2 hm]at hn;cases hn.1
  obtain⟨dc,dt,do',dm,dk,dxs⟩:=d;obtain⟨dc',dt',do2,dm',dk',dxs'⟩:=d';simp only at e1 e2 e3 e4 e5 hq hp2 hnm;subst e1;subst e2;subst e3;subst e4;subst e5;simp only[wL,hq,hp2,I1,hget];by_cases hj:dc'=id
  ·subst hj;exact .inl ⟨by simp,_,Om,rfl,g,by simp,dxs,hq⟩
  ·have hb:Nat.beq dc' id=false:=by
    cases q:Nat.beq dc' id with
    |true=>exact(hj (NB q)).elim
    |false=>rfl
   rw[hb];simp only[NS];rcases yW h1 h2 h3 hn.2 id with⟨q1,d2,q2,q3⟩|⟨q1,q2⟩
   ·exact .inl ⟨by simp[q1],d2,by simp[q2],q3⟩
   ·exact .inr ⟨by simp[q1,Ne.symm hj],q2⟩
 |[],_::_,_,_,h,_,_,_,_=>h.elim
 |_::_,[],_,_,h,_,_,_,_=>h.elim
 |_,[],_::_,_,_,h,_,_,_=>h.elim
 |_,_::_,[],_,_,h,_,_,_=>h.elim
 |_,_,[],_::_,_,_,h,_,_=>h.elim
 |_,_,_::_,[],_,_,h,_,_=>h.elim
theorem Md (k:K)(x:k.T):isCo (inj k x)=false:=by
 cases k<;>simp[inj,bg,K.isAgg,isCo]
theorem vT {P:Program}{hp:Nat->Option Obj}{t:TypeId}{g:Bool}{cs:List S}{h:Hand}(hd:vU P hp t g cs=some h):isCo h.arg=false:=by
 obtain⟨k,x,_,hx,rfl⟩:=lF hd;exact Md k x
theorem Dy {P:Program}{hp:Nat->Option Obj}{mv:Bool}{t:TypeId}{a:AV}{h:Hand}(hd:gE P hp mv t a=some h):isCo h.arg=false:=by
 unfold gE at hd;split at hd
 ·cases mv with
  |true=>
   simp only[NH]at hd;split at hd
   ·split at hd
    ·simp only[Nz]at hd;subst hd;rfl
    ·cases hd
   ·cases hd
  |false=>simp only[NS]at hd;exact vT hd
 ·rename_i id g;cases mv with
  |true=>
   simp only[NH]at hd;split at hd
   ·rename_i k xs gen hist ho;cases hg:Nat.beq g gen with
    |false=>rw[hg]at hd;cases hd
    |true=>rw[hg]at hd;simp only[NH,Nz]at hd;subst hd;rfl
   ·cases hd
  |false=>simp only[NS]at hd;exact vT hd
 ·rename_i id g i p;cases hp0:p.isEmpty with
  |false=>rw[hp0]at hd;cases hd
  |true=>
   rw[hp0]at hd;simp only[NH]at hd;split at hd
   ·rename_i cs e ho hu;cases hne:(!cs.isEmpty&&Nat.beq g 0&&Nat.beq i 0)with
    |false=>rw[hne]at hd;cases hd
    |true=>
     rw[hne]at hd;simp only[NH]at hd;split at hd
     ·split at hd
      ·simp only[Nz]at hd;subst hd;rfl
      ·cases hd
     ·cases hd
   ·cases hd
 ·simp only[Nz]at hd;subst hd;rfl
 ·exact vT hd
 ·cases hd
theorem uD:∀(io:List (Nat×K))(l:List (Bool×List S)),ia io l=ia io (l.take io.length)
 |[],l=>by cases l<;>rfl
 |_::r,[]=>by simp[ia]
 |(id,k)::r,p::l=>by simp only[ia,NC,List.take_succ_cons];rw[uD r l]
theorem uE:∀(hs:List Hand),(∀h∈hs,(∃id k x,h.io=[(id,k)]/\h.mv=[]/\h.arg=.val false [.io k x])\/(h.io=[]/\(∀k x,h.arg≠ .val false [.io k x])/\(h.mv≠[]->∃k xs,h.arg=.val false [.mv k xs]))) ->
  (∀h∈hs,isCo h.arg=false)->(ioKs (hs.map Hand.arg)).length=(hs.flatMap Hand.io).length
 |[],_,_=>rfl
 |h::hs,hi,hc=>by
  have ih:=uE hs (λh hh=>hi h (by simp[hh])) (λh hh=>hc h (by simp[hh]));rw[OP,Ny,<- ih];rcases hi h (by simp)with⟨id,k,x,q1,q2,q3⟩|⟨q1,q2,_⟩
  ·rw[q1,NV,q3];simp[ioKs];omega
  ·have hq:isCo h.arg=false:=hc h (by simp);rw[q1,NV];have:∀(a:AV) (r:List AV),(∀k x,a≠ .val false [.io k x])->isCo a=false->ioKs (a::r)=ioKs r:=by
    intro a r h1 h2
    conv=>lhs;unfold ioKs
    split
    ·rename_i e;cases e
    ·rename_i k x r' e;simp only[NY]at e;exact(h1 _ _ e.1).elim
    ·rename_i e;simp only[NY]at e;rw[e.1]at h2;simp[isCo]at h2
    ·rename_i e;simp only[NY]at e;rw[e.2]
   rw[this _ _ q2 hq];simp
theorem Jx {te:TE}{w w':World}{Sb Sb':Nat->Prop}{cos:List CoD}{l:Lab}{b:Nat}(h:OwnX (coC te w Sb cos) l b):OwnX (coC te w' Sb' cos) l b:=by
 cases l<;>exact h
theorem Ih {A:Ann}{c:Cx}(hM:ManR A c){ds:List CoD}(hn:(ds.map (·.cid)).Nodup)(hd:∀d∈ds,∃g,c.hp d.cid=some (.col d.t d.off d.m d.k d.xs g none)):ManR A (coC c.te c.w c.S ds):=by
 have up:∀{cid t off:Nat} {m:Mode} {k:K} {xs:List k.T} {g:Nat} {p:Option Nat},(coC c.te c.w c.S ds).hp cid=some (.col t off m k xs g p)->∃g',c.hp cid=some (.col t off m k xs g' none)/\p=none:=by
  intro cid t off m k xs g p h;obtain⟨d,hd',rfl,e⟩:=bt h;obtain⟨g',q⟩:=hd d hd';cases e;exact⟨g',q,rfl⟩
 have held:∀{t},cO (coC c.te c.w c.S ds) t->cO c t:=by
  rintro t ⟨cid,off,m,k,xs,g,p,h⟩;obtain⟨g',q,_⟩:=up h;exact⟨cid,off,m,k,xs,g',none,q⟩
 have own:∀{l b},OwnX (coC c.te c.w c.S ds) l b->OwnX c l b:=by
  intro l b h;cases l with
  |man t i=>exact⟨held h.1,h.2⟩
  |own cid i=>
   obtain⟨⟨t,off,m,k,xs,g,p,q1,q2⟩,q3⟩:=h;obtain⟨g',q,_⟩:=up q1;exact⟨⟨t,off,m,k,xs,g',none,q,q2⟩,q3⟩
 refine⟨hM.lay,λcid t off m k xs g p h=>?_,λcid t off m k xs g p h i=>?_,λt i b hh hi=>hM.box t i b (held hh) hi,λcid t off k xs g p h=>?_,λcid t off e xs g p h=>?_,λcid t off e xs g p h=>?_,λl b hb=>?_,λl l' b hb hb'=>hM.one l l' b (own hb) (own hb')⟩
 ·obtain⟨g',q,_⟩:=up h;exact hM.ci _ _ _ _ _ _ _ _ q
 ·obtain⟨g',q,_⟩:=up h;exact hM.dom _ _ _ _ _ _ _ _ q i
 ·obtain⟨g',q,_⟩:=up h;exact hM.dat _ _ _ _ _ _ _ q
 ·obtain⟨g',q,rfl⟩:=up h;exact hM.own _ _ _ _ _ _ _ q
 ·obtain⟨g',q,_⟩:=up h;exact hM.mpp _ _ _ _ _ _ _ q
 ·obtain⟨q1,q2,q3⟩:=hM.sep l b (own hb);refine⟨q1,q2,λid hl=>?_⟩;obtain⟨z,_⟩:=hl;cases z
theorem Man.frame {A:Ann}{te0:TE}{w0:World}{M M':MS}{c:Cx}(h:Man A te0 w0 M c)(hm:∀b,M.f b->M'.f b):Man A te0 w0 M' c:=
 ⟨h.r,λl b hb=>(h.f.wr l b hb).imp id (hm b),h.f.frc,h.f.tle,h.f.same,h.f.samo,h.f.newb⟩
theorem iH.sb {A:Ann}{te te':TE}{w w':World}{Sb Sb2 S':Nat->Prop}{args:List AV}{bs:List (Option Nat)}{cos cos':List CoD}(h:iH A te te' w w' Sb S' args bs cos cos'):iH A te te' w w' Sb2 S' args bs cos cos':=
 ⟨h.same,h.man.frame λb hb=>hb.imp id λ⟨l,q⟩=>⟨l,Jx q⟩,h.io⟩
theorem Man.name {A:Ann}{te0:TE}{w0:World}{M:MS}{c:Cx}{d:Nat}{β':Nat->Option Nat}{o:Obj}(hM:Man A te0 w0 M c)(hd:c.hp d=none)(hβ:∀id,id≠d->β' id=c.β id)(ho:∀t off m k (xs:List k.T) g p,o≠ .col t off m k xs g p)
  (hb:∀b,β' d=some b->o.live=true->∀l,¬ OwnX c l b):Man A te0 w0 M { c with β:=β',hp:=upd c.hp d o }:=by
 have hc:nN c { c with β:=β',hp:=upd c.hp d o }:=by
  intro cid t off m k xs g p;show upd c.hp d o cid=_ ↔ _;by_cases e:cid=d
  ·subst e;simp only[upd,O8,hd];exact⟨λq=>by simp only[Nz]at q;exact(ho _ _ _ _ _ _ _ q).elim,λq=>by cases q⟩
  ·simp[upd,e]
 have own:=λl b=>hc.own (c':={ c with β:=β',hp:=upd c.hp d o }) rfl l b
 have held:=λt=>hc.held t
 refine⟨⟨hM.r.lay,λcid t off m k xs g p h=>hM.r.ci _ _ _ _ _ _ _ _ ((hc ..).1 h),λcid t off m k xs g p h=>hM.r.dom _ _ _ _ _ _ _ _ ((hc ..).1 h),λt i b hh hi=>hM.r.box t i b ((held t).1 hh) hi,λcid t off k xs g p h=>hM.r.dat _ _ _ _ _ _ _ ((hc ..).1 h),λcid t off e xs g p h=>hM.r.own _ _ _ _ _ _ _ ((hc ..).1 h),λcid t off e xs g p h=>hM.r.mpp _ _ _ _ _ _ _ ((hc ..).1 h),λl b hx=>?_,λl l' b hx hx'=>hM.r.one l l' b ((own l b).1 hx) ((own l' b).1 hx')⟩,?_⟩
 ·obtain⟨q1,q2,q3⟩:=hM.r.sep l b ((own l b).1 hx);refine⟨q1,q2,λid hl=>?_⟩;obtain⟨z1,o',z2,z3⟩:=hl;by_cases e:id=d
  ·subst e;have z2:upd c.hp id o id=some o':=z2;simp[upd]at z2;subst z2;exact hb b z1 z3 l ((own l b).1 hx)
  ·have z2:upd c.hp d o id=some o':=z2;simp[upd,e]at z2;exact q3 id ⟨(hβ id e).symm.trans z1,o',z2,z3⟩
 ·refine⟨λl b hx=>hM.f.wr l b ((own l b).1 hx),λt i b arr hh hi hlt hb=>?_,hM.f.tle,λt hf=>hM.f.same t λhq=>hf ⟨hq.1,λd hd=>?_⟩,λcid h=>hM.f.samo cid λt off m k xs g p hq=>h _ _ _ _ _ _ _ ((hc ..).2 hq),hM.f.newb⟩
  ·obtain⟨arr0,p1,p2,p3⟩:=hM.f.frc t i b arr ((held t).1 hh) hi hlt hb;exact⟨arr0,p1,p2,λo ho=>p3 o λcid off m k xs g p h=>ho _ _ _ _ _ _ _ ((hc ..).2 h)⟩
  ·obtain⟨off,m,k,xs,g,p,q⟩:=hq.2 d hd;exact⟨off,m,k,xs,g,p,(hc ..).2 q⟩
section
variable {P:Program} {A:Ann} {te0:TE} {Gl:Nat->Option Go.Obj} {C:ic} {w0:World} {M:MS} {c:Cx} {hp:Nat->Option Obj}
theorem D7 (hC:j8 P A Gl C)(hm:Mem w0 M c)(hM:Man A te0 w0 M c)(hte:c.te.te=A.te)(hgl:Glob Gl c.S c.w)(hh:∀id o,hp id=some o->c.hp id=some o){dst:Option Nat}(hf:∀d,dst=some d->hp d=none->c.hp d=none){ty:TypeId}{own mvs:List Bool}{cids:List Nat}{cb:Bool}{f f':Nat}{ats:List TypeId}{args as:List AV}{vs:Array Value}{sg:Sig}{post:sg.R->AV×Upd}{rr:sg.R}
  (hr:LR (RepV c) args vs.toList) (h:gX P hp dst ty own mvs cids cb f ats args=.call true sg f' as post) (hc:C sg f' as=some rr):
  f' = f /\ cb = true /\ (∃ fn, P.funcs[f]? = some fn /\ (fn.name == "runtime.NumGoroutine") = false /\ fn.body.isNone = false) /\
  Calls P f vs c.w (λe w'=>∃v' c',e=.returned v'/\c'.w=w'/\Mem w0 M c'/\ExtM c c'/\c'.hp=hpU (post rr).2 c.hp/\RepV c' (post rr).1 v'/\Man A te0 w0 M c'):=by
 unfold gX at h;split at h
 ·rename_i tup ks hs cos0 hres hargs hcos;obtain⟨ds,rfl,hds⟩:=sE hcos;dsimp only at h;cases hcond:(E6 own ks&&Nat.ble (lf own) 1&&(Nat.beq (lf own) 0 || (fresh hp dst).isSome)&&exOk (DU args hs)&&hs.all (λh=>disj h.excl h.frz)&&(tup == !(Nat.beq ks.length 1))&&dupF cids)with
  |false=>rw[hcond]at h;cases h
  |true=>
   rw[hcond]at h;simp only[NH]at h;simp only[NM]at hcond;obtain⟨⟨⟨⟨⟨⟨_,_⟩,hfrd⟩,hex⟩,hdj⟩,htup⟩,hdup⟩:=hcond;split at h
   ·rename_i u hu;cases h;refine⟨rfl,rfl,?_⟩;have eco:List.map (λx:AV×K=>x.1) (List.map (λd=>(coAV d,K.slice d.k)) ds)=ds.map coAV:=by rw[List.map_map];rfl
    rw[eco]at hc;obtain⟨hlen,hget⟩:=pf hargs;have hisco:∀h∈hs,isCo h.arg=false:=by
     intro h hh1;obtain⟨j,hj⟩:=Oo.1 hh1;obtain⟨hlt,_⟩:=NJ.1 hj;obtain⟨h',b,t,z1,z2⟩:=hget j _ (NT (by omega));rw[hj]at z1;cases z1;exact Dy z2
    obtain⟨hfn,hcall⟩:=hC _ _ _ _ _ (λa ha=>by
     obtain⟨h,hh1,rfl⟩:=N9.1 ha;exact hisco h hh1) hc
    refine⟨hfn,?_⟩;have hcids:=Fw hds;have hnod:(ds.map (·.cid)).Nodup:=by rw[hcids];exact oQ hdup
    have hdsc:∀d∈ds,∃g,c.hp d.cid=some (.col d.t d.off d.m d.k d.xs g none):=by
     intro d hd;have:∀{cids:List Nat} {ds:List CoD},LR (λ(cid:Nat) (d:CoD)=>d.cid=cid/\∃g,hp cid=some (.col d.t d.off d.m d.k d.xs g none)) cids ds->∀d∈ds,∃g,hp d.cid=some (.col d.t d.off d.m d.k d.xs g none):=by
      intro cids
      induction cids with
      |nil=>intro ds h d hd;cases ds with
       |nil=>cases hd
       |cons a r=>exact h.elim
      |cons a r ih=>
       intro ds h d hd;cases ds with
       |nil=>exact h.elim
       |cons b s=>
        rcases NO.1 hd with rfl|hd
        ·obtain⟨e,g,q⟩:=h.1;exact⟨g,by rw[e];exact q⟩
        ·exact ih h.2 d hd
     obtain⟨g,q⟩:=this hds d hd;exact⟨g,hh _ _ q⟩
    have hlr:=hr.length
    -- what is known of each argument
    have hinfo:∀(j:Nat) h,hs[j]?=some h->∃a v b t,args[j]?=some a/\vs.toList[j]?=some v/\RepV c a v/\gE P hp b t a=some h:=by
     intro j h hj;obtain⟨hlt,_⟩:=NJ.1 hj;have ha:args[j]?=some args[j]:=NT (by omega);obtain⟨h',b,t,e1,e2⟩:=hget j _ ha;rw[hj]at e1;cases e1;obtain⟨v,e3,e4⟩:=hr.get j _ ha;exact⟨_,v,b,t,ha,e3,e4,e2⟩
    have hmem:∀h∈hs,∃(j:Nat),hs[j]?=some h:=λh hh=>Oo.1 hh
    -- handed names are lent nowhere
    have hnofz:∀id,id∈hs.flatMap Hand.excl->id ∉ hs.flatMap Hand.frz:=by
     intro id h1 h2;obtain⟨ha,ha1,ha2⟩:=Oe.1 h1;obtain⟨hb,hb1,hb2⟩:=Oe.1 h2;obtain⟨i,hi⟩:=hmem ha ha1;obtain⟨j,hj⟩:=hmem hb hb1;by_cases hij:i=j
     ·subst hij;rw[hi]at hj;cases hj;exact nB (OW.1 hdj ha ha1) ha2 hb2
     ·obtain⟨a1,_,_,_,e1,_⟩:=hinfo i ha hi;obtain⟨a2,_,_,_,e2,_⟩:=hinfo j hb hj;exact sq hex i j _ _ hij (kX e1 hi) (kX e2 hj) id ha2 (by simp[hb2])
    have hflag:(ks.any K.rows || eC args || !cids.isEmpty)=false->∀h∈hs,h.io=[]:=by
     intro hfl h hh;simp only[Ph]at hfl;obtain⟨j,hj⟩:=hmem h hh;obtain⟨a,_,_,_,e1,_,_,e2⟩:=hinfo j h hj;exact(rA e2).2 (Ec hfl.1.2 a (NX e1))
    -- frozen,or lent alone
    have hc1:∃(c1:Cx) (Sa:Nat->Prop),c1.w=c.w/\c1.β=c.β/\(Mem w0 M c1/\Man A te0 w0 M c1/\nN c c1)/\Ext c c1/\c1.hp=hpU u c.hp/\(∀b,c.S b->Sa b)/\(∀id∈hs.flatMap Hand.frz,∀b,c.β id=some b->Sa b)/\(∀b,Sa b->b<c.w.heap.size) /\
      (∀id b,id∈hs.flatMap Hand.excl->Live c id b->¬ Sa b)/\(∀id,id∈hs.flatMap Hand.excl->c1.hp id=c.hp id) /\
      (((ks.any K.rows || eC args || !cids.isEmpty)=true/\∀b,Sa b ↔ c1.S b)\/((ks.any K.rows || eC args || !cids.isEmpty)=false/\c1.S=c.S)):=by
     cases hfl:(ks.any K.rows || eC args || !cids.isEmpty)with
     |true=>
      rw[hfl]at hu;simp only[NH]at hu;obtain⟨c1,e1,e2,m1',x1,p1,p2⟩:=yl hm.here hh hu;have m1:=hm.step m1';have hcoleq:nN c c1:=by
       intro cid t off m k xs g p;rw[p1];unfold hpU;cases hq:Go.Eng.hget u cid with
       |none=>simp
       |some o=>
        obtain⟨k',xs',gen',hist',frz',t1,rfl⟩:=iE hu hq;have t2:=hh _ _ t1;refine⟨λz=>?_,λz=>?_⟩
        ·cases z
        ·rw[t2]at z;cases z
      have hM1:Man A te0 w0 M c1:=hM.lift x1.te x1 m1' hcoleq;have hsame:∀id,id∈hs.flatMap Hand.excl->c1.hp id=c.hp id:=by
       intro id hid;rw[p1];unfold hpU;rw[rY hu (hnofz id hid)]
      refine⟨c1,c1.S,e1,e2,⟨m1,hM1,hcoleq⟩,x1,p1,x1.sub,p2,λb hb=>by rw[<- e1];exact m1.below b hb,λid b hid hl=>?_,hsame,.inl ⟨rfl,λb=>Rm⟩⟩;obtain⟨q1,o,q2,q3⟩:=hl;exact(m1.live id b ⟨by rw[e2];exact q1,o,by rw[hsame id hid];exact q2,q3⟩).2.1
     |false=>
      rw[hfl]at hu;simp only[NS,Nz]at hu;subst hu;have hrow:∀id∈hs.flatMap Hand.frz,∃o,c.hp id=some o/\o.isRow=true:=by
       intro id hid;obtain⟨h,hh1,hh2⟩:=Oe.1 hid;obtain⟨j,hj⟩:=hmem h hh1;obtain⟨a,_,_,_,_,_,_,e2⟩:=hinfo j h hj;obtain⟨k,xs,gen,hist,frz,e3⟩:=(rA e2).1 (hflag hfl h hh1) id hh2;exact⟨_,hh id _ e3,rfl⟩
      refine⟨c,λb=>c.S b\/∃id∈hs.flatMap Hand.frz,c.β id=some b,rfl,rfl,⟨hm,hM,λ_ _ _ _ _ _ _ _=>Rm⟩,Ext.refl c,rfl,λb hb=>.inl hb,λid hid b hb=>.inr ⟨id,hid,hb⟩,λb hb=>?_,λid b hid hl hb=>?_,λ_ _=>rfl,.inr ⟨rfl,rfl⟩⟩
      ·rcases hb with hb|⟨id,hid,hb⟩
       ·exact hm.below b hb
       ·obtain⟨o,ho,hrw⟩:=hrow id hid;obtain⟨x,hx⟩:=gY (hm.obj id o ho) (.inr hrw) hb;exact bE hx
      ·rcases hb with hb|⟨id',hid',hb⟩
       ·exact(hm.live id b hl).2.1 hb
       ·obtain⟨o,ho,hrw⟩:=hrow id' hid';by_cases hv:o.live=true
        ·have:=hm.one id id' b hl ⟨hb,o,ho,hv⟩;subst this;exact hnofz id hid hid'
        ·cases o with
         |box cs=>cases hrw
         |mp k es=>cases hrw
         |fm es=>cases hrw
         |col=>cases hrw
         |row k xs gen hist frz=>
          have hft:frz=true:=by simpa[Obj.live]using hv
          have:=hm.obj id' _ ho;simp only[RepO,hb]at this;exact(hm.live id b hl).2.1 (this.2.2 hft)
    obtain⟨c1,Sa,e1,e2,⟨m1,hM1,hceq⟩,x1,p1,p2,p3,p4,p5,p6,p7⟩:=hc1;have hdsc1:∀d∈ds,∃g,c1.hp d.cid=some (.col d.t d.off d.m d.k d.xs g none):=λd hd=>by
     obtain⟨g,q⟩:=hdsc d hd;exact⟨g,(hceq ..).2 q⟩
    have hempty:(ks.any K.rows || eC args || !cids.isEmpty)=false->ds=[]:=by
     intro hfl;simp only[Ph,Q8]at hfl;have:cids=[]:=Qe.1 hfl.2;rw[this]at hcids;exact List.map_eq_nil_iff.1 hcids
    have hSaE:ds≠[]->Sa=c1.S:=by
     intro hne;rcases p7 with⟨_,hsa⟩|⟨hfl,_⟩
     ·funext b;exact propext (hsa b)
     ·exact(hne (hempty hfl)).elim
    have hcc0:∀l b,OwnX (coC c.te c.w Sa ds) l b->OwnX c1 l b:=by
     intro l b hx;cases l with
     |man t i=>
      obtain⟨⟨cid,off,m,k,xs,g,p,hq⟩,hi⟩:=hx;obtain⟨d,hd,rfl,e⟩:=bt hq;obtain⟨g',q⟩:=hdsc1 d hd;cases e;exact⟨⟨_,_,_,_,_,_,_,q⟩,by rw[x1.te];exact hi⟩
     |own cid i=>
      obtain⟨⟨t,off,m,k,xs,g,p,hq,hmd,hlt⟩,hi⟩:=hx;obtain⟨d,hd,rfl,e⟩:=bt hq;obtain⟨g',q⟩:=hdsc1 d hd;cases e;exact⟨⟨_,_,_,_,_,_,_,q,hmd,hlt⟩,by rw[x1.te];exact hi⟩
    have hrepj:∀(j:Nat) h,hs[j]?=some h->∃a v,args[j]?=some a/\vs.toList[j]?=some v/\ArgRel c.te c.w Sa h.arg v (h.blk c.β)/\(∀b,h.blk c.β=some b->∃id∈h.excl,Live c id b)/\(∀id∈h.excl,id∈a.ids)/\(h.mv=[]\/h.io=[])/\(∀id∈h.mv,∃k xs gen hist,c.hp id=some (.row k xs gen hist false)) /\
      (∀id k,(id,k)∈h.io->∃cs x,c.hp id=some (.box cs)/\cs≠[]/\cs.length=k.size/\h.arg=.val false [.io k x]/\h.blk c.β=c.β id)/\h.excl.length<=1:=by
     intro j h hj;obtain⟨a,v,b,t,q1,q2,q3,q4⟩:=hinfo j h hj;obtain⟨r1,r2,r3,r4,r5,r6,r7⟩:=zX hm hh q4 q3 p2 (λid hid b hb=>p3 id (Oe.2 ⟨h,NX hj,hid⟩) b hb);exact⟨a,v,q1,q2,r1,r2,r3,r4,r5,r6,r7⟩
    have hbs:∀(j b:Nat),(hs.map (Hand.blk c.β))[j]?=some (some b)->∃h,hs[j]?=some h/\h.blk c.β=some b:=by
     intro j b hj;rw[Ot]at hj;cases hh2:hs[j]? with
     |none=>rw[hh2]at hj;cases hj
     |some h=>rw[hh2]at hj;simp at hj;exact⟨h,rfl,hj⟩
    have hexm:∀h∈hs,∀id∈h.excl,id∈hs.flatMap Hand.excl:=λh hh id hid=>Oe.2 ⟨h,hh,hid⟩
    refine(hcall c.te c.w Sa vs (hs.map (Hand.blk c.β)) hte (λb o hb=>⟨p2 b (hgl b o hb).1,(hgl b o hb).2⟩) p4 ?_ ?_ ?_ ?_).mono ?_
    ·refine LR3.of_get (by simp at hlr ⊢;omega) (by simp) λj a v b ha hv hb=>?_
     rw[Ot]at ha hb;cases hj:hs[j]? with
     |none=>rw[hj]at ha;cases ha
     |some h=>
      rw[hj]at ha hb;simp at ha hb;subst ha;subst hb;obtain⟨a',v',q1,q2,q3,_⟩:=hrepj j h hj;rw[hv]at q2;cases q2;exact q3
    ·intro j b hj;obtain⟨h,hj,hb⟩:=hbs j b hj;obtain⟨a',v',_,_,_,q4,_⟩:=hrepj j h hj;obtain⟨id,hid,hl⟩:=q4 b hb;exact⟨(hm.live id b hl).1,p5 id b (hexm h (NX hj) id hid) hl⟩
    ·intro j j' b hj hj';obtain⟨h,hj,hb⟩:=hbs j b hj;obtain⟨h',hj',hb'⟩:=hbs j' b hj';obtain⟨a1,v1,z1,_,_,q4,q5,_⟩:=hrepj j h hj;obtain⟨a2,v2,z2,_,_,q4',q5',_⟩:=hrepj j' h' hj';obtain⟨id,hid,hl⟩:=q4 b hb;obtain⟨id',hid',hl'⟩:=q4' b hb';have:=hm.one id id' b hl hl';subst this;by_cases e:j=j'
     ·exact e
     ·exact(sq hex j j' _ _ e (kX z1 hj) (kX z2 hj') id hid (by simp[q5' id hid'])).elim
    ·refine⟨hnod,?_,λl b hx hb=>?_⟩
     ·by_cases hne:ds=[]
      ·subst hne;refine⟨hM.r.lay,λ_ _ _ _ _ _ _ _ q=>(by cases q),λ_ _ _ _ _ _ _ _ q=>(by cases q),λt i b ⟨_,_,_,_,_,_,_,q⟩=>(by cases q),λ_ _ _ _ _ _ _ q=>(by cases q),λ_ _ _ _ _ _ _ q=>(by cases q),λ_ _ _ _ _ _ _ q=>(by cases q),λl b hx=>?_,λl l' b hx=>?_⟩
       all_goals
        exfalso;cases l with
        |man t i=>obtain⟨⟨_,_,_,_,_,_,_,q⟩,_⟩:=hx;cases q
        |own cid i=>obtain⟨⟨_,_,_,_,_,_,_,q,_⟩,_⟩:=hx;cases q
      ·rw[hSaE hne];have:=Ih hM1.r hnod hdsc1;rw[x1.te,e1]at this;exact this
     ·obtain⟨j,hj⟩:=Oo.1 hb;obtain⟨h,hj,hb2⟩:=hbs j b hj;obtain⟨_,_,_,_,_,q4,_⟩:=hrepj j h hj;obtain⟨id,hid,hl⟩:=q4 b hb2;refine(hM1.r.sep l b (hcc0 l b hx)).2.2 id ?_;obtain⟨z1,o,z2,z3⟩:=hl;exact⟨by rw[e2];exact z1,o,by rw[p6 id (hexm h (NX hj) id hid)];exact z2,z3⟩
    -- behind the call
    rintro e w' ⟨v',te',S',cos',rfl,⟨arr,rfl,hfr,hS1,hS2,hrv,hio⟩,hmo,hcr⟩
    let comps:=lvs (Sig.ks ⟨iM own ks,(hs.flatMap Hand.io).map (λx:Nat×K=>x.2)++(List.map (λd=>(coAV d,K.slice d.k)) ds).map (λx:AV×K=>x.2)⟩) rr
    have hzl:∀(o:List Bool) (l:List K),(iM o l).length=l.length:=by
     intro o l;induction l generalizing o with
     |nil=>cases o<;>rfl
     |cons a r ih=>cases o<;>simp[iM,ih]
    have hzk:∀(o:List Bool) (l:List K),(iM o l).map (·.2)=l:=by
     intro o l;induction l generalizing o with
     |nil=>cases o<;>rfl
     |cons a r ih=>cases o<;>simp[iM,ih]
    simp only[hzl]at hrv hio hcr;have hiof:∀h∈hs,(∃id k x,h.io=[(id,k)]/\h.mv=[]/\h.arg=.val false [.io k x])\/(h.io=[]/\(∀k x,h.arg≠ .val false [.io k x])/\(h.mv≠[]->∃k xs,h.arg=.val false [.mv k xs])):=by
     intro h hh1;obtain⟨j,hj⟩:=hmem h hh1;obtain⟨_,_,_,_,_,_,_,q⟩:=hinfo j h hj;exact Dx q
    have hnio:=uE hs hiof hisco;rw[hnio]at hio hcr
    let L:=(comps.drop ks.length).take (hs.flatMap Hand.io).length
    have hLu:ia (hs.flatMap Hand.io) (comps.drop ks.length)=ia (hs.flatMap Hand.io) L:=uD _ _
    let CU:=wL hp cids (comps.drop (ks.length+(hs.flatMap Hand.io).length))
    have hcu:∀id,(id∈cids/\∃d'∈cos',d'.cid=id/\∃g,Go.Eng.hget CU id=some (.col d'.t d'.off d'.m d'.k d'.xs (g+1) none)/\∃(xs:List d'.k.T),hp id=some (.col d'.t d'.off d'.m d'.k xs g none))\/(id ∉ cids/\Go.Eng.hget CU id=none):=
     yW hds hmo.same hcr hdup
    have hget2:=qA hs L hiof hio
    let I0:Nat->Prop:=λid=>id∈hs.flatMap Hand.excl
    let I:Nat->Prop:=λid=>I0 id\/id∈cids
    let S2:Nat->Prop:=λb=>((ks.any K.rows || eC args || !cids.isEmpty)=true/\S' b)\/((ks.any K.rows || eC args || !cids.isEmpty)=false/\c1.S b)
    let c2:Cx:={ te:=te',w:=w',S:=S2,β:=c.β,hp:=hpU (ia (hs.flatMap Hand.io) L++(CU++nC (hs.flatMap Hand.mv))) c1.hp }
    have hmvB:∀b,mvB (hs.map Hand.arg) (hs.map (Hand.blk c.β)) b->∃id,I0 id/\Live c id b/\∃h∈hs,id∈h.mv:=by
     rintro b ⟨j,k,xs,h1,h2⟩;obtain⟨h,hj,hb⟩:=hbs j b h2;rw[Ot,hj]at h1;simp at h1;obtain⟨_,_,_,_,_,q4,_,q6,_,q8,_⟩:=hrepj j h hj;obtain⟨id,hid,hl⟩:=q4 b hb;refine⟨id,hexm h (NX hj) id hid,hl,h,NX hj,?_⟩;simp only[Hand.excl,NU,N9]at hid;rcases hid with hid|⟨p,hp1,rfl⟩
     ·exact hid
     ·obtain⟨cs,x,_,_,_,e9,_⟩:=q8 p.1 p.2 hp1;rw[h1]at e9;simp at e9
    have hlive1:∀id b,I0 id->(Live c1 id b ↔ Live c id b):=by
     intro id b hid;constructor
     ·rintro⟨q1,o,q2,q3⟩;exact⟨by rw[<- e2];exact q1,o,by rw[<- p6 id hid];exact q2,q3⟩
     ·rintro⟨q1,o,q2,q3⟩;exact⟨by rw[e2];exact q1,o,by rw[p6 id hid];exact q2,q3⟩
    have hin:∀id,I0 id->(∃k,(id,k)∈hs.flatMap Hand.io)\/(id∈hs.flatMap Hand.mv/\∀k,(id,k) ∉ hs.flatMap Hand.io):=by
     intro id hid;obtain⟨h,hh1,hh2⟩:=Oe.1 hid;simp only[Hand.excl,NU,N9]at hh2;rcases hh2 with hh2|⟨p,hp1,rfl⟩
     ·right;refine⟨Oe.2 ⟨h,hh1,hh2⟩,λk hk=>?_⟩;obtain⟨j,hj⟩:=hmem h hh1;obtain⟨_,_,_,_,_,_,_,_,q7,_,_⟩:=hrepj j h hj;obtain⟨k1,xs,gen,hist,e9⟩:=q7 id hh2;obtain⟨h',hh1',hh2'⟩:=Oe.1 hk;obtain⟨j',hj'⟩:=hmem h' hh1';obtain⟨_,_,_,_,_,_,_,_,_,q8,_⟩:=hrepj j' h' hj';obtain⟨cs,x,e10,_⟩:=q8 id k hh2';rw[e9]at e10;cases e10
     ·left;exact⟨p.2,Oe.2 ⟨h,hh1,hp1⟩⟩
    have hdis:∀id,I0 id->id ∉ cids:=by
     intro id hid hcd;have hcol:∃d∈ds,d.cid=id:=by rw[<- hcids]at hcd;obtain⟨d,hd,e⟩:=N9.1 hcd;exact⟨d,hd,e⟩
     obtain⟨d,hd,e⟩:=hcol;obtain⟨g,q⟩:=hdsc d hd;rw[e]at q;rcases hin id hid with⟨k,hk⟩|⟨hmm,_⟩
     ·obtain⟨h,hh1,hh2⟩:=Oe.1 hk;obtain⟨j,hj⟩:=hmem h hh1;obtain⟨_,_,_,_,_,_,_,_,_,q8,_⟩:=hrepj j h hj;obtain⟨cs,x,e10,_⟩:=q8 id k hh2;rw[q]at e10;cases e10
     ·obtain⟨h,hh1,hh2⟩:=Oe.1 hmm;obtain⟨j,hj⟩:=hmem h hh1;obtain⟨_,_,_,_,_,_,_,_,q7,_,_⟩:=hrepj j h hj;obtain⟨k1,xs,gen,hist,e9⟩:=q7 id hh2;rw[q]at e9;cases e9
    have hcun:∀id,id ∉ cids->Go.Eng.hget CU id=none:=λid hid=>(hcu id).elim (λq=>(hid q.1).elim) (λq=>q.2)
    have hc2hp:∀id,¬ I id->c2.hp id=c1.hp id:=by
     intro id hid0;have hid:¬ I0 id:=λq=>hid0 (.inl q)
     show hpU _ c1.hp id=_;unfold hpU;rw[cD,cD,hcun id (λq=>hid0 (.inr q))];rcases hget2 id with⟨cs,b,k,q1,_⟩|⟨_,q2⟩
     ·obtain⟨h,hh1,hh2⟩:=Oe.1 q1;exact(hid (hexm h hh1 id (by simp only[Hand.excl,NU,N9];exact .inr ⟨(id,k),hh2,rfl⟩))).elim
     ·rw[q2,ga,ND];intro hmm;obtain⟨h,hh1,hh2⟩:=Oe.1 hmm;exact hid (hexm h hh1 id (by simp only[Hand.excl,NU];exact .inl hh2))
    have hc2I:∀id,I0 id->c2.hp id=some (.box [])\/∃cs b,c2.hp id=some (.box cs)/\cs≠[]/\c.β id=some b/\za te' w' S' b cs/\¬ S' b/\∃k,(id,k)∈hs.flatMap Hand.io:=by
     intro id hid;rcases hget2 id with⟨cs,b,k,q1,q2,q3,q4,q5,q6⟩|⟨q1,q2⟩
     ·right;refine⟨cs,b,?_,?_,q3,q4,q5,k,q1⟩
      ·show hpU _ c1.hp id=_;unfold hpU;rw[cD,q2]
      ·rintro rfl;have:=ln k;simp at q6;omega
     ·left;rcases hin id hid with⟨k,hk⟩|⟨hmm,_⟩
      ·exact(q1 k hk).elim
      ·show hpU _ c1.hp id=_;unfold hpU;rw[cD,q2,cD,hcun id (hdis id hid),ga,NI hmm]
    have hc2C:∀id,id∈cids->∃d'∈cos',d'.cid=id/\∃g,c2.hp id=some (.col d'.t d'.off d'.m d'.k d'.xs (g+1) none)/\∃(xs:List d'.k.T),c1.hp id=some (.col d'.t d'.off d'.m d'.k xs g none):=by
     intro id hid;rcases hcu id with⟨_,d',h1,h2,g,h3,xs,h4⟩|⟨q,_⟩
     ·refine⟨d',h1,h2,g,?_,xs,(hceq ..).2 (hh _ _ h4)⟩;show hpU _ c1.hp id=_;unfold hpU;have hno:Go.Eng.hget (ia (hs.flatMap Hand.io) L) id=none:=by
       rcases hget2 id with⟨cs,b,k,q1,_⟩|⟨_,q2⟩
       ·obtain⟨h,hh1,hh2⟩:=Oe.1 q1;exact(hdis id (hexm h hh1 id (by simp only[Hand.excl,NU,N9];exact .inr ⟨(id,k),hh2,rfl⟩)) hid).elim
       ·exact q2
      rw[cD,hno,cD,h3]
     ·exact(q hid).elim
    have hflagio:∀id k,(id,k)∈hs.flatMap Hand.io->(ks.any K.rows || eC args || !cids.isEmpty)=true:=by
     intro id k hk;cases hfl:(ks.any K.rows || eC args || !cids.isEmpty)with
     |true=>rfl
     |false=>
      obtain⟨h,hh1,hh2⟩:=Oe.1 hk;rw[hflag hfl h hh1]at hh2;simp at hh2
    have hSS:∀b,(ks.any K.rows || eC args || !cids.isEmpty)=true->S' b->S2 b:=λb h1 h2=>.inl ⟨h1,h2⟩
    have hclosed:(ks.any K.rows || eC args || !cids.isEmpty)=true->∀s v,RepS (clC te' w' S') s v->RepS c2 s v:=λhfl s v hsv=>gi (c:=c2) (TLe.refl _) (λ_ _=>rfl) (λb hb=>hSS b hfl hb) hsv
    have ht:sP w0 M c1 I (XOf c.te c.w Sa ds) c2:=by
     refine⟨by rw[x1.te];exact hmo.man.f.tle,λcid hn=>?_,by rw[e1];exact hfr.os,by rw[e1];exact hfr.tape,by rw[e1];exact hfr.output,by rw[e1];exact hfr.size,λb hb hnl hnx=>?_,λb hx=>?_,λb hb=>?_,λb hb=>?_,λid hid=>⟨hc2hp id hid,by show c.β id=c1.β id;rw[e2]⟩,λid o hid ho=>?_,λid b hid hl=>?_,λid s v hid hsi hrs=>?_⟩
     ·rw[x1.te];refine hmo.man.f.samo cid λt off m k xs g p hq=>?_
      obtain⟨d',hd',e,_⟩:=bt hq;obtain⟨d,hd,e'⟩:=bW hmo.same d' hd';exact hn (.inr (by rw[<- hcids];exact N9.2 ⟨d,hd,by rw[<- e'.1,e]⟩))
     ·rw[e1];rw[e1]at hb;refine hfr.block b hb λhbm=>?_
      rcases hbm with hbm|hbm
      rotate_left
      ·exact hnx hbm
      obtain⟨j,hj⟩:=Oo.1 hbm;obtain⟨h,hj,hb2⟩:=hbs j b hj;obtain⟨_,_,_,_,_,q4,_⟩:=hrepj j h hj;obtain⟨id,hid,hl⟩:=q4 b hb2;exact hnl id (.inl (hexm h (NX hj) id hid)) ((hlive1 id b (hexm h (NX hj) id hid)).2 hl)
     ·obtain⟨l,hx⟩:=hx;have hx1:=hcc0 l b hx;obtain⟨q1,q2,q3⟩:=hM1.r.sep l b hx1;exact⟨q2,q3,hM1.f.wr l b hx1⟩
     ·rcases p7 with⟨hfl,hsa⟩|⟨hfl,hsa⟩
      ·exact .inl ⟨hfl,hS1 b ((hsa b).2 hb)⟩
      ·exact .inr ⟨hfl,hb⟩
     ·rcases p7 with⟨hfl,hsa⟩|⟨hfl,hsa⟩
      ·rcases hb with⟨_,hb⟩|⟨hfl',_⟩
       ·obtain⟨q1,q2⟩:=hS2 b hb;refine⟨q1,?_⟩;rcases q2 with q2|q2|q2
        ·exact .inl ((hsa b).1 q2)
        ·exact .inr (.inr (by rw[e1];exact q2))
        ·obtain⟨id,hid,hl,_⟩:=hmvB b q2;exact .inr (.inl ⟨id,.inl hid,(hlive1 id b hid).2 hl⟩)
       ·rw[hfl]at hfl';cases hfl'
      ·rcases hb with⟨hfl',_⟩|⟨_,hb⟩
       ·rw[hfl]at hfl';cases hfl'
       ·exact⟨N1 (m1.below b hb) (by rw[e1];exact hfr.size),.inl hb⟩
     ·rcases hid with hid|hid
      rotate_left
      ·obtain⟨d',_,_,g,q,_⟩:=hc2C id hid;rw[q]at ho;cases ho;trivial
      rcases hc2I id hid with q|⟨cs,b,q1,q2,q3,q4,q5,k,q6⟩
      ·rw[q]at ho;cases ho;intro hne;exact(hne rfl).elim
      ·rw[q1]at ho;cases ho;intro _;obtain⟨arr2,t1,t2⟩:=q4;exact⟨b,arr2,q3,t1,t2.mono λs _ v=>hclosed (hflagio id k q6) s v⟩
     ·rcases hid with hid|hid
      rotate_left
      ·obtain⟨d',_,_,g,q,_⟩:=hc2C id hid;obtain⟨_,o,z1,z2⟩:=hl;rw[q]at z1;cases z1;cases z2
      rcases hc2I id hid with q|⟨cs,b',q1,q2,q3,q4,q5,k,q6⟩
      ·obtain⟨_,o,z1,z2⟩:=hl;rw[q]at z1;cases z1;simp[Obj.live]at z2
      ·obtain⟨z0,o,z1,z2⟩:=hl;have z0':c.β id=some b:=z0;rw[q3]at z0';cases z0';refine⟨?_,?_⟩
       ·rintro(⟨_,hb⟩|⟨hfl,_⟩)
        ·exact q5 hb
        ·rw[hflagio id k q6]at hfl;cases hfl
       ·rw[hlive1 id _ hid];obtain⟨h,hh1,hh2⟩:=Oe.1 q6;obtain⟨j,hj⟩:=hmem h hh1;obtain⟨_,_,_,_,_,_,_,_,_,q8,_⟩:=hrepj j h hj;obtain⟨cs0,x,e10,e11,_⟩:=q8 id k hh2;exact⟨q3,_,e10,by simp[Obj.live,e11]⟩
     ·-- values that name it
      rcases hid with hid|hid
      rotate_left
      ·obtain⟨d',_,_,g,q,xs0,q0⟩:=hc2C id hid;have hnc:∀o,c2.hp id=some o->∃t off m k,∃(xs:List k.T),∃g p,o=.col t off m k xs g p:=λo ho=>by
        rw[q]at ho;cases ho;exact⟨_,_,_,_,_,_,_,rfl⟩
       cases s<;>simp only[S.ids,NY,OV,reduceCtorEq]at hsi
       case vw j g=>subst hsi;exact⟨hrs.1,_,q,λk xs gen hist frz e=>by cases e⟩
       case pv j g off len=>subst hsi;exact⟨hrs.1,_,q,λk xs gen hist frz e=>by cases e⟩
       case ptr j g i p=>subst hsi;obtain⟨z0,oo,z1,z2,_⟩:=hrs;exact⟨z0,_,q,z2,λcs e hne=>(by cases e),λk xs gen hist frz e=>by cases e⟩
       case mp j=>subst hsi;exact⟨hrs.1,_,q,λe=>by cases e⟩
       case rp t i off=>obtain⟨b,h1,h2⟩:=hrs;exact⟨b,hmo.man.f.tle.2 _ _ _ (by rw[<- x1.te];exact h1),h2⟩
       case ov j g0 i=>
        subst hsi;obtain⟨z0,oo,z1,z2⟩:=hrs;rw[q0]at z1;cases z1;have:=(z2 _ _ _ _ _ _ _ rfl).1;exact⟨z0,_,q,λt off m k xs g' p e=>by cases e;exact⟨by omega,λh=>by omega⟩⟩
       case oe j g0 i qq p=>
        subst hsi;obtain⟨z0,oo,z1,zp,z2⟩:=hrs;rw[q0]at z1;cases z1;refine⟨z0,_,q,zp,λt off m e xs g' q' he=>?_⟩;obtain⟨dc,dt,do',dm,dk,dxs⟩:=d';simp only[Nz,Obj.col.injEq]at he;obtain⟨rfl,rfl,rfl,rfl,rfl,rfl,rfl⟩:=he;have:=(z2 _ _ _ _ _ _ _ rfl).1;exact⟨by omega,λh=>by omega⟩
       case bm f j=>subst hsi;obtain⟨p,hv,o',h1,h2⟩:=hrs;exact⟨p,hv,_,q,λcs e=>by cases e⟩
      rcases hc2I id hid with q|⟨cs,b',q1,q2,q3,q4,q5,k,q6⟩
      ·cases s<;>simp only[S.ids,NY,OV,reduceCtorEq]at hsi
       case mp j=>exact mG (c:=c1) (by rw[x1.te];exact hmo.man.f.tle) q (.inr rfl) (by simp[S.ids,hsi]) rfl hrs
       case rp t i off=>exact mG (c:=c1) (by rw[x1.te];exact hmo.man.f.tle) q (.inr rfl) (by simp[S.ids,hsi]) rfl hrs
       case ov j g i=>exact mG (c:=c1) (by rw[x1.te];exact hmo.man.f.tle) q (.inr rfl) (by simp[S.ids,hsi]) rfl hrs
       case oe j g i q p=>exact mG (c:=c1) (by rw[x1.te];exact hmo.man.f.tle) (by assumption) (.inr rfl) (by simp[S.ids,hsi]) rfl hrs
       case bm f j=>exact mG (c:=c1) (by rw[x1.te];exact hmo.man.f.tle) q (.inr rfl) (by simp[S.ids,hsi]) rfl hrs
       case vw j g=>subst hsi;exact⟨hrs.1,_,q,λk xs gen hist frz e=>by cases e⟩
       case pv j g off len=>subst hsi;exact⟨hrs.1,_,q,λk xs gen hist frz e=>by cases e⟩
       case ptr j g i p=>
        subst hsi;obtain⟨z0,oo,z1,z2,_⟩:=hrs;exact⟨z0,_,q,z2,λcs e hne=>by(cases e;exact(hne rfl).elim),λk xs gen hist frz e=>by cases e⟩
      ·obtain⟨h,hh1,hh2⟩:=Oe.1 q6;obtain⟨j0,hj0⟩:=hmem h hh1;obtain⟨_,_,_,_,_,_,_,_,_,q8,_⟩:=hrepj j0 h hj0;obtain⟨cs0,x,e10,e11,_⟩:=q8 id k hh2;have e10':c1.hp id=some (.box cs0):=by rw[p6 id hid];exact e10
       cases s<;>simp only[S.ids,NY,OV,reduceCtorEq]at hsi
       case mp j=>exact nI (c:=c1) (by rw[x1.te];exact hmo.man.f.tle) e10' e11 q1 (by show c.β id=_;rw[e2]) (by simp[S.ids,hsi]) rfl hrs
       case rp t i off=>exact nI (c:=c1) (by rw[x1.te];exact hmo.man.f.tle) e10' e11 q1 (by show c.β id=_;rw[e2]) (by simp[S.ids,hsi]) rfl hrs
       case ov j g i=>exact nI (c:=c1) (by rw[x1.te];exact hmo.man.f.tle) e10' e11 q1 (by show c.β id=_;rw[e2]) (by simp[S.ids,hsi]) rfl hrs
       case oe j g i q p=>exact nI (c:=c1) (by rw[x1.te];exact hmo.man.f.tle) e10' e11 q1 (by show c.β id=_;rw[e2]) (by simp[S.ids,hsi]) rfl hrs
       case bm f j=>exact nI (c:=c1) (by rw[x1.te];exact hmo.man.f.tle) e10' e11 q1 (by show c.β id=_;rw[e2]) (by simp[S.ids,hsi]) rfl hrs
       case vw j g=>subst hsi;exact⟨hrs.1,_,q1,λk xs gen hist frz e=>by cases e⟩
       case pv j g off len=>subst hsi;exact⟨hrs.1,_,q1,λk xs gen hist frz e=>by cases e⟩
       case ptr j g i p=>
        subst hsi;obtain⟨z0,oo,z1,z2,z3,_⟩:=hrs;rw[e10']at z1;cases z1;obtain⟨b2,y1,y2,y3⟩:=z3 cs0 rfl e11;exact⟨z0,_,q1,z2,λcs e hne=>⟨b2,by show c.β j=_;rw[<- e2];exact y1,y2,y3⟩,λk xs gen hist frz e=>by cases e⟩
    have hm2:=ht.mem m1;have hx2:=x1.m.trans (ht.ext m1);have hM2':Man A te0 w0 M c2/\∀l b,OwnX c2 l b->OwnX (coC te' w' S' cos') l b\/OwnX c1 l b:=by
     have hB:ch A c1 c2 S' (hs.map Hand.arg) (hs.map (Hand.blk c.β)) ds cos':=by
      refine⟨hdsc1,hnod,?_,?_,λb hb=>?_,ht.sub,λhne=>?_,λb hb=>?_,λd' hd'=>?_,λcid hn t off m k xs g p=>?_,λid b hl=>?_⟩
      ·have:=iH.sb (Sb2:=c1.S) hmo;rw[x1.te,e1];exact this
      ·rw[x1.te,e1];refine⟨hfr.os,hfr.tape,hfr.output,hfr.size,λb hb hnx=>hfr.block b hb λhq=>hnx (hq.imp id λ⟨l,z⟩=>⟨l,Jx z⟩)⟩
      ·obtain⟨j,hj⟩:=Oo.1 hb;obtain⟨h,hj,hb2⟩:=hbs j b hj;obtain⟨_,_,_,_,_,q4,_⟩:=hrepj j h hj;obtain⟨id,hid,hl⟩:=q4 b hb2;exact⟨id,(hlive1 id b (hexm h (NX hj) id hid)).2 hl⟩
      ·have hfl:(ks.any K.rows || eC args || !cids.isEmpty)=true:=by
        cases hfl:(ks.any K.rows || eC args || !cids.isEmpty)with
        |true=>rfl
        |false=>exact(hne (hempty hfl)).elim
       funext b;show(_\/_)=_;rw[hfl];simp
      ·rcases(ht.sup b hb).2 with q|⟨id,hid,hl⟩|q
       ·exact .inl q
       ·-- what was moved
        right;right;rcases hb with⟨hfl,hb⟩|⟨_,hb⟩
        ·rcases(hS2 b hb).2 with y|y|y
         ·have:=m1.live id b hl;rcases p7 with⟨_,hsa⟩|⟨hfl',_⟩
          ·exact(this.2.1 ((hsa b).1 y)).elim
          ·rw[hfl]at hfl';cases hfl'
         ·have:=(m1.live id b hl).1;rw[e1]at this;omega
         ·obtain⟨j,k,xs,_,y2⟩:=y;exact NX y2
        ·exact((m1.live id b hl).2.1 hb).elim
       ·exact .inr (.inl q)
      ·have hd'c:d'.cid∈cids:=by
        obtain⟨d,hd,es⟩:=bW hmo.same d' hd';rw[<- hcids,es.1];exact N9.2 ⟨d,hd,rfl⟩
       obtain⟨d2,hd2,e,g,q,_⟩:=hc2C _ hd'c;have hn':(cos'.map (·.cid)).Nodup:=by rw[jT hmo.same];exact hnod
       have:d2=d':=by
        have g1:=fX hn' hd2;have g2:=fX hn' hd';rw[e,g2]at g1;obtain⟨dc,dt,do',dm,dk,dxs⟩:=d2;obtain⟨dc',dt',do2,dm',dk',dxs'⟩:=d';simp only at e;subst e;cases g1;rfl
       subst this;exact⟨g+1,q⟩
      ·have hnc:cid ∉ cids:=by
        intro hq;rw[<- hcids]at hq;obtain⟨d,hd,e⟩:=N9.1 hq;exact hn d hd e
       by_cases hid:I0 cid
       ·have z1:∀o,c1.hp cid=some o->o≠ .col t off m k xs g p:=by
         rintro o ho rfl;rw[p6 cid hid]at ho;rcases hin cid hid with⟨k',hk⟩|⟨hmm,_⟩
         ·obtain⟨h,hh1,hh2⟩:=Oe.1 hk;obtain⟨j,hj⟩:=hmem h hh1;obtain⟨_,_,_,_,_,_,_,_,_,q8,_⟩:=hrepj j h hj;obtain⟨cs,x,e10,_⟩:=q8 cid k' hh2;rw[ho]at e10;cases e10
         ·obtain⟨h,hh1,hh2⟩:=Oe.1 hmm;obtain⟨j,hj⟩:=hmem h hh1;obtain⟨_,_,_,_,_,_,_,_,q7,_,_⟩:=hrepj j h hj;obtain⟨k1,xs1,gen,hist,e9⟩:=q7 cid hh2;rw[ho]at e9;cases e9
        refine⟨λq=>?_,λq=>(z1 _ q rfl).elim⟩;rcases hc2I cid hid with y|⟨cs,b,y,_⟩
        ·rw[y]at q;cases q
        ·rw[y]at q;cases q
       ·rw[hc2hp cid (λq=>q.elim hid hnc)]
      ·by_cases hid:I id
       ·obtain⟨z1,z2⟩:=ht.live id b hid hl;refine⟨z2,λhb=>?_⟩;rcases hid with hid|hid
        ·rcases hc2I id hid with q|⟨cs,b',q1,q2,q3,q4,q5,k,q6⟩
         ·obtain⟨_,o,y1,y2⟩:=hl;rw[q]at y1;cases y1;simp[Obj.live]at y2
         ·obtain⟨h,hh1,hh2⟩:=Oe.1 q6;obtain⟨j,hj⟩:=hmem h hh1;obtain⟨_,_,_,_,_,_,_,_,_,q8,_⟩:=hrepj j h hj;obtain⟨cs0,x,e10,e11,e12,e13,e14⟩:=q8 id k hh2;refine⟨j,k,x,by rw[Ot,hj];exact congrArg some e13,?_⟩;rw[Ot,hj];have:c.β id=some b:=hl.1;exact congrArg some (e14.trans this)
        ·obtain⟨d',_,_,g,q,_⟩:=hc2C id hid;obtain⟨_,o,y1,y2⟩:=hl;rw[q]at y1;cases y1;cases y2
       ·obtain⟨z0,o,z1,z2⟩:=hl;rw[hc2hp id hid]at z1;have hl1:Live c1 id b:=⟨by rw[e2];exact z0,o,z1,z2⟩
        refine⟨hl1,λhb=>?_⟩;exfalso;obtain⟨j,hj⟩:=Oo.1 hb;obtain⟨h,hj,hb2⟩:=hbs j b hj;obtain⟨_,_,_,_,_,q4,_⟩:=hrepj j h hj;obtain⟨id',hid',hl'⟩:=q4 b hb2;have hI:=hexm h (NX hj) id' hid';have:=m1.one id id' b hl1 ((hlive1 id' b hI).2 hl');subst this;exact hid (.inl hI)
     exact⟨hB.man hM1 m1,λl b hx=>(hB.own2 hM1.r hx).imp (·.2) (·.2)⟩
    obtain⟨hM2,hM2f⟩:=hM2';have hhp2:∀(uo:Upd) id,hpU uo c2.hp id=hpU (uo++(ia (hs.flatMap Hand.io) L)++(CU++(nC (hs.flatMap Hand.mv)++u))) c.hp id:=by
     intro uo id;show hpU uo (hpU _ c1.hp) id=_;rw[p1];have a1:hpU (ia (hs.flatMap Hand.io) L++(CU++nC (hs.flatMap Hand.mv))) (hpU u c.hp)=hpU ((ia (hs.flatMap Hand.io) L++(CU++nC (hs.flatMap Hand.mv)))++u) c.hp:=funext λid=>iX _ _ _ id
     rw[a1,iX];simp only[N7]
    -- what the results say
    have hgood2:∀p∈comps.take ks.length,∀s∈p.2,∀v,RepS (clC te' w' S') s v->RepS c2 s v:=by
     intro p hp1 s hs1 v hsv;cases hfl:(ks.any K.rows || eC args || !cids.isEmpty)with
     |true=>exact hclosed hfl s v hsv
     |false=>
      have hfl':ks.any K.rows=false:=by simp only[Ph]at hfl;exact hfl.1.1
      have hio0:(hs.flatMap Hand.io)=[]:=by
       rw[QQ];exact hflag hfl
      have hsc:scal s=true:=by
       refine vO _ rr ?_ p (Pa hp1) s hs1;show(Sig.ks ⟨iM own ks,(hs.flatMap Hand.io).map (λx:Nat×K=>x.2)++(List.map (λd=>(coAV d,K.slice d.k)) ds).map (λx:AV×K=>x.2)⟩).any K.rows=false;rw[Sig.ks_eq];simp only[hzk,hio0,hempty hfl,OY,Oq];exact hfl'
      exact HI (c:=clC te' w' S') (c':=c2) (TLe.refl _) hsc hsv
    have hpost:(λr=>let p:=j3 tup dst own ks.length (hs.flatMap Hand.io) (lvs _ r);(p.1,p.2++(wL hp cids ((lvs _ r).drop (ks.length+(hs.flatMap Hand.io).length))++(nC (hs.flatMap Hand.mv)++u)))) rr=((j3 tup dst own ks.length (hs.flatMap Hand.io) comps).1,(j3 tup dst own ks.length (hs.flatMap Hand.io) comps).2++(CU++(nC (hs.flatMap Hand.mv)++u))):=rfl;have hval:∀(c3:Cx) (l:List (Bool×List S)),LR (y9 c3) l arr.toList->RepV c3 (bif tup then .tup l else oneV l) (tupA arr):=by
     intro c3 l hl;have hln:=hl.length;have hrl:arr.toList.length=ks.length:=by
      rw[Bw _ _ _ hrv,hzl]
     cases htp:tup with
     |true=>
      rw[htp]at htup;have:arr.toList.length≠1:=by
       rw[hrl];intro h1;rw[h1]at htup;simp at htup
      simp only[NH];rw[Eo this];exact⟨arr,rfl,hl⟩
     |false=>
      rw[htp]at htup;have h1:ks.length=1:=by
       have:Nat.beq ks.length 1=true:=by
        cases hq:Nat.beq ks.length 1 with
        |true=>rfl
        |false=>rw[hq]at htup;simp at htup
       exact NB this
      simp only[NS]
      match l,hal:arr.toList,hl,hln,hrl with
      |[(g,cs)],[x],hl,_,_=>
       rw[Hu hal];exact vz.1 hl.1
      |[],[],_,_,hrl=>simp at hrl;omega
      |_::_::_,_,_,hln,hrl=>simp at hln;omega
    -- the two ways
    cases hor:dO dst own (comps.take ks.length)with
    |none=>
     refine⟨tupA arr,c2,rfl,rfl,hm2,hx2,?_,?_,hM2⟩
     ·rw[hpost];have:(j3 tup dst own ks.length (hs.flatMap Hand.io) comps).2=ia (hs.flatMap Hand.io) L:=by rw[qH hor];exact hLu
      rw[this];funext id;have:=hhp2 [] id;rw[cC]at this;simpa using this
     ·rw[hpost];have:(j3 tup dst own ks.length (hs.flatMap Hand.io) comps).1=.undef:=by rw[qH hor]
      rw[this];trivial
    |some q=>
     obtain⟨l,uo⟩:=q;have hp1':(j3 tup dst own ks.length (hs.flatMap Hand.io) comps).1=(bif tup then .tup l else oneV l):=by rw[qG hor]
     have hp2':(j3 tup dst own ks.length (hs.flatMap Hand.io) comps).2=uo++ia (hs.flatMap Hand.io) L:=by rw[qG hor,<- hLu]
     rcases Dn ks dst own _ l uo arr.toList hor hrv with⟨rfl,hk⟩|⟨d,k,xs,ob,v,rfl,rfl,q3,q4,⟨pp,q5,q6⟩,q7⟩
     ·refine⟨tupA arr,c2,rfl,rfl,hm2,hx2,?_,?_,hM2⟩
      ·rw[hpost,hp2'];funext id;have:=hhp2 [] id;rw[cC]at this;simpa using this
      ·rw[hpost,hp1'];exact hval c2 l (hk c2 hgood2)
     ·-- a row of one's own
      have hfl:(ks.any K.rows || eC args || !cids.isEmpty)=true:=by
       cases hfl:(ks.any K.rows || eC args || !cids.isEmpty)with
       |true=>rfl
       |false=>
        exfalso;have hfl':ks.any K.rows=false:=by simp only[Ph]at hfl;exact hfl.1.1
        have hio0:(hs.flatMap Hand.io)=[]:=by
         rw[QQ];exact hflag hfl
        have:scal (.sl k xs)=true:=by
         refine vO _ rr ?_ pp (Pa q5) _ q6;show(Sig.ks ⟨iM own ks,(hs.flatMap Hand.io).map (λx:Nat×K=>x.2)++(List.map (λd=>(coAV d,K.slice d.k)) ds).map (λx:AV×K=>x.2)⟩).any K.rows=false;rw[Sig.ks_eq];simp only[hzk,hio0,hempty hfl,OY,Oq];exact hfl'
        simp[scal]at this
      have hownpos:(Nat.beq (lf own) 0)=false:=by
       have:∀(d:Option Nat) (own:List Bool) (cm l:List (Bool×List S)) (u:Upd),dO d own cm=some (l,u)->u≠[]->lf own≠0:=by
        intro d own
        induction own generalizing d with
        |nil=>
         intro cm
         induction cm with
         |nil=>intro l u h hu;simp[dO]at h;exact(hu h.2).elim
         |cons p r ih=>
          intro l u h hu;simp only[dO]at h;split at h
          ·rename_i l1 u1 e9;simp only[Nz,Ov]at h;exact ih l1 u1 e9 (by rw[h.2];exact hu)
          ·cases h
        |cons o os ih=>
         intro cm l u h hu;cases o with
         |true=>simp[lf]
         |false=>
          cases cm with
          |nil=>simp[dO]at h;exact(hu h.2).elim
          |cons p r=>
           simp only[dO]at h;split at h
           ·rename_i l1 u1 e9;simp only[Nz,Ov]at h;have:=ih d r l1 u1 e9 (by rw[h.2];exact hu);simpa[lf]using this
           ·cases h
       have:=this _ _ _ _ _ hor (by simp);cases hq:Nat.beq (lf own) 0 with
       |true=>exact(this (NB hq)).elim
       |false=>rfl
      rw[hownpos]at hfrd;simp only[Q1]at hfrd;obtain⟨d',hd'⟩:=Pt.1 hfrd;obtain⟨z1,z2⟩:=cK hd';cases z1;have hcd:=hf d rfl z2;have hc2d:c2.hp d=none:=by
       have hnI:¬ I d:=by
        intro hid;rcases hid with hid|hid
        rotate_left
        ·obtain⟨d',_,_,g,_,xs',q0⟩:=hc2C d hid;rw[(hceq ..).1 q0]at hcd;cases hcd
        rcases hin d hid with⟨k',hk'⟩|⟨hmm,_⟩
        ·obtain⟨h,hh1,hh2⟩:=Oe.1 hk';obtain⟨j,hj⟩:=hmem h hh1;obtain⟨_,_,_,_,_,_,_,_,_,q8,_⟩:=hrepj j h hj;obtain⟨cs,x,e10,_⟩:=q8 d k' hh2;rw[hcd]at e10;cases e10
        ·obtain⟨h,hh1,hh2⟩:=Oe.1 hmm;obtain⟨j,hj⟩:=hmem h hh1;obtain⟨_,_,_,_,_,_,_,_,q7',_,_⟩:=hrepj j h hj;obtain⟨k1,xs1,gen,hist,e9⟩:=q7' d hh2;rw[hcd]at e9;cases e9
       rw[hc2hp d hnI,p1];unfold hpU;split
       ·rename_i o ho;rw[hfl]at hu;simp only[NH]at hu;obtain⟨k',xs',gen',hist',frz',t1,_⟩:=iE hu ho;rw[z2]at t1;cases t1
       ·exact hcd
      let β':Nat->Option Nat:=λj=>if j=d then ob else c2.β j
      have hβ':∀id,id≠d->β' id=c2.β id:=λid hid=>by simp[β',hid]
      let c3:Cx:={ c2 with β:=β',hp:=upd c2.hp d (.row k xs 0 [] false) }
      have hβd:c3.β d=ob:=by simp[c3,β']
      have hm3:Mem w0 M c3:=by
       refine Mem.name hm2 hc2d hβ' ?_ ?_
       ·unfold RepO;show match c3.β d with|none=>_|some b=>_
        rw[hβd];cases ob with
        |none=>exact q3.2
        |some b=>
         obtain⟨cap,ar,a,y1,y2,y3,y4,y5,y6⟩:=q3;exact⟨⟨ar,y4.blk,y5,λi x hx=>by
          obtain⟨vs',t1,t2⟩:=y6 i x hx;exact⟨vs',RepT.mono (w:=w') (λ_ _=>rfl) (λb hb=>hSS b hfl hb) t1,t2⟩⟩,λ_=>⟨ar,y4⟩,λh=>by cases h⟩
       ·intro b hb _;have hb':ob=some b:=by rw[<- hβd];exact hb
        obtain⟨⟨y1,y2,_⟩,y3⟩:=q4 b hb';have hns:¬ S2 b:=by
         rintro(⟨_,z⟩|⟨z,_⟩)
         ·exact y3 z
         ·rw[hfl]at z;cases z
        refine⟨y1,hns,?_,λid hl=>?_⟩
        ·rcases y2 with y2|y2
         ·exact .inl (Oa hm.fr.size y2)
         ·obtain⟨id,_,hl,_⟩:=hmvB b y2;exact(hm.live id b hl).2.2
        ·-- nobody else names it
         have hlc:Live c id b/\(∀h∈hs,id ∉ h.mv):=by
          by_cases hid:I id
          ·rcases hid with hid|hid
           rotate_left
           ·obtain⟨d',_,_,g,q,_⟩:=hc2C id hid;obtain⟨_,o,z1,z2⟩:=hl;rw[q]at z1;cases z1;cases z2
           rcases hc2I id hid with q|⟨cs,b',q1,q2,q3',q4',q5',k',q6'⟩
           ·obtain⟨_,o,z1,z2⟩:=hl;rw[q]at z1;cases z1;simp[Obj.live]at z2
           ·obtain⟨h1,h2⟩:=ht.live id b (.inl hid) hl;refine⟨(hlive1 id b hid).1 h2,λh hh1 hh2=>?_⟩;obtain⟨j,hj⟩:=hmem h hh1;obtain⟨_,_,_,_,_,_,_,_,q7',_,_⟩:=hrepj j h hj;obtain⟨k1,xs1,gen,hist,e9⟩:=q7' id hh2;obtain⟨h',hh1',hh2'⟩:=Oe.1 q6';obtain⟨j',hj'⟩:=hmem h' hh1';obtain⟨_,_,_,_,_,_,_,_,_,q8,_⟩:=hrepj j' h' hj';obtain⟨cs',x,e10,_⟩:=q8 id k' hh2';rw[e9]at e10;cases e10
          ·obtain⟨z0,o,z1,z2⟩:=hl;rw[hc2hp id hid]at z1;have hl1:Live c1 id b:=⟨by rw[e2];exact z0,o,z1,z2⟩
           refine⟨?_,λh hh1 hh2=>hid (.inl (hexm h hh1 id (by simp only[Hand.excl,NU];exact .inl hh2)))⟩;refine⟨z0,?_⟩;rw[p1]at z1;unfold hpU at z1;split at z1
           ·rename_i o' ho';rw[hfl]at hu;simp only[NH]at hu;obtain⟨k',xs',gen',hist',frz',t1,rfl⟩:=iE hu ho';simp only[Nz]at z1;subst z1;simp[Obj.live]at z2
           ·exact⟨o,z1,z2⟩
         obtain⟨hlc,hnm⟩:=hlc;rcases y2 with y2|y2
         ·have:=(hm.live id b hlc).1;omega
         ·obtain⟨id',hid',hl',h,hh1,hh2⟩:=hmvB b y2;have:=hm.one id id' b hlc hl';subst this;exact hnm h hh1 hh2
      have hM3:Man A te0 w0 M c3:=by
       refine Man.name hM2 hc2d hβ' (λ_ _ _ _ _ _ _ e=>by cases e) λb hb _ l hx=>?_
       have hb':ob=some b:=by rw[<- hβd];exact hb
       obtain⟨⟨y1,y2,y4⟩,y3⟩:=q4 b hb';obtain⟨z1,z2,z3⟩:=hM2.r.sep l b hx;by_cases hpas:OwnX (coC te' w' S' cos') l b
       ·exact y4 ⟨l,hpas⟩
       ·rcases y2 with y2|y2
        ·rcases hM2f l b hx with q|q
         ·exact hpas q
         ·have:=(hM1.r.sep l b q).1;rw[e1]at this;omega
        ·obtain⟨id,hid,hl,_⟩:=hmvB b y2;rcases hM2f l b hx with q|q
         ·exact hpas q
         ·exact(hM1.r.sep l b q).2.2 id ((hlive1 id b hid).2 hl)
      have hx3:Ext c2 c3:=Ext.name (c:=c2) (o:=.row k xs 0 [] false) hc2d hβ';refine⟨tupA arr,c3,rfl,rfl,hm3,hx2.trans hx3.m,?_,?_,hM3⟩
      ·rw[hpost,hp2'];funext id;rw[<- hhp2 [(d,.row k xs 0 [] false)] id,bO,cC]
      ·rw[hpost,hp1'];refine hval c3 l (q7 c3 (λp hp1 s hs1 v hsv=>hx3.rep (hgood2 p hp1 s hs1 v hsv)) ?_);refine⟨?_,.row k xs 0 [] false,by simp[c3,upd],λk' xs' gen' hist' frz' e'=>?_⟩
       ·unfold bR at q3;cases ob with
        |none=>rw[q3.1];rfl
        |some b=>obtain⟨cap,ar,a,y1,_⟩:=q3;rw[y1];rfl
       ·cases e';refine⟨NG _,λ_=>?_,λh=>(h rfl).elim⟩;simp only[cz];rw[hβd];cases ob with
        |none=>
         obtain⟨y1,rfl⟩:=q3;exact⟨y1,by simp⟩
        |some b=>
         obtain⟨cap,ar,a,y1,y2,y3,y4,y5,y6⟩:=q3;exact⟨cap,ar,a,y1,y2,y4.blk,by simp,λhc0=>⟨by simpa using(y3 hc0).1,by simpa using(y3 hc0).2⟩⟩
   ·cases h
 ·cases h
end
end Go.Eng
namespace Go.Eng
open Go.RowKit
def dh (te:TE)(w:World)(Sb:Nat->Prop)(t i off:Nat)(ob:Option Nat)(v:Value)(pd:Prop):(m:Mode)->(k:K)->k.T->Prop
 |.dat,k,x=>∀b arr,te.ι t i=some b->Blk w b arr->∃vs,RepT te w Sb k x vs/\∀(j:Nat) v,vs[j]?=some v->arr[off+j]?=some v
 |.own,.slice e,x=>bR te w Sb ob e x v/\(¬ pd->∀b arr,te.ι t i=some b->Blk w b arr->arr[off]?=some v)
 |.mp,.slice (.prod (.int .i64) (.ref e)),x=>∃b' ents clock,ob=some b'/\v=.map (some b')/\w.heap[b']?=some (.map ents clock)/\(LR (RepM te (.ref e)) (x:List (Int×Option Nat)) ents.toList/\MapKept.Stamped ents clock)/\(∀b arr,te.ι t i=some b->Blk w b arr->arr[off]?=some v)
 |_,_,_=>True
theorem dh.mono {te te':TE}{w w':World}{Sb Sb':Nat->Prop}{t i off:Nat}{ob:Option Nat}{v:Value}{pd pd':Prop}(ht:TLe te te')(hst:∀b,Sb b->w'.heap[b]?=w.heap[b]?)(hs:∀b,Sb b->Sb' b){m:Mode}(hob:m≠ .dat->∀b,ob=some b->w'.heap[b]?=w.heap[b]?){k:K}
  (hbx:∀b arr',te'.ι t i=some b->Blk w' b arr'->te.ι t i=some b/\∃arr,Blk w b arr/\∀o,off<=o->o<off+csz m k->arr'[o]?=arr[o]?) (hpd:pd->pd') {x:k.T} (h:dh te w Sb t i off ob v pd m k x):dh te' w' Sb' t i off ob v pd' m k x:=by
 unfold dh at h ⊢;split
 ·intro b arr' hb hbk;obtain⟨hb0,arr,q1,q2⟩:=hbx b arr' hb hbk;obtain⟨vs,r1,r2⟩:=h b arr hb0 q1;refine⟨vs,RepT.move ht hst hs r1,λj u hu=>?_⟩;have hj:j<vs.length:=(NJ.1 hu).1;rw[RepT.len r1]at hj;rw[q2 (off+j) (by omega) (by simp only[csz];omega)];exact r2 j u hu
 ·refine⟨bR.move ht hst hs (λb hb=>hob (by simp) b hb) h.1,λhp b arr' hb hbk=>?_⟩;obtain⟨hb0,arr,q1,q2⟩:=hbx b arr' hb hbk;rw[q2 off (by omega) (by simp only[csz];omega)];exact h.2 (λq=>hp (hpd q)) b arr hb0 q1
 ·obtain⟨b',ents,clock,h1,h2,h3,h4,h5⟩:=h;refine⟨b',ents,clock,h1,h2,by rw[hob (by simp) b' h1];exact h3,⟨h4.1.mono λ_ _ _ q=>⟨q.1,RepE.le ht q.2⟩,h4.2⟩,λb arr' hb hbk=>?_⟩;obtain⟨hb0,arr,q1,q2⟩:=hbx b arr' hb hbk;rw[q2 off (by omega) (by simp only[csz];omega)];exact h5 b arr hb0 q1
 ·trivial
def M4 (c:Cx):Prop:=∀cid t off m k (xs:List k.T) g p,c.hp cid=some (.col t off m k xs g p)->∀i x,xs[i]?=some x->dh c.te c.w c.S t i off (c.te.ow cid i) (c.te.cur cid i) (p=some i) m k x
theorem ManR.items {A:Ann}{c:Cx}(hM:ManR A c):M4 c:=by
 intro cid t off m k xs g p hc i x hx;cases m with
 |dat=>exact λb arr hb hbk=>hM.dat cid t off k xs g p hc i x b arr hx hb hbk
 |own=>
  cases k with
  |slice e=>exact hM.own cid t off e xs g p hc i x hx
  |_=>trivial
 |mp=>
  cases k with
  |slice e=>
   cases e with
   |prod a b=>
    cases a with
    |int ik=>
     cases b with
     |ref e=>cases ik<;>first|exact hM.mpp cid t off e xs g p hc i x hx|trivial
     |_=>cases ik<;>trivial
    |_=>trivial
   |_=>trivial
  |_=>trivial
theorem ManR.of_items {A:Ann}{c:Cx}(lay:∀t,wQ (A.man t))
  (ci:∀cid t off m k (xs:List k.T) g p,c.hp cid=some (.col t off m k xs g p)->cid=aX t off/\(off,m,k)∈A.man t)
  (dom:∀cid t off m k (xs:List k.T) g p,c.hp cid=some (.col t off m k xs g p)->∀i,i<xs.length ↔ (c.te.ι t i).isSome=true)
  (box:∀t i b,cO c t->c.te.ι t i=some b->∃arr,bD c.w b arr/\(∀v∈arr.toList,Go.Eng.one v=true)/\∀d∈A.man t,d.1+csz d.2.1 d.2.2<=arr.size)
  (it:M4 c)
  (sep:∀l b,OwnX c l b->b<c.w.heap.size/\¬ c.S b/\∀id,¬ Live c id b)
  (one:∀l l' b,OwnX c l b->OwnX c l' b->l=l'):ManR A c:=by
 refine⟨lay,ci,dom,box,λcid t off k xs g p hc i x b arr hx=>?_,λcid t off e xs g p hc i x hx=>?_,λcid t off e xs g p hc i es hx=>?_,sep,one⟩
 ·exact it cid t off .dat k xs g p hc i x hx b arr
 ·exact it cid t off .own (.slice e) xs g p hc i x hx
 ·exact it cid t off .mp _ xs g p hc i es hx
def cG (A:Ann)(te0:TE)(w0:World)(M:MS)(c:Cx)(nx:Result Next)(v:AV)(u:Upd):Prop:=
 ∃nv c',nx=.ok nv c'.w/\Mem w0 M c'/\ExtM c c'/\c'.hp=hpU u c.hp/\Man A te0 w0 M c'/\((∃v',nv=.value v'/\RepV c' v v')\/(nv=.skip/\v=.undef))
theorem sC {d:Option Nat}{hp:Nat->Option Obj}{c:Cx}(hh:∀id o,hp id=some o->c.hp id=some o)(hf:∀i,d=some i->hp i=none->c.hp i=none):∀{u:Upd},jS d hp u=true->∀id o,hget u id=some o->(∀t off m k (xs:List k.T) g p,o≠ .col t off m k xs g p)/\∀t off m k (xs:List k.T) g p,c.hp id≠some (.col t off m k xs g p)
 |[],_,id,o,h=>by simp[hget]at h
 |(j,q)::r,hs,id,o,h=>by
  simp only[jS,NM]at hs;simp only[hget]at h;cases hb:Nat.beq j id with
  |false=>rw[hb]at h;exact sC hh hf hs.2 id o h
  |true=>
   rw[hb]at h;simp only[NH,Nz]at h;have:=NB hb;subst this;subst h;have h1:=hs.1;refine⟨λt off m k xs g p e=>by subst e;simp at h1,λt off m k xs g p e=>?_⟩;split at h1
   ·cases h1
   ·cases h1
   ·rename_i o' h2 h3 h4;rw[hh _ _ h4]at e;cases e
    first|exact h3 _ _ _ _ _ _ _ rfl|exact h2 _ _ _ _ _ _ _ rfl
   ·rename_i h2 h4;split at h1
    ·rename_i jj;have:=NB h1;subst this;rw[hf _ rfl h4]at e;cases e
    ·cases h1
theorem I5 {d:Option Nat}{hp:Nat->Option Obj}{c c':Cx}(hh:∀id o,hp id=some o->c.hp id=some o)(hf:∀i,d=some i->hp i=none->c.hp i=none){u:Upd}(hs:jS d hp u=true)(he:c'.hp=hpU u c.hp):nN c c':=by
 intro cid t off m k xs g p;rw[he];unfold hpU;cases hg:hget u cid with
 |none=>rfl
 |some o=>
  obtain⟨h1,h2⟩:=sC hh hf hs cid o hg;simp only[];exact⟨λe=>by cases e;exact(h1 _ _ _ _ _ _ _ rfl).elim,λe=>(h2 _ _ _ _ _ _ _ e).elim⟩
theorem aU.man {A:Ann}{te0:TE}{w0:World}{M:MS}{c:Cx}{nx:Result Next}{v:AV}{u:Upd}{d:Option Nat}{hp:Nat->Option Obj}(hm:Mem w0 M c)(hM:Man A te0 w0 M c)(hh:∀id o,hp id=some o->c.hp id=some o)(hf:∀i,d=some i->hp i=none->c.hp i=none)(hs:jS d hp u=true)
  (h:aU c.w (here c) c nx v u):cG A te0 w0 M c nx v u:=by
 obtain⟨nv,c',e1,e2,e3,e4,e5⟩:=h;exact⟨nv,c',e1,hm.step e2,e3.m,e4,hM.lift e3.te e3 e2 (I5 hh hf hs e4),e5⟩
theorem Gg {A:Ann}{te0:TE}{w0:World}{M:MS}{c:Cx}(hm:Mem w0 M c)(hM:Man A te0 w0 M c){hp:Nat->Option Obj}(hh:∀id o,hp id=some o->c.hp id=some o){ids:List Nat}{u:Upd}(h:frzU hp ids=some u):
  ∃c1,c1.w=c.w/\c1.β=c.β/\Mem w0 M c1/\Ext c c1/\c1.hp=hpU u c.hp/\(∀id∈ids,∀b,c.β id=some b->c1.S b)/\Man A te0 w0 M c1/\nN c c1:=by
 obtain⟨c1,f1,f2,m1,x1,p1,p2⟩:=yl hm.here hh h;have hc:nN c c1:=by
  intro cid t off m k xs g p;rw[p1];unfold hpU;cases hg:hget u cid with
  |none=>rfl
  |some o=>
   obtain⟨k',xs',gen,hist,frz,t1,rfl⟩:=iE h hg;simp only[];exact⟨λe=>(by cases e),λe=>(by rw[hh _ _ t1]at e;cases e)⟩
 exact⟨c1,f1,f2,hm.step m1,x1,p1,p2,hM.lift x1.te x1 m1 hc,hc⟩
theorem cG.after {A:Ann}{te0:TE}{w0:World}{M:MS}{c c1:Cx}{nx:Result Next}{v:AV}{u u1:Upd}(he:Ext c c1)(hp:c1.hp=hpU u1 c.hp)(h:cG A te0 w0 M c1 nx v u):cG A te0 w0 M c nx v (u++u1):=by
 obtain⟨nv,c',e1,e2,e3,e4,e5,e6⟩:=h;refine⟨nv,c',e1,e2,he.m.trans e3,?_,e5,e6⟩;rw[e4,hp];funext id;exact iX _ _ _ id
def TE.tset (te:TE)(cid i:Nat)(ob:Option Nat)(v:Value):TE:=
 { te with ow:=λa j=>if a=cid/\j=i then ob else te.ow a j,cur:=λa j=>if a=cid/\j=i then v else te.cur a j }
theorem TE.tset_le (te:TE)(cid i:Nat)(ob:Option Nat)(v:Value):TLe te (te.tset cid i ob v):=⟨rfl,λ_ _ _ h=>h⟩
structure bH (A:Ann)(w0:World)(M:MS)(c:Cx)(cid t off:Nat)(m:Mode)(k:K)(xs xs':List k.T)(g g':Nat)(p p':Option Nat)(i:Nat)(ob:Option Nat)(v:Value)(w':World):Prop where
 old:c.hp cid=some (.col t off m k xs g p)
 os:w'.os=c.w.os
 tape:w'.tape=c.w.tape
 output:w'.output=c.w.output
 size:c.w.heap.size<=w'.heap.size
 len:xs'.length=xs.length
 rest:∀j,j≠i->xs'[j]?=xs[j]?
 gen:g<g'\/(g'=g/\xs'=xs/\ob=c.te.ow cid i/\v=c.te.cur cid i)
 pend:∀j,j≠i->p=some j->p'=some j
 blk:∀b,b<c.w.heap.size->c.te.ι t i≠some b->(m=.dat\/i≥xs.length\/c.te.ow cid i≠some b)->w'.heap[b]?=c.w.heap[b]?
 box:∀b arr,c.te.ι t i=some b->bD c.w b arr->(∀v∈arr.toList,Go.Eng.one v=true)->off+csz m k<=arr.size->∃arr',bD w' b arr'/\(∀v∈arr'.toList,Go.Eng.one v=true)/\arr'.size=arr.size/\∀o,¬ (off<=o/\o<off+csz m k)->arr'[o]?=arr[o]?
 obn:m≠ .dat->∀b,ob=some b->c.te.ow cid i=some b\/(b<w'.heap.size/\¬ c.S b/\(∀id,¬ Live c id b)/\(∀l,¬ OwnX c l b)/\(w0.heap.size<=b\/M.f b))
 item:∀x,xs'[i]?=some x->dh c.te w' c.S t i off ob v (p'=some i) m k x
def Cx.cset (c:Cx)(cid t off:Nat)(m:Mode)(k:K)(xs':List k.T)(g':Nat)(p':Option Nat)(i:Nat)(ob:Option Nat)(v:Value)(w':World):Cx:=
 { c with te:=c.te.tset cid i ob v,w:=w',hp:=upd c.hp cid (.col t off m k xs' g' p') }
section
variable {A:Ann} {te0:TE} {w0:World} {M:MS} {c:Cx} {cid t off:Nat} {m:Mode} {k:K} {xs xs':List k.T} {g g':Nat} {p p':Option Nat} {i:Nat} {ob:Option Nat} {v:Value} {w':World}
def bH.X (c:Cx)(cid t:Nat)(m:Mode)(k:K)(xs:List k.T)(i b:Nat):Prop:=c.te.ι t i=some b\/(m≠ .dat/\i<xs.length/\c.te.ow cid i=some b)
theorem bH.ownX (h:bH A w0 M c cid t off m k xs xs' g g' p p' i ob v w'){b:Nat}(hx:bH.X c cid t m k xs i b):∃l,OwnX c l b:=by
 rcases hx with hx|⟨h1,h2,h3⟩
 ·exact⟨.man t i,⟨cid,off,m,k,xs,g,p,h.old⟩,hx⟩
 ·exact⟨.own cid i,⟨t,off,m,k,xs,g,p,h.old,h1,h2⟩,h3⟩
theorem bH.same (h:bH A w0 M c cid t off m k xs xs' g g' p p' i ob v w'){b:Nat}(hb:b<c.w.heap.size)(hx:¬ bH.X c cid t m k xs i b):w'.heap[b]?=c.w.heap[b]?:=by
 refine h.blk b hb (λq=>hx (.inl q)) ?_;by_cases hm:m=.dat
 ·exact .inl hm
 ·by_cases hi:i<xs.length
  ·exact .inr (.inr λq=>hx (.inr ⟨hm,hi,q⟩))
  ·exact .inr (.inl (by omega))
theorem bH.turns (h:bH A w0 M c cid t off m k xs xs' g g' p p' i ob v w')(hm:Mem w0 M c)(hM:Man A te0 w0 M c):sP w0 M c (·=cid) (bH.X c cid t m k xs i) (c.cset cid t off m k xs' g' p' i ob v w'):=by
 have hhp:(c.cset cid t off m k xs' g' p' i ob v w').hp cid=some (.col t off m k xs' g' p'):=by simp[Cx.cset,upd]
 refine⟨TE.tset_le ..,λj hj=>⟨?_,?_⟩,h.os,h.tape,h.output,h.size,λb hb _ hx=>h.same hb hx,λb hx=>?_,λ_ q=>q,λb hb=>⟨N1 (hm.below b hb) h.size,.inl hb⟩,λj hj=>⟨by simp[Cx.cset,upd,hj],rfl⟩,λj o hj ho=>?_,λj b hj hl=>?_,λj s v' hj hs hr=>?_⟩
 ·funext a;simp[Cx.cset,TE.tset,hj]
 ·funext a;simp[Cx.cset,TE.tset,hj]
 ·obtain⟨l,hl⟩:=h.ownX hx;exact⟨(hM.r.sep l b hl).2.1,(hM.r.sep l b hl).2.2,hM.f.wr l b hl⟩
 ·subst hj;rw[hhp]at ho;cases ho;trivial
 ·subst hj;obtain⟨_,o,h2,h3⟩:=hl;rw[hhp]at h2;cases h2;cases h3
 ·subst hj;have hold:=h.old;cases s<;>simp only[S.ids,NY,OV,reduceCtorEq]at hs
  case vw q n=>
   subst hs;exact⟨hr.1,_,hhp,λ_ _ _ _ _ e=>by cases e⟩
  case pv q n o1 l1=>
   subst hs;exact⟨hr.1,_,hhp,λ_ _ _ _ _ e=>by cases e⟩
  case ptr q n i1 p1=>
   subst hs;obtain⟨h0,o,h1,h2,_⟩:=hr;exact⟨h0,_,hhp,h2,λ_ e=>(by cases e),λ_ _ _ _ _ e=>(by cases e)⟩
  case mp q=>
   subst hs;exact⟨hr.1,_,hhp,λe=>by cases e⟩
  case rp t1 i1 o1=>
   obtain⟨b,h1,h2⟩:=hr;exact⟨b,h1,h2⟩
  case ov q n i1=>
   subst hs;obtain⟨h0,o,h1,h2⟩:=hr;rw[hold]at h1;cases h1;refine⟨h0,_,hhp,λt2 off2 m2 k2 xs2 g2 p2 e=>?_⟩;cases e;obtain⟨r1,r2⟩:=h2 _ _ _ _ _ _ _ rfl;rcases h.gen with hg|⟨hg,hx,ho,hv⟩
   ·exact⟨by omega,λe=>by omega⟩
   ·subst hg;refine⟨r1,λe=>⟨(r2 e).1,?_⟩⟩;rw[(r2 e).2];simp only[Cx.cset,TE.tset];split
    ·rename_i hq;rw[hq.2];exact hv.symm
    ·rfl
  case oe q n i1 j1 p1=>
   subst hs;obtain⟨h0,o,h1,hp1,h2⟩:=hr;rw[hold]at h1;cases h1;refine⟨h0,_,hhp,hp1,λt2 off2 m2 e2 xs2 g2 p2 e=>?_⟩;cases e;obtain⟨r1,r2⟩:=h2 _ _ _ _ _ _ _ rfl;rcases h.gen with hg|⟨hg,hx,ho,hv⟩
   ·exact⟨by omega,λe=>by omega⟩
   ·subst hg;subst hx;refine⟨r1,λe=>?_⟩;obtain⟨s1,s2,b,s3,s4⟩:=r2 e;refine⟨s1,s2,b,?_,s4⟩;simp only[Cx.cset,TE.tset];split
    ·rename_i hq;rw[ho,<- hq.2];exact s3
    ·exact s3
  case bm f q=>
   subst hs;obtain⟨p1,hv,o,h1,h2⟩:=hr;exact⟨p1,hv,_,hhp,λ_ e=>by cases e⟩
theorem bH.col (h:bH A w0 M c cid t off m k xs xs' g g' p p' i ob v w'){cid2 t2 off2:Nat}{m2:Mode}{k2:K}{xs2:List k2.T}{g2:Nat}{p2:Option Nat}(hc:(c.cset cid t off m k xs' g' p' i ob v w').hp cid2=some (.col t2 off2 m2 k2 xs2 g2 p2)):
  (cid2=cid/\(Obj.col t2 off2 m2 k2 xs2 g2 p2=.col t off m k xs' g' p'))\/(cid2≠cid/\c.hp cid2=some (.col t2 off2 m2 k2 xs2 g2 p2)):=by
 by_cases e:cid2=cid
 ·subst e;simp only[Cx.cset,upd,O8,Nz]at hc;exact .inl ⟨rfl,hc.symm⟩
 ·simp only[Cx.cset,upd,e,OE]at hc;exact .inr ⟨e,hc⟩
theorem AS:(c.cset cid t off m k xs' g' p' i ob v w').hp cid=some (.col t off m k xs' g' p'):=by simp[Cx.cset,upd]
theorem bH.held (h:bH A w0 M c cid t off m k xs xs' g g' p p' i ob v w')(t2:Nat):cO (c.cset cid t off m k xs' g' p' i ob v w') t2 ↔ cO c t2:=by
 constructor
 ·rintro⟨cid2,off2,m2,k2,xs2,g2,p2,q⟩;rcases h.col q with⟨rfl,e⟩|⟨_,q⟩
  ·cases e;exact⟨_,_,_,_,_,_,_,h.old⟩
  ·exact⟨_,_,_,_,_,_,_,q⟩
 ·rintro⟨cid2,off2,m2,k2,xs2,g2,p2,q⟩;by_cases e:cid2=cid
  ·subst e;rw[h.old]at q;cases q;exact⟨cid2,off,m,k,xs',g',p',AS⟩
  ·exact⟨cid2,_,_,_,_,_,_,by simp only[Cx.cset,upd,e,OE];exact q⟩
theorem bH.own (h:bH A w0 M c cid t off m k xs xs' g g' p p' i ob v w'){l:Lab}{b:Nat}(hx:OwnX (c.cset cid t off m k xs' g' p' i ob v w') l b):OwnX c l b\/(l=.own cid i/\m≠ .dat/\ob=some b):=by
 cases l with
 |man t2 i2=>exact .inl ⟨(h.held t2).1 hx.1,hx.2⟩
 |own cid2 i2=>
  obtain⟨⟨t2,off2,m2,k2,xs2,g2,p2,q1,q2,q3⟩,q4⟩:=hx;simp only[Cx.cset,TE.tset]at q4;split at q4
  ·rename_i hq;obtain⟨rfl,rfl⟩:=hq;rcases h.col q1 with⟨_,e⟩|⟨e,_⟩
   ·cases e;exact .inr ⟨rfl,q2,q4⟩
   ·exact(e rfl).elim
  ·rcases h.col q1 with⟨rfl,e⟩|⟨_,q⟩
   ·cases e;exact .inl ⟨⟨_,_,_,_,_,_,_,h.old,q2,by rw[<- h.len];exact q3⟩,q4⟩
   ·exact .inl ⟨⟨_,_,_,_,_,_,_,q,q2,q3⟩,q4⟩
theorem bH.man (h:bH A w0 M c cid t off m k xs xs' g g' p p' i ob v w')(hm:Mem w0 M c)(hM:Man A te0 w0 M c):Man A te0 w0 M (c.cset cid t off m k xs' g' p' i ob v w'):=by
 have hT:=h.turns hm hM;have hstab:=hT.stab hm;have hci:=hM.r.ci cid t off m k xs g p h.old;have hh0:cO c t:=⟨cid,off,m,k,xs,g,p,h.old⟩
 -- blocks that are owned by others
 have hsame:∀l b,OwnX c l b->l≠ .man t i->(l≠ .own cid i\/m=.dat)->w'.heap[b]?=c.w.heap[b]?:=by
  intro l b hl h1 h2;refine h.same (hM.r.sep l b hl).1 ?_;rintro(hx|⟨y1,y2,y3⟩)
  ·exact h1 (hM.r.one l (.man t i) b hl ⟨hh0,hx⟩)
  ·have:=hM.r.one l (.own cid i) b hl ⟨⟨t,off,m,k,xs,g,p,h.old,y1,y2⟩,y3⟩;exact h2.elim (λq=>q this) y1
 -- boxes
 have hbox:∀t2 i2 b,cO c t2->c.te.ι t2 i2=some b->∃arr arr',bD c.w b arr/\bD w' b arr'/\(∀v∈arr'.toList,Go.Eng.one v=true)/\arr'.size=arr.size/\(∀d∈A.man t2,d.1+csz d.2.1 d.2.2<=arr.size)/\∀o,(t2=t/\i2=i->¬ (off<=o/\o<off+csz m k))->arr'[o]?=arr[o]?:=by
  intro t2 i2 b hh hi;obtain⟨arr,q1,q2,q3⟩:=hM.r.box t2 i2 b hh hi;by_cases e:t2=t/\i2=i
  ·obtain⟨rfl,rfl⟩:=e;obtain⟨arr',r1,r2,r3,r4⟩:=h.box b arr hi q1 q2 (q3 _ hci.2);exact⟨arr,arr',q1,r1,r2,r3,q3,λo ho=>r4 o (ho ⟨rfl,rfl⟩)⟩
  ·have:=hsame (.man t2 i2) b ⟨hh,hi⟩ (λq=>e (by cases q;exact⟨rfl,rfl⟩)) (.inl (λq=>by cases q));exact⟨arr,arr,q1,q1.of this,q2,rfl,q3,λ_ _=>rfl⟩
 have hR:ManR A (c.cset cid t off m k xs' g' p' i ob v w'):=by
  refine ManR.of_items hM.r.lay (λcid2 t2 off2 m2 k2 xs2 g2 p2 hc=>?_) (λcid2 t2 off2 m2 k2 xs2 g2 p2 hc j=>?_) (λt2 i2 b hh hi=>?_) (λcid2 t2 off2 m2 k2 xs2 g2 p2 hc j x hx=>?_) (λl b hl=>?_) (λl l' b hl hl'=>?_)
  ·rcases h.col hc with⟨rfl,e⟩|⟨_,q⟩
   ·cases e;exact hci
   ·exact hM.r.ci _ _ _ _ _ _ _ _ q
  ·rcases h.col hc with⟨rfl,e⟩|⟨_,q⟩
   ·cases e;rw[h.len];exact hM.r.dom _ _ _ _ _ _ _ _ h.old j
   ·exact hM.r.dom _ _ _ _ _ _ _ _ q j
  ·obtain⟨arr,arr',q1,q2,q3,q4,q5,_⟩:=hbox t2 i2 b ((h.held t2).1 hh) hi;exact⟨arr',q2,q3,λd hd=>by rw[q4];exact q5 d hd⟩
  ·-- items
   by_cases hcj:cid2=cid/\j=i
   ·obtain⟨rfl,rfl⟩:=hcj;rcases h.col hc with⟨_,e⟩|⟨e,_⟩
    ·cases e;have e1:(c.cset cid2 t off m k xs' g' p' j ob v w').te.ow cid2 j=ob:=by simp[Cx.cset,TE.tset]
     have e2:(c.cset cid2 t off m k xs' g' p' j ob v w').te.cur cid2 j=v:=by simp[Cx.cset,TE.tset]
     rw[e1,e2];exact dh.mono (TE.tset_le ..) (λ_ _=>rfl) (λ_ h=>h) (λ_ _ _=>rfl) (λb arr' q1 q2=>⟨q1,arr',q2,λ_ _ _=>rfl⟩) (λq=>q) (h.item x hx)
    ·exact(e rfl).elim
   ·have e1:(c.cset cid t off m k xs' g' p' i ob v w').te.ow cid2 j=c.te.ow cid2 j:=by simp[Cx.cset,TE.tset,hcj]
    have e2:(c.cset cid t off m k xs' g' p' i ob v w').te.cur cid2 j=c.te.cur cid2 j:=by simp[Cx.cset,TE.tset,hcj]
    rw[e1,e2];have main:∀(xs2:List k2.T) (g3:Nat) (p3:Option Nat),c.hp cid2=some (.col t2 off2 m2 k2 xs2 g3 p3)->xs2[j]?=some x->(p3=some j->p2=some j)->dh (c.cset cid t off m k xs' g' p' i ob v w').te w' c.S t2 j off2 (c.te.ow cid2 j) (c.te.cur cid2 j) (p2=some j) m2 k2 x:=by
     intro xs2 g3 p3 hc3 hx3 hp3;have hit:=hM.r.items cid2 t2 off2 m2 k2 xs2 g3 p3 hc3 j x hx3;refine dh.mono (TE.tset_le ..) hstab (λ_ h=>h) (λhmd b hb=>?_) (λb arr' hb hbk=>⟨hb,?_⟩) hp3 hit
     ·refine hsame (.own cid2 j) b ⟨⟨t2,off2,m2,k2,xs2,g3,p3,hc3,hmd,(NJ.1 hx3).1⟩,hb⟩ (λq=>by cases q) (.inl λq=>hcj (by cases q;exact⟨rfl,rfl⟩))
     ·have hb:c.te.ι t2 j=some b:=hb;obtain⟨arr,arr'',q1,q2,_,_,_,q6⟩:=hbox t2 j b ⟨_,_,_,_,_,_,_,hc3⟩ hb;have:=hbk.uniqM q2.blk;subst this;refine⟨arr,q1.blk,λo h1 h2=>q6 o ?_⟩;rintro⟨rfl,rfl⟩ ⟨h3,h4⟩;have hci2:=hM.r.ci _ _ _ _ _ _ _ _ hc3;rcases(hM.r.lay t2).2 _ hci.2 _ hci2.2 with q|q|q
      ·cases q;exact hcj ⟨by rw[hci2.1,hci.1],rfl⟩
      ·simp only[]at q;omega
      ·simp only[]at q;omega
    rcases h.col hc with⟨rfl,e⟩|⟨_,q⟩
    ·cases e;have hj:j≠i:=λq=>hcj ⟨rfl,q⟩
     exact main xs g p h.old (by rw[<- h.rest j hj];exact hx) (h.pend j hj)
    ·exact main xs2 g2 p2 q hx (λq=>q)
  ·rcases h.own hl with q|⟨rfl,q1,q2⟩
   ·obtain⟨r1,r2,r3⟩:=hM.r.sep l b q;refine⟨N1 r1 h.size,r2,λid hid=>?_⟩;by_cases e:id=cid
    ·subst e;obtain⟨_,o,y2,y3⟩:=hid;simp[Cx.cset,upd]at y2;subst y2;cases y3
    ·exact r3 id ⟨hid.1,by obtain⟨o,y2,y3⟩:=hid.2;exact⟨o,by simpa[Cx.cset,upd,e]using y2,y3⟩⟩
   ·have hlive:∀id,Live (c.cset cid t off m k xs' g' p' i ob v w') id b->Live c id b:=by
     intro id hid;by_cases e:id=cid
     ·subst e;obtain⟨_,o,y2,y3⟩:=hid;simp[Cx.cset,upd]at y2;subst y2;cases y3
     ·exact⟨hid.1,by obtain⟨o,y2,y3⟩:=hid.2;exact⟨o,by simpa[Cx.cset,upd,e]using y2,y3⟩⟩
    rcases h.obn q1 b q2 with r|⟨r1,r2,r3,r4,r5⟩
    ·by_cases hi:i<xs.length
     ·obtain⟨s1,s2,s3⟩:=hM.r.sep (.own cid i) b ⟨⟨t,off,m,k,xs,g,p,h.old,q1,hi⟩,r⟩;exact⟨N1 s1 h.size,s2,λid hid=>s3 id (hlive id hid)⟩
     ·exfalso;obtain⟨⟨t2,off2,m2,k2,xs2,g2,p2,y1,y2,y3⟩,_⟩:=hl;rcases h.col y1 with⟨_,e⟩|⟨e,_⟩
      ·cases e;rw[h.len]at y3;exact hi y3
      ·exact e rfl
    ·exact⟨r1,r2,λid hid=>r3 id (hlive id hid)⟩
  ·-- one label for each block
   have key:∀l,OwnX c l b->OwnX (c.cset cid t off m k xs' g' p' i ob v w') l b->(m≠ .dat/\ob=some b)->OwnX (c.cset cid t off m k xs' g' p' i ob v w') (.own cid i) b->l=.own cid i:=by
    intro l h1 h3 h2 h4;rcases h.obn h2.1 b h2.2 with r|⟨_,_,_,r4,_⟩
    ·refine hM.r.one l _ b h1 ⟨⟨t,off,m,k,xs,g,p,h.old,h2.1,?_⟩,r⟩;obtain⟨⟨t2,off2,m2,k2,xs2,g2,p2,y1,y2,y3⟩,_⟩:=h4;rcases h.col y1 with⟨_,e⟩|⟨e,_⟩
     ·cases e;rw[h.len]at y3;exact y3
     ·exact(e rfl).elim
    ·exact(r4 l h1).elim
   rcases h.own hl with q|⟨q1,q2⟩<;>rcases h.own hl' with r|⟨r1,r2⟩
   ·exact hM.r.one l l' b q r
   ·subst r1;exact key l q hl r2 hl'
   ·subst q1;exact(key l' r hl' q2 hl).symm
   ·rw[q1,r1]
 refine⟨hR,λl b hl=>?_,λt2 i2 b arr2 hh hi hlt hbk=>?_,hM.f.tle,λt2 ht=>?_,λcid2 hn=>?_,hM.f.newb⟩
 ·rcases h.own hl with q|⟨rfl,q1,q2⟩
  ·exact hM.f.wr l b q
  ·rcases h.obn q1 b q2 with r|⟨_,_,_,_,r5⟩
   ·by_cases hi:i<xs.length
    ·exact hM.f.wr (.own cid i) b ⟨⟨t,off,m,k,xs,g,p,h.old,q1,hi⟩,r⟩
    ·exfalso;obtain⟨⟨t2,off2,m2,k2,xs2,g2,p2,y1,y2,y3⟩,_⟩:=hl;rcases h.col y1 with⟨_,e⟩|⟨e,_⟩
     ·cases e;rw[h.len]at y3;exact hi y3
     ·exact e rfl
   ·exact r5
 ·have hh':=(h.held t2).1 hh;obtain⟨arr,arr',q1,q2,_,q4,_,q6⟩:=hbox t2 i2 b hh' hi;have:=hbk.uniqM q2.blk;subst this;obtain⟨arr0,r1,r2,r3⟩:=hM.f.frc t2 i2 b arr hh' hi hlt q1.blk;refine⟨arr0,r1,by rw[r2,q4],λo ho=>?_⟩;rw[q6 o,r3 o]
  ·intro cid3 off3 m3 k3 xs3 g3 p3 hc3;by_cases e:cid3=cid
   ·subst e;rw[h.old]at hc3;cases hc3;exact ho cid3 off m k xs' g' p' (by simp[Cx.cset,upd])
   ·exact ho cid3 off3 m3 k3 xs3 g3 p3 (by simp only[Cx.cset,upd,e,OE];exact hc3)
  ·rintro⟨rfl,rfl⟩;exact ho cid off m k xs' g' p' (by simp[Cx.cset,upd])
 ·refine hM.f.same t2 λhf=>ht ⟨hf.1,λd hd=>?_⟩
  obtain⟨off2,m2,k2,xs2,g2,p2,q⟩:=hf.2 d hd;by_cases e:aX t2 d.1=cid
  ·rw[e,h.old]at q;cases q;rw[e];exact⟨off,m,k,xs',g',p',AS⟩
  ·exact⟨_,_,_,xs2,g2,p2,by simp only[Cx.cset,upd,e,OE];exact q⟩
 ·by_cases e:cid2=cid
  ·subst e;exact(hn t off m k xs' g' p' (by simp[Cx.cset,upd])).elim
  ·have:=hM.f.samo cid2 λt2 off2 m2 k2 xs2 g2 p2 q=>hn t2 off2 m2 k2 xs2 g2 p2 (by simp only[Cx.cset,upd,e,OE];exact q)
   refine⟨?_,?_⟩
   ·rw[<- this.1];funext a;simp[Cx.cset,TE.tset,e]
   ·rw[<- this.2];funext a;simp[Cx.cset,TE.tset,e]
theorem bH.ok (h:bH A w0 M c cid t off m k xs xs' g g' p p' i ob v w')(hm:Mem w0 M c)(hM:Man A te0 w0 M c){nx:Result Next}{nv:Next}(hn:nx=.ok nv w'){av:AV}
  (hv:(∃v',nv=.value v'/\RepV (c.cset cid t off m k xs' g' p' i ob v w') av v')\/(nv=.skip/\av=.undef)):cG A te0 w0 M c nx av [(cid,.col t off m k xs' g' p')]:=
 ⟨nv,c.cset cid t off m k xs' g' p' i ob v w',hn,(h.turns hm hM).mem hm,(h.turns hm hM).ext hm,by rw[bO,cC];rfl,h.man hm hM,hv⟩
end
end Go.Eng
namespace Go.Eng
open Go.RowKit
section
variable {P:Program} {A:Ann} {fid:Nat} {te0:TE} {w0:World} {M:MS} {c:Cx} {ρ:Operand->AV} {r:Operand->Value} {hp:Nat->Option Obj} {o:Oper} {v:AV} {u:Upd}
theorem H4 {ob:Option Nat}{ats:Array TypeId}{ty t t2 e:TypeId}{args:Array Value}{k:K}{v0 x:Value}{xs ys:List k.T}
  (h0:ats[0]?=some t) (h1:ats[1]?=some t2) (hu:P.underlying t=some (.slice e)) (hu2:(∃q,P.underlying t2=some (.slice q))\/P.underlying t2=some .string)
  (a0:args[0]?=some v0) (a1:args[1]?=some x) (hk:fF P e k=true) (hra:bR c.te c.w c.S ob k xs v0) (hmore:More P c k ys x) (hlim:(xs.length+ys.length)*iG P e<=lim)
  (hS:∀b,ob=some b->¬ c.S b) (hbel:∀b,c.S b->b<c.w.heap.size):
  ∃w' ob' v',(Builtin.append_ ats ty args).run P c.w=.ok v' w'/\bR c.te w' c.S ob' k (xs++ys) v'/\w'.os=c.w.os/\w'.tape=c.w.tape/\w'.output=c.w.output/\c.w.heap.size<=w'.heap.size /\
   (∀b,b<c.w.heap.size->ob≠some b->w'.heap[b]?=c.w.heap[b]?)/\(∀b,ob'=some b->ob=some b\/(c.w.heap.size<=b/\b<w'.heap.size))/\Go.Eng.one v'=true:=by
 obtain⟨hl,cl,hcl,hf⟩:=hmore;obtain⟨i,z,hi,hs,_⟩:=gV hk;have hvis:=hra.vis;obtain⟨_,oc,hoc,hof⟩:=u0 (P:=P) hvis;obtain⟨base,cap,rfl,hcap,_⟩:=hvis;by_cases hle:xs.length+ys.length<=cap
 ·unfold bR at hra;cases ob with
  |none=>
   obtain⟨q1,q2⟩:=hra;subst q2;cases q1;have hy0:ys=[]:=OR.1 (by simpa using hle);subst hy0;have hrun:=dz (P:=P) (w':=c.w) (ty:=ty) h0 h1 hu hu2 a0 a1 hs hl hle (hf c.w (Grew.refl _)) (.inl ⟨rfl,rfl⟩);exact⟨c.w,none,_,hrun,⟨rfl,rfl⟩,rfl,rfl,rfl,NG _,λ_ _ _=>rfl,λb hb=>(by cases hb),rfl⟩
  |some b=>
   obtain⟨cap',arr,a,q1,q2,q3,⟨T,fz,hb1,hb2⟩,p2,p3⟩:=hra;cases q1;have hstore:∃w',(storeCells (a.add (xs.length*k.size)) cl).run P c.w=.ok () w'/\w'.os=c.w.os/\w'.tape=c.w.tape/\w'.output=c.w.output/\w'.heap.size=c.w.heap.size/\w'.heap[b]?=some (.cells (bC arr (xs.length*k.size) cl) T fz)/\(∀j,j≠b->w'.heap[j]?=c.w.heap[j]?)/\xs.length*k.size+cl.length<=arr.size:=by
    by_cases hy0:cl=[]
    ·subst hy0;exact⟨c.w,rfl,rfl,rfl,rfl,rfl,by simpa[bC]using hb1,λ_ _=>rfl,by simpa using p2⟩
    ·have hc0:0<cap:=by
      have:ys.length≠0:=by
       intro h;have:=hcl.1;rw[h]at this;simp at this;exact hy0 this
      omega
     obtain⟨rfl,hsz⟩:=q3 hc0;have hroom:xs.length*k.size+cl.length<=arr.size:=by
      rw[hcl.1,<- Og];exact Oa (Of _ hle) hsz
     obtain⟨w',s1,s2⟩:=dy (P:=P) (b:=b) (o:=0+xs.length*k.size) cl 0 c.w arr hcl.2.1 hb1 (by omega) (λj j1 j2=>hb2.1 j (by omega));refine⟨w',by rw[lX];exact s1,s2.os,s2.tape,s2.output,s2.size,by simpa using s2.here,s2.other,hroom⟩
   obtain⟨w',s1,s2,s3,s4,s5,s6,s7,s8⟩:=hstore;have hrun:=dz (P:=P) (w':=w') (ty:=ty) h0 h1 hu hu2 a0 a1 hs hl hle (hf c.w (Grew.refl _)) (.inr ⟨a,rfl,s1⟩);have hsz2:(bC arr (xs.length*k.size) cl).size=arr.size:=b9 _ _ _;have hget:=λj=>cF cl arr (xs.length*k.size) j s8
   have hstab:∀b',c.S b'->w'.heap[b']?=c.w.heap[b']?:=λb' hb'=>s7 b' (by rintro rfl;exact hS _ rfl hb')
   refine⟨w',some b,_,hrun,⟨cap,_,a,by rw[Ny],by rw[Ny];exact hle,λhc0=>⟨(q3 hc0).1,by rw[hsz2];exact(q3 hc0).2⟩,⟨T,fz,s6,by rw[hsz2];exact hb2⟩,by rw[hsz2,Ny,Og,<- hcl.1];exact s8,λi x hx=>?_⟩,s2,s3,s4,by omega,λb' _ hb'=>s7 b' (by rintro rfl;exact hb' rfl),λb' hb'=>.inl hb',rfl⟩;by_cases hi:i<xs.length
   ·rw[NZ hi]at hx;obtain⟨vs,t1,t2⟩:=p3 i x hx;refine⟨vs,RepT.mono hstab (λ_ h=>h) t1,λj v hv=>?_⟩;have hj:j<k.size:=by rw[<- RepT.len t1];obtain⟨q,_⟩:=NJ.1 hv;exact q
    rw[hget,ND]
    ·exact t2 j v hv
    ·have:(i+1)*k.size<=xs.length*k.size:=Of _ hi;rw[Og]at this;omega
   ·rw[N6 (by omega)]at hx;obtain⟨vs,t1,t2⟩:=hcl.2.2 _ x hx;refine⟨vs,RepT.mono hstab (λ_ h=>h) t1,λj v hv=>?_⟩;have h3:=t2 j v hv;obtain⟨hq,_⟩:=NJ.1 h3;have e:i*k.size=(i-xs.length)*k.size+xs.length*k.size:=by rw[<- Og];congr 1;omega
    rw[hget,NI (by omega),show i*k.size+j-xs.length*k.size=(i-xs.length)*k.size+j by omega];exact h3
 ·obtain⟨cap',arr,q1,q2,⟨rest,q3⟩,q4⟩:=gj (P:=P) (ty:=ty) (k:=k) h0 h1 hu hu2 a0 a1 hk hl hle hlim (hof _ (eo _)) hoc.1 (hf _ (eo _)) hcl.1;have hg:Grew c.w (bY (fW c.w) (.cells arr e (0,0))):=(eo c.w).trans (cI _ _);have hbf:bD (bY (fW c.w) (.cells arr e (0,0))) c.w.heap.size arr:=cB (fW c.w) arr e;have hsize:(bY (fW c.w) (.cells arr e (0,0))).heap.size=c.w.heap.size+1:=by simp[bY,fW]
  have hall:=hoc.append hcl;refine⟨_,some c.w.heap.size,_,q4,⟨cap',arr,⟨c.w.heap.size,0,none⟩,by rw[Ny],by rw[Ny];exact q1,λ_=>⟨rfl,by rw[q2];exact NG _⟩,hbf,by rw[q2,Ny];exact Of _ q1,λi x hx=>?_⟩,hg.1,hg.2.1,hg.2.2.1,by omega,λb hb _=>hg.2.2.2.2 b hb,λb hb=>by cases hb;exact .inr ⟨NG _,by omega⟩,rfl⟩;obtain⟨vs,t1,t2⟩:=hall.2.2 i x hx;refine⟨vs,RepT.mono (λb' hb'=>hg.2.2.2.2 b' (hbel b' hb')) (λ_ h=>h) t1,λj v hv=>?_⟩;have:=t2 j v hv;obtain⟨hq,_⟩:=NJ.1 this;rw[<- NR,q3,NZ hq];exact this
theorem Eb (hm:Mem w0 M c)(hM:Man A te0 w0 M c)(hh:∀id o,hp id=some o->c.hp id=some o){cid g i t0 off:Nat}{ats:Array TypeId}{ty t t2 e:TypeId}{args:Array Value}{k:K}{s:S}{v0 x:Value}{xs:List (K.slice k).T}{ys:List k.T}
  (h0:ats[0]?=some t) (h1:ats[1]?=some t2) (hu:P.underlying t=some (.slice e)) (hu2:(∃q,P.underlying t2=some (.slice q))\/P.underlying t2=some .string)
  (a0:args[0]?=some v0) (a1:args[1]?=some x) (hk:fF P e k=true) (ho:c.hp cid=some (.col t0 off .own (.slice k) xs g none)) (hv:RepS c (.ov cid g i) v0) (hr:RepS c s x) (hy:pe hp k s=some ys)
  (hlim:(((xs.getD i []):List k.T).length+ys.length)*iG P e<=lim):
  cG A te0 w0 M c ((do pure (Next.value (<- Builtin.append_ ats ty args)):Sem Next).run P c.w) (.val false [.ov cid (g+1) i]) [(cid,.col t0 off .own (.slice k) (xs.set i ((xs.getD i []:List k.T)++ys)) (g+1) (some i))]:=by
 obtain⟨_,o,e1,e2⟩:=hv;rw[ho]at e1;cases e1;obtain⟨hi1,hcur⟩:=(e2 _ _ _ _ _ _ _ rfl).2 rfl;have hlt:=(hM.r.dom _ _ _ _ _ _ _ _ ho i).2 hi1;have hra:=(hM.r.own cid t0 off k xs g none ho i _ (getD_some [] hlt)).1;rw[hcur]at a0;have hown:∀b,c.te.ow cid i=some b->OwnX c (.own cid i) b:=λb hb=>hM.r.ownB ho (by simp) (getD_some [] hlt) hb
 obtain⟨w',ob',v',n1,n2,n3,n4,n5,n6,n7,n8,n9⟩:=H4 (P:=P) (ty:=ty) h0 h1 hu hu2 a0 a1 hk hra (l9 hm hM.r hh hr hy) hlim (λb hb=>(hM.r.sep _ b (hown b hb)).2.1) hm.below;have hst:bH A w0 M c cid t0 off .own (.slice k) xs (xs.set i ((xs.getD i []:List k.T)++ys)) g (g+1) none (some i) i ob' v' w':=by
  refine⟨ho,n3,n4,n5,n6,NA,λj hj=>OH (λq=>hj q.symm),.inl (Pj g),λj hj e=>(by cases e),λb hb _ hq=>n7 b hb ?_,λb arr hb hbf hon _=>⟨arr,hbf.of (n7 b (bE hbf.blk.choose_spec.choose_spec) λq=>?_),hon,rfl,λ_ _=>rfl⟩,λ_ b hb=>?_,λx' hx'=>?_⟩
  ·rcases hq with q|q|q
   ·cases q
   ·omega
   ·exact q
  ·have:=hM.r.one (.man t0 i) (.own cid i) b ⟨⟨_,_,_,_,_,_,_,ho⟩,hb⟩ (hown b q);cases this
  ·rcases n8 b hb with q|⟨q1,q2⟩
   ·exact .inl q
   ·exact .inr ⟨q2,λq=>by have:=hm.below b q;omega,λid q=>by have:=(hm.live id b q).1;omega,λl q=>by have:=(hM.r.sep l b q).1;omega,.inl (Oa hm.fr.size q1)⟩
  ·rw[OG hlt]at hx';cases hx';exact⟨n2,λq=>(q rfl).elim⟩
 refine hst.ok hm hM (aM n1) (.inl ⟨_,rfl,aB ⟨n9,_,AS,λt off m k' xs' g' p e=>?_⟩⟩);cases e;exact⟨NG _,λ_=>⟨hi1,by simp[Cx.cset,TE.tset]⟩⟩
theorem xc {t:TypeId}{b o:Nat}{T:TypeId}{fz:Nat×Nat}{arr:Array Value}{new:List S}{v:Value}{g:Bool}(hs:dw P t=some new.length)(hv:RepV c (.val g new) v)(hb:c.w.heap[b]?=some (.cells arr T fz))(hfz:FzOk arr.size fz)(hsz:o+new.length<=arr.size):
  ∃w',C3 c.w w' b (bC arr o v.cells.toList) T fz/\(Instr.storeAt t (.pointer (some ⟨b,o,none⟩)) v).run P c.w=.ok () w':=by
 have hl:=bZ hv;have hlen:=hl.length;obtain⟨w',s1,s2⟩:=dy (P:=P) (b:=b) (o:=o) v.cells.toList 0 c.w arr (LR.ones hl) hb (by omega) (λj j1 j2=>hfz.1 j (by omega));refine⟨w',by simpa using s2,?_⟩;unfold Instr.storeAt;rw[run_ok (show(Instr.sureAddr (.pointer (some ⟨b,o,none⟩))).run P c.w=.ok ⟨b,o,none⟩ c.w from rfl)];unfold storeVar;rw[run_ok (bh hs c.w),ND (by simp at hlen;omega)];exact s1
theorem nH {cid t off:Nat}{m:Mode}{k:K}{xs:List k.T}{g:Nat}{p:Option Nat}(hM:ManR A c)(hc:c.hp cid=some (.col t off m k xs g p)){i b:Nat}(hi:c.te.ι t i=some b){ty:TypeId}{new:List S}{gg:Bool}{vv:Value}(hs:dw P ty=some new.length)(hl:new.length=csz m k)(hv:RepV c (.val gg new) vv):
  ∃w' arr,bD c.w b arr/\(Instr.storeAt ty (.pointer (some ⟨b,off,none⟩)) vv).run P c.w=.ok () w'/\w'.os=c.w.os/\w'.tape=c.w.tape/\w'.output=c.w.output/\w'.heap.size=c.w.heap.size /\
   (∀j,j≠b->w'.heap[j]?=c.w.heap[j]?)/\bD w' b (bC arr off vv.cells.toList)/\(∀v∈(bC arr off vv.cells.toList).toList,Go.Eng.one v=true)/\off+vv.cells.toList.length<=arr.size/\vv.cells.toList.length=csz m k:=by
 obtain⟨hlt,hh,arr,h1,h2,h3⟩:=hM.at hc hi;obtain⟨T,fz,q1,q2⟩:=h1;obtain⟨w',s2,s3⟩:=xc (P:=P) (o:=off) hs hv q1 q2 (by omega);have s1:=bZ hv;have hln:=s1.length;refine⟨w',arr,⟨T,fz,q1,q2⟩,s3,s2.os,s2.tape,s2.output,s2.size,s2.other,⟨T,fz,s2.here,by rw[b9];exact q2⟩,λx hx=>?_,by omega,by omega⟩;obtain⟨j,hj⟩:=Oo.1 hx;rw[NR,cF vv.cells.toList arr off j (by omega)]at hj;split at hj
 ·exact LR.ones s1 x (NX hj)
 ·exact h2 x (NX (by rw[NR];exact hj))
theorem y8 {w:World}{b:Nat}{arr arr':Array Value}(h:bD w b arr)(k:bD w b arr'):arr=arr':=h.blk.uniqM k.blk
theorem ll {cid t off:Nat}{m:Mode}{k:K}{xs xs':List k.T}{g g':Nat}{p p':Option Nat}{i b:Nat}{ob:Option Nat}{vv:Value}(hm:Mem w0 M c)(hM:Man A te0 w0 M c)(hc:c.hp cid=some (.col t off m k xs g p))(hi:c.te.ι t i=some b)
  {w':World} {vn:List Value} {arr:Array Value} (z1:bD c.w b arr) (z2:w'.os=c.w.os) (z3:w'.tape=c.w.tape) (z4:w'.output=c.w.output) (z5:w'.heap.size=c.w.heap.size) (z6:∀j,j≠b->w'.heap[j]?=c.w.heap[j]?) (z7:bD w' b (bC arr off vn)) (z8:∀v∈(bC arr off vn).toList,Go.Eng.one v=true) (z9:off+vn.length<=arr.size) (z10:vn.length=csz m k)
  (len:xs'.length=xs.length) (rest:∀j,j≠i->xs'[j]?=xs[j]?) (gen:g<g'\/(g'=g/\xs'=xs/\ob=c.te.ow cid i/\vv=c.te.cur cid i)) (pend:∀j,j≠i->p=some j->p'=some j)
  (hob:m≠ .dat->∀b,ob=some b->c.te.ow cid i=some b\/(b<w'.heap.size/\¬ c.S b/\(∀id,¬ Live c id b)/\(∀l,¬ OwnX c l b)/\(w0.heap.size<=b\/M.f b)))
  (item:(∀j u,vn[j]?=some u->(bC arr off vn)[off+j]?=some u)->(∀b,c.S b->w'.heap[b]?=c.w.heap[b]?)->∀x,xs'[i]?=some x->dh c.te w' c.S t i off ob vv (p'=some i) m k x):bH A w0 M c cid t off m k xs xs' g g' p p' i ob vv w':=by
 have hnS:¬ c.S b:=(hM.r.sep (.man t i) b ⟨⟨_,_,_,_,_,_,_,hc⟩,hi⟩).2.1;refine⟨hc,z2,z3,z4,by omega,len,rest,gen,pend,λb' _ hb' _=>z6 b' (by rintro rfl;exact hb' hi),λb' arr1 hb' hbf hon _=>?_,hob,item (λj u hu=>?_) (λb' hb'=>z6 b' (by rintro rfl;exact hnS hb'))⟩
 ·rw[hi]at hb';cases hb';have:=y8 hbf z1;subst this;exact⟨_,z7,z8,b9 _ _ _,λo ho=>by rw[cF vn arr1 off o z9,ND (by rw[z10];exact ho)]⟩
 ·have hj:=(NJ.1 hu).1;rw[cF vn arr off _ z9,NI (by omega),show off+j-off=j by omega];exact hu
theorem FC (hm:Mem w0 M c){id:Nat}{o0:Obj}(ho:c.hp id=some o0)(hnc:∀t off m k (xs:List k.T) g p,o0≠ .col t off m k xs g p):
  Turn w0 M c id c.w c.S (c.β id) (.box []):=by
 have hhp:(c.turn id c.w c.S (c.β id) (.box [])).hp id=some (.box []):=by simp[Cx.turn,upd]
 refine⟨rfl,rfl,rfl,NG _,λ_ _ _=>rfl,λ_ h=>h,λb hb=>⟨hm.below b hb,.inl hb⟩,⟨_,ho⟩,λh=>(h rfl).elim,λb _ h=>(by cases h),λs v hsi hrs=>?_⟩;cases s<;>simp only[S.ids,NY,OV,reduceCtorEq]at hsi
 case vw j g=>subst hsi;exact⟨hrs.1,_,hhp,λk xs gen hist frz e=>(by cases e)⟩
 case pv j g off len=>subst hsi;exact⟨hrs.1,_,hhp,λk xs gen hist frz e=>(by cases e)⟩
 case ptr j g i p=>
  subst hsi;obtain⟨z0,oo,z1,z2,_⟩:=hrs;exact⟨z0,_,hhp,z2,λcs e hne=>(by cases e;exact(hne rfl).elim),λk xs gen hist frz e=>(by cases e)⟩
 case mp j=>subst hsi;exact⟨hrs.1,_,hhp,λe=>(by cases e)⟩
 case rp t i off=>exact nT (c:=c) rfl rfl hrs
 case ov j g i=>subst hsi;exact⟨hrs.1,_,hhp,λt off m k xs g' p e=>(by cases e)⟩
 case oe j g i q p=>subst hsi;obtain⟨h0,o',h1,hpi,h2⟩:=hrs;exact⟨h0,_,hhp,hpi,λt off m e xs g' q' he=>(by cases he)⟩
 case bm f j=>subst hsi;obtain⟨p,hv,o',h1,h2⟩:=hrs;exact⟨p,hv,_,hhp,λcs e hne=>by cases e;exact(hne rfl).elim⟩
theorem BW (hm:Mem w0 M c)(hM:Man A te0 w0 M c){id:Nat}{o0:Obj}(ho:c.hp id=some o0)(hnc:∀t off m k (xs:List k.T) g p,o0≠ .col t off m k xs g p):
  Mem w0 M (c.turn id c.w c.S (c.β id) (.box []))/\Ext c (c.turn id c.w c.S (c.β id) (.box []))/\Man A te0 w0 M (c.turn id c.w c.S (c.β id) (.box []))/\∀j b,Live (c.turn id c.w c.S (c.β id) (.box [])) j b->j≠id/\Live c j b:=by
 have ht:=FC hm.here ho hnc;have hc:nN c (c.turn id c.w c.S (c.β id) (.box [])):=by
  intro cid t off m k xs g p;by_cases e:cid=id
  ·subst e;simp only[Cx.turn,upd,O8];exact⟨λq=>(by cases q),λq=>(by rw[ho]at q;cases q;exact(hnc _ _ _ _ _ _ _ rfl).elim)⟩
  ·simp only[Cx.turn,upd,e,OE]
 refine⟨hm.step (ht.mem hm.here),ht.ext hm.here,hM.lift rfl (ht.ext hm.here) (ht.mem hm.here) hc,λj b hl=>?_⟩;obtain⟨h1,o,h2,h3⟩:=hl;by_cases e:j=id
 ·subst e;simp[Cx.turn,upd]at h2;subst h2;cases h3
 ·simp only[Cx.turn,upd,e,OE]at h1 h2;exact⟨e,h1,o,h2,h3⟩
theorem Em (cid:Nat)(o:Obj)(u:Upd):(cid,o)::u=[(cid,o)]++u:=rfl
theorem AX (hm:Mem w0 M c)(hM:Man A te0 w0 M c)(hh:∀id o,hp id=some o->c.hp id=some o){t:TypeId}{t' i off n:Nat}{gg:Bool}{new:List S}{vp vx:Value}(hra:RepS c (.rp t' i off) vp)(hx:RepV c (.val gg new) vx)(hs:dw P t=some n)(hn:new.length=n)(h:nF P hp t' i off n new=.okm true v u):
  cG A te0 w0 M c ((do Instr.storeAt t vp vx;pure Next.skip:Sem Next).run P c.w) v u:=by
 subst hn;obtain⟨b,hb,rfl⟩:=hra;unfold nF at h;split at h
 ·rename_i t2 off2 m k xs g p hid;cases hq:(Nat.beq t2 t'&&Nat.beq off2 off)with
  |false=>rw[hq]at h;cases h
  |true=>
   rw[hq]at h;simp only[NH]at h;simp only[NM]at hq;have e1:=NB hq.1;have e2:=NB hq.2;subst e1;subst e2;have ho:=hh _ _ hid;have hlt:=(hM.r.at ho hb).1;split at h
   ·-- a datum
    split at h
    ·rename_i y uf hy huf;cases hz:Nat.beq k.size new.length with
     |false=>rw[hz]at h;cases h
     |true=>
      rw[hz]at h;simp only[NH,Out.okm.injEq,Oh]at h;obtain⟨rfl,rfl⟩:=h;have hsz:=NB hz;obtain⟨c1,f1,f2,m1,x1,p1,p2,M1,ceq⟩:=Gg hm hM hh huf;have ho1:=(ceq ..).2 ho;have hb1:c1.te.ι t2 i=some b:=by rw[x1.te];exact hb
      obtain⟨w',arr,z1,z0,z2,z3,z4,z5,z6,z7,z8,z9,z10⟩:=nH (P:=P) M1.r ho1 hb1 hs (by simp only[csz];omega) (x1.repV hx);have hyr:RepT c.te c.w c1.S k y vx.cells.toList:=dV hm hh x1.sub (λj hj=>p2 j hj) (bZ hx) hy;have hst:bH A w0 M c1 (aX t2 off2) t2 off2 .dat k xs (xs.set i y) g (g+1) none none i (c1.te.ow (aX t2 off2) i) (c1.te.cur (aX t2 off2) i) w':=by
       refine ll m1 M1 ho1 hb1 z1 z2 z3 z4 z5 z6 z7 z8 z9 z10 NA (λj hj=>OH (λq=>hj q.symm)) (.inl (Pj g)) (λj hj e=>by cases e) (λq=>(q rfl).elim) (λhcell hstab x hx'=>?_);rw[OG hlt]at hx';cases hx';intro b' arr' hb' hbk;rw[hb1]at hb';cases hb';have:=hbk.uniqM z7.blk;subst this;refine⟨_,?_,hcell⟩;exact RepT.mono (w:=c.w) (by rw[<- f1];exact hstab) (λ_ h=>h) (by rw[x1.te];exact hyr)
      rw[Em];refine cG.after x1 p1 ?_;rw[<- f1];exact hst.ok m1 M1 (fI z0) (.inr ⟨rfl,rfl⟩)
    ·cases h
   ·-- a row of its own,back
    rename_i e xs cid g' i';split at h
    ·rename_i j;cases hz:(Nat.beq cid (aX t2 off2)&&Nat.beq g' g&&Nat.beq [S.ov cid g' i'].length 1)with
     |false=>rw[hz]at h;cases h
     |true=>
      rw[hz]at h;simp only[NH,Out.okm.injEq,NM,N0]at h;obtain⟨⟨rfl,rfl⟩,rfl,rfl⟩:=h;simp only[NM]at hz;have e1:=NB hz.1.1;have e2:=NB hz.1.2;subst e1;subst e2;obtain⟨w',arr,z1,z0,z2,z3,z4,z5,z6,z7,z8,z9,z10⟩:=nH (P:=P) hM.r ho hb hs rfl hx;have hvn:∃v1,vx.cells.toList=[v1]/\v1=c.te.cur (aX t2 off2) i:=by
       match hvc:vx.cells.toList,(show LR (RepS c) _ vx.cells.toList from bZ hx)with
       |[v1],n0=>
        obtain⟨_,oo,y1,y2⟩:=n0.1;rw[ho]at y1;cases y1;exact⟨v1,rfl,((y2 _ _ _ _ _ _ _ rfl).2 rfl).2⟩
      obtain⟨v1,hvc,hv1⟩:=hvn;rw[hvc]at z7 z8 z9 z10;have hst:bH A w0 M c (aX t2 off2) t2 off2 .own (.slice e) xs xs g' g' (some i) none i (c.te.ow (aX t2 off2) i) (c.te.cur (aX t2 off2) i) w':=by
       refine ll hm hM ho hb z1 z2 z3 z4 z5 z6 z7 z8 z9 z10 rfl (λ_ _=>rfl) (.inr ⟨rfl,rfl,rfl,rfl⟩) (λj hj e=>by cases e;exact(hj rfl).elim) (λ_ b' hb'=>.inl hb') (λhcell hstab x hx'=>?_);obtain⟨q1,q2⟩:=hM.r.own _ _ _ e xs _ _ ho i x hx';refine⟨q1.move (TLe.refl _) hstab (λ_ h=>h) (λb' hb'=>z6 b' ?_),λ_ b' arr' hb' hbk=>?_⟩
       ·rintro rfl;have:=hM.r.one (.man t2 i) (.own (aX t2 off2) i) b' ⟨⟨_,_,_,_,_,_,_,ho⟩,hb⟩ (hM.r.ownB ho (by simp) hx' hb');cases this
       ·rw[hb]at hb';cases hb';have:=hbk.uniqM z7.blk;subst this;rw[<- hv1];exact hcell 0 v1 rfl
      exact hst.ok hm hM (fI z0) (.inr ⟨rfl,rfl⟩)
    ·cases h
   ·-- nothing
    rename_i e xs;split at h
    ·cases hz:Nat.beq [S.nilS].length 1 with
     |false=>rw[hz]at h;cases h
     |true=>
      rw[hz]at h;simp only[NH,Out.okm.injEq,Oh]at h;obtain⟨rfl,rfl⟩:=h;obtain⟨w',arr,z1,z0,z2,z3,z4,z5,z6,z7,z8,z9,z10⟩:=nH (P:=P) hM.r ho hb hs rfl hx;have hvc:vx.cells.toList=[.slice none 0 0]:=by
       match hvc:vx.cells.toList,(show LR (RepS c) _ vx.cells.toList from bZ hx)with
       |[v1],n0=>rw[show v1=_ from n0.1]
      rw[hvc]at z7 z8 z9 z10;have hst:bH A w0 M c (aX t2 off2) t2 off2 .own (.slice e) xs (xs.set i ([]:List e.T)) g (g+1) none none i none (.slice none 0 0) w':=by
       refine ll hm hM ho hb z1 z2 z3 z4 z5 z6 z7 z8 z9 z10 NA (λj hj=>OH (λq=>hj q.symm)) (.inl (Pj g)) (λj hj e=>by cases e) (λ_ b' hb'=>by cases hb') (λhcell hstab x hx'=>?_);rw[OG hlt]at hx';cases hx';refine⟨⟨rfl,rfl⟩,λ_ b' arr' hb' hbk=>?_⟩;rw[hb]at hb';cases hb';have:=hbk.uniqM z7.blk;subst this;exact hcell 0 _ rfl
      exact hst.ok hm hM (fI z0) (.inr ⟨rfl,rfl⟩)
    ·cases h
   ·-- a row of one's own is given away
    rename_i e xs id gn;split at h
    ·rename_i k' ys gen hist hid2;cases hz:(Nat.beq gn gen&&Nat.beq [S.vw id gn].length 1)with
     |false=>rw[hz]at h;cases h
     |true=>
      rw[hz]at h;simp only[NH]at h;simp only[NM]at hz;have eg:=NB hz.1;subst eg;split at h
      ·rename_i zs hcst;simp only[Out.okm.injEq,Oh]at h;obtain⟨rfl,rfl⟩:=h;obtain⟨ek,hzs⟩:=jR hcst;subst ek;simp only at hzs;subst hzs;have hrow:=hh _ _ hid2;have hvn:∃v1,vx.cells.toList=[v1]/\RepS c (.vw id gn) v1:=by
        match hvc:vx.cells.toList,(show LR (RepS c) _ vx.cells.toList from bZ hx)with
        |[v1],n0=>exact⟨v1,rfl,n0.1⟩
       obtain⟨v1,hvc,hrv⟩:=hvn;have hra:=zx hm hrow hrv (S':=c.S) (λ_ h=>h);obtain⟨m1,x1,M1,l1⟩:=BW hm hM hrow (λ_ _ _ _ _ _ _ q=>by cases q);have hne:aX t2 off2≠id:=by rintro rfl;rw[ho]at hrow;cases hrow
       have ho1:(c.turn id c.w c.S (c.β id) (.box [])).hp (aX t2 off2)=some (.col t2 off2 .own (.slice k') xs g none):=by simp[Cx.turn,upd,hne,ho]
       obtain⟨w',arr,z1,z0,z2,z3,z4,z5,z6,z7,z8,z9,z10⟩:=nH (P:=P) M1.r ho1 hb hs rfl (x1.repV hx);rw[hvc]at z7 z8 z9 z10;have hst:bH A w0 M (c.turn id c.w c.S (c.β id) (.box [])) (aX t2 off2) t2 off2 .own (.slice k') xs (xs.set i (ys:List k'.T)) g (g+1) none none i (c.β id) v1 w':=by
        have hlv:∀b',c.β id=some b'->Live c id b':=λb' hb'=>⟨hb',_,hrow,rfl⟩
        refine ll m1 M1 ho1 hb z1 z2 z3 z4 z5 z6 z7 z8 z9 z10 NA (λj hj=>OH (λq=>hj q.symm)) (.inl (Pj g)) (λj hj e=>by cases e) (λ_ b' hb'=>.inr ?_) (λhcell hstab x hx'=>?_)
        ·obtain⟨y1,y2,y3⟩:=hm.live id b' (hlv b' hb');refine⟨by rw[z5];exact y1,y2,λj hj=>?_,λl hl=>?_,y3.imp (λq=>q) .inl⟩
         ·obtain⟨q1,q2⟩:=l1 j b' hj;exact q1 (hm.one _ _ _ q2 (hlv b' hb'))
         ·have hl':OwnX c l b':=by
           cases l with
           |man t3 i3=>
            obtain⟨⟨c3,off3,m3,k3,xs3,g3,p3,q⟩,q'⟩:=hl;refine⟨⟨c3,off3,m3,k3,xs3,g3,p3,?_⟩,q'⟩;by_cases e:c3=id
            ·subst e;simp[Cx.turn,upd]at q
            ·simpa[Cx.turn,upd,e]using q
           |own c3 i3=>
            obtain⟨⟨t3,off3,m3,k3,xs3,g3,p3,q,qq⟩,q'⟩:=hl;refine⟨⟨t3,off3,m3,k3,xs3,g3,p3,?_,qq⟩,q'⟩;by_cases e:c3=id
            ·subst e;simp[Cx.turn,upd]at q
            ·simpa[Cx.turn,upd,e]using q
          exact(hM.r.sep l b' hl').2.2 id (hlv b' hb')
        ·rw[OG hlt]at hx';cases hx';refine⟨bR.move (TLe.refl _) hstab (λ_ h=>h) (λb' hb'=>z6 b' ?_) hra,λ_ b' arr' hb' hbk=>?_⟩
         ·rintro rfl;exact(hM.r.sep (.man t2 i) b' ⟨⟨_,_,_,_,_,_,_,ho⟩,hb⟩).2.2 id (hlv b' hb')
         ·have hb2:c.te.ι t2 i=some b':=hb';rw[hb]at hb2;cases hb2;have:=hbk.uniqM z7.blk;subst this;exact hcell 0 _ rfl
       rw[Em];refine cG.after x1 (by rw[bO,cC];rfl) ?_;exact hst.ok m1 M1 (fI z0) (.inr ⟨rfl,rfl⟩)
      ·cases h
    ·cases h
   ·cases h
 ·cases h
end
end Go.Eng
namespace Go.Eng
open Go.RowKit
section
variable {P:Program} {A:Ann} {fid:Nat} {te0:TE} {w0:World} {M:MS} {c:Cx} {ρ:Operand->AV} {r:Operand->Value} {hp:Nat->Option Obj} {o:Oper} {v:AV} {u:Upd}
theorem kD {te:TE}{k:K}(n:Int):∀(es:List (Int×k.T))(l:List MapEntry)(i:Nat),LR (RepM te k) es l ->
  (Instr.findNow (.int .i64) (.int .i64 n) l i=some none/\cx es n=es/\∀m∈l,m.key≠ .int .i64 n) \/
  ∃j e,Instr.findNow (.int .i64) (.int .i64 n) l i=some (some (i+j,e))/\j<l.length/\cx es n=es.eraseIdx j
 |[],[],i,_=>.inl ⟨rfl,rfl,by simp⟩
 |e::es,m::l,i,h=>by
  obtain⟨⟨hk,hv⟩,hr⟩:=h;by_cases q:e.1=n
  ·refine .inr ⟨0,m.val,?_,by simp,?_⟩
   ·simp only[Instr.findNow,hk,ca,q,PJ,Pz]
   ·unfold cx;rw[NK q];rfl
  ·have hne:(n==e.1)=false:=by rw[O6];exact λh=>q h.symm
   rcases kD n es l (i+1) hr with⟨h1,h2,h3⟩|⟨j,m',h1,h2,h3⟩
   ·refine .inl ⟨?_,?_,λm' hm'=>?_⟩
    ·simp only[Instr.findNow,hk,ca,hne];exact h1
    ·unfold cx;rw[NF q,NS,h2]
    ·rcases NO.1 hm' with rfl|hm'
     ·rw[hk];intro e;cases e;exact q rfl
     ·exact h3 m' hm'
   ·refine .inr ⟨j+1,m',?_,by simp;omega,?_⟩
    ·simp only[Instr.findNow,hk,ca,hne];rw[h1,show i+1+j=i+(j+1) by omega]
    ·unfold cx;rw[NF q,NS,h3];rfl
 |[],_::_,_,h=>h.elim
 |_::_,[],_,h=>h.elim
theorem LR.eraseIdx {α β:Type}{R:α->β->Prop}:∀{l:List α} {m:List β} (j:Nat),LR R l m->LR R (l.eraseIdx j) (m.eraseIdx j)
 |[],[],_,_=>trivial
 |_::_,_::_,0,h=>h.2
 |_::_,_::_,j+1,h=>⟨h.1,LR.eraseIdx j h.2⟩
 |[],_::_,_,h=>h.elim
 |_::_,[],_,h=>h.elim
theorem BQ {cid t off i g e:Nat}{p:Option Nat}{xs:List (K.slice (.prod (.int .i64) (.ref e))).T}(hm:Mem w0 M c)(hM:Man A te0 w0 M c)(ho:c.hp cid=some (.col t off .mp (.slice (.prod (.int .i64) (.ref e))) xs g p))(hlt:i<xs.length)
  {b:Nat} {ents ents':Array MapEntry} {clock clock':Nat} (hb:c.te.ow cid i=some b) (hcur:c.te.cur cid i=.map (some b)) (hh:c.w.heap[b]?=some (.map ents clock)) {es':List (Int×Option Nat)} (hes:LR (RepM c.te (.ref e)) es' ents'.toList) (hst:MapKept.Stamped ents' clock')
  {w':World} (hw:w'={ c.w with heap:=c.w.heap.setIfInBounds b (.map ents' clock') }):
  bH A w0 M c cid t off .mp (.slice (.prod (.int .i64) (.ref e))) xs (xs.set i (es':List (Int×Option Nat))) g (g+1) p p i (c.te.ow cid i) (c.te.cur cid i) w':=by
 obtain⟨hs1,hs2⟩:=MapKept.heap_set (o':=.map ents' clock') hh;have hsz:w'.heap.size=c.w.heap.size:=by rw[hw];simp
 have hother:∀j,j≠b->w'.heap[j]?=c.w.heap[j]?:=by rw[hw];exact hs2
 have hown:OwnX c (.own cid i) b:=⟨⟨_,_,_,_,_,_,_,ho,by simp,hlt⟩,hb⟩
 have hnS:=(hM.r.sep _ b hown).2.1;have hbox:∀b',c.te.ι t i=some b'->b'≠b:=by
  rintro b' h1 rfl;have:=hM.r.one (.man t i) _ b' ⟨⟨_,_,_,_,_,_,_,ho⟩,h1⟩ hown;cases this
 refine⟨ho,by rw[hw],by rw[hw],by rw[hw],by omega,NA,λj hj=>OH (λq=>hj q.symm),.inl (Pj g),λj _ h=>h,λb' _ _ hq=>hother b' ?_,λb' arr h1 hbf hon _=>⟨arr,hbf.of (hother b' (hbox b' h1)),hon,rfl,λ_ _=>rfl⟩,λ_ b' h=>.inl h,λx hx=>?_⟩
 ·rintro rfl;rcases hq with q|q|q
  ·cases q
  ·omega
  ·exact q hb
 ·rw[OG hlt]at hx;cases hx;obtain⟨_,_,_,y1,_,y3,_,y5⟩:=hM.r.mpp cid t off e xs g p ho i _ (getD_some [] hlt);refine⟨b,ents',clock',hb,hcur,by rw[hw];exact hs1,⟨hes,hst⟩,λb' arr h1 hbk=>?_⟩;exact y5 b' arr h1 (hbk.of (hother b' (hbox b' h1)).symm)
theorem JB {cid t off i g e:Nat}{p:Option Nat}{xs:List (K.slice (.prod (.int .i64) (.ref e))).T}(hM:ManR A c)(ho:c.hp cid=some (.col t off .mp (.slice (.prod (.int .i64) (.ref e))) xs g p)){vm:Value}(hv:RepS c (.ov cid g i) vm):
  i<xs.length/\∃b ents clock,c.te.ow cid i=some b/\c.te.cur cid i=.map (some b)/\vm=.map (some b)/\c.w.heap[b]?=some (.map ents clock)/\LR (RepM c.te (.ref e)) (xs.getD i []:List (Int×Option Nat)) ents.toList/\MapKept.Stamped ents clock:=by
 obtain⟨_,oo,h1,h2⟩:=hv;rw[ho]at h1;cases h1;obtain⟨hi1,hcur⟩:=(h2 _ _ _ _ _ _ _ rfl).2 rfl;have hlt:=(hM.dom _ _ _ _ _ _ _ _ ho i).2 hi1;obtain⟨b,ents,clock,q1,q2,q3,⟨q4,q5⟩,_⟩:=hM.mpp _ _ _ e xs g p ho i _ (getD_some [] hlt);exact⟨hlt,b,ents,clock,q1,q2,by rw[hcur,q2],q3,q4,q5⟩
theorem m6 (hm:Mem w0 M c)(hM:Man A te0 w0 M c)(hh:∀id o,hp id=some o->c.hp id=some o)(hr:∀x,RepV c (ρ x) (r x)){t:TypeId}{x ix y:Operand}(ho:o.op=.mapUpdate t x ix y\/o.op=.insert t x ix y)(h:core P A fid ρ hp o=.okm true v u):
  cG A te0 w0 M c ((execOp r o).run P c.w) v u:=by
 have e0:(execOp r o).run P c.w=((do Instr.mapUpdate t (r x) (r ix) (r y);pure Next.skip:Sem Next)).run P c.w:=by
  rcases ho with ho|ho<;>simp only[execOp,ho]
 rw[e0];have h:=Fp ho h;unfold KN at h;split at h
 ·split at h
  ·revert h;generalize zr _=q;cases q with
   |false=>simp
   |true=>simp only[NH];intro h;split at h<;>cases h
  ·split at h
   ·revert h;generalize List.all _ _=q;cases q<;>simp
   ·cases h
  ·cases h
 ·rename_i cid g i n cs kt et hx hi hy hu;split at h
  ·rename_i t' off e xs g' p hid hkt;cases hs:Nat.beq g g' with
   |false=>rw[hs]at h;cases h
   |true=>
    rw[hs]at h;simp only[NH]at h;have eg:=NB hs;subst eg;split at h
    ·rename_i val hval;simp only[Out.okm.injEq,Oh]at h;obtain⟨rfl,rfl⟩:=h;have hid':=hh cid _ hid;obtain⟨hlt,b,ents,clock,q1,q2,q2',q3,q4,q5⟩:=JB hM.r hid' (aF hr hx);obtain⟨q6,_⟩:=aF hr hi;have hyr:=hr y;rw[hy]at hyr;obtain⟨s,rfl,hsv⟩:=hyr;have hE:RepE c.te (.ref e) val (r y):=by
      have hnid:∀id∈ba [s],∀b,c.β id=some b->c.S b\/True:=λ_ _ _ _=>.inr trivial
      exact Jt rfl (dV (S':=λb=>c.S b\/True) hm hh (λ_ h=>.inl h) hnid ⟨hsv,trivial⟩ hval)
     have hck:=MapKept.run_checkKey (w:=c.w) (k:=.int .i64 n) hkt rfl false 9999;have fin:∀(ents':Array MapEntry) (clock':Nat),LR (RepM c.te (.ref e)) (aR (xs.getD i []:List (Int×Option Nat)) n val) ents'.toList->MapKept.Stamped ents' clock' ->
       (Instr.mapUpdate t (.map (some b)) (.int .i64 n) (r y)).run P c.w=.ok () { c.w with heap:=c.w.heap.setIfInBounds b (.map ents' clock') } ->
       cG A te0 w0 M c ((do Instr.mapUpdate t (r x) (r ix) (r y);pure Next.skip:Sem Next).run P c.w) .undef [(cid,.col t' off .mp (.slice (.prod (.int .i64) (.ref e))) (xs.set i (aR (xs.getD i []:List (Int×Option Nat)) n val)) (g+1) p)]:=by
      intro ents' clock' hl hst hrun;have hstep:=BQ hm hM hid' hlt q1 q2 q3 hl hst rfl;rw[q2',q6];exact hstep.ok hm hM (fI hrun) (.inr ⟨rfl,rfl⟩)
     rcases lD (k:=.ref e) n val _ ents.toList 0 q4 with⟨f1,_,f3⟩|⟨j,m,f1,f2,f3,_,f5⟩
     ·have hnk:∀x∈ents.toList,x.key≠ .int .i64 n:=by
       rcases kD (k:=.ref e) n _ ents.toList 0 q4 with⟨_,_,q⟩|⟨j,m,q,_⟩
       ·exact q
       ·rw[f1]at q;cases q
      refine fin (ents.push { key:=.int .i64 n,val:=r y,born:=clock }) (clock+1) ?_ (MapKept.stamped_push q5 hnk) ?_
      ·rw[f3,QH];exact q4.append ⟨⟨rfl,hE⟩,trivial⟩
      ·unfold Instr.mapUpdate;rw[run_ok (run_underlying hu c.w)];simp only[];rw[run_ok (MapKept.run_getObj_map q3)];simp only[];rw[run_ok hck,run_ok (MapKept.run_findKey hkt f1)];simp only[];exact MapKept.run_setObj_map _ q3
     ·have hej:ents[0+j]?=some m:=by rw[Ox,<- NR];exact f2
      refine fin (ents.modify (0+j) λe=>{ e with key:=.int .i64 n,val:=r y }) clock ?_ (MapKept.stamped_modify q5 _ _ (λ_ _=>rfl) (λe' _ he'=>by rw[hej]at he';cases he';exact f3.symm)) ?_
      ·rw[f5,Q3,Ox];refine LR.of_get (by rw[NA,Rb];exact q4.length) λi a m ha hm'=>?_
       rw[P9]at ha;rw[QY]at hm';by_cases hji:j=i
       ·subst hji;rw[NI rfl]at ha;rw[f2]at hm';split at ha
        ·cases ha;simp only[NI,Qa,OS,Nz]at hm';subst hm';exact⟨rfl,hE⟩
        ·cases ha
       ·rw[ND hji]at ha;obtain⟨m',e1,e2⟩:=q4.get i a ha;rw[e1]at hm';simp only[ND hji,Qa,OS,Nz,id_eq]at hm';subst hm';exact e2
      ·unfold Instr.mapUpdate;rw[run_ok (run_underlying hu c.w)];simp only[];rw[run_ok (MapKept.run_getObj_map q3)];simp only[];rw[run_ok hck,run_ok (MapKept.run_findKey hkt f1)];simp only[];rw[hej];simp only[OS,NN,f3];rw[run_ok (MapKept.run_keyThatStays (d:=.int .i64) (show MapKept.IsKey (.int .i64) (.int .i64 n) from rfl))];exact MapKept.run_setObj_map _ q3
    ·cases h
  ·cases h
 ·cases h
theorem A0 (hm:Mem w0 M c)(hM:Man A te0 w0 M c)(hh:∀id o,hp id=some o->c.hp id=some o)(hr:∀x,RepV c (ρ x) (r x)){cc:Call}{b:Builtin}(ho:o.op=.call cc)(hb:cc.callee=.builtin b)(h:jW P hp o.dst b cc.argTypes.toList (cc.args.toList.map ρ)=.okm true v u):
  cG A te0 w0 M c ((execOp r o).run P c.w) v u:=by
 have hlr:LR (RepV c) (cc.args.toList.map ρ) (cc.args.map r).toList:=by rw[OO];exact xA _ hr
 have e1:(execOp r o).run P c.w=(builtin b cc.argTypes o.type (cc.args.map fun| .const _=>true|_=>false) (cc.args.map r)).run P c.w:=by
  simp only[execOp,ho,resolve,hb];rw[run_pb];rfl
 rw[e1];unfold jW at h;cases b with
 |append=>
  simp only[]at h;split at h
  ·rename_i t t2 a1 a2 ht ht2 hargs;split at h
   ·rename_i s x hs hx;have ht':cc.argTypes[0]?=some t:=by rw[<- NR];exact ht
    have ht2':cc.argTypes[1]?=some t2:=by rw[<- NR];exact ht2
    rw[hargs]at hlr
    match hvs:(cc.args.map r).toList,hlr with
    |[v0,v1],hlr=>
     have a0:(cc.args.map r)[0]?=some v0:=by rw[<- NR,hvs];rfl
     have a1:(cc.args.map r)[1]?=some v1:=by rw[<- NR,hvs];rfl
     have r0:=iP hs hlr.1;have r1:=iP hx hlr.2.1;unfold builtin;simp only[];unfold appB at h;have main:∀{e:TypeId},oO P t=some e->((∃q,P.underlying t2=some (.slice q))\/P.underlying t2=some .string)->oU P hp o.dst e s x=.okm true v u ->
       cG A te0 w0 M c ((do pure (Next.value (<- Builtin.append_ cc.argTypes o.type (cc.args.map r))):Sem Next).run P c.w) v u:=by
      intro e hel hu2 hz;have hu:=oN hel;unfold oU at hz;split at hz
      ·split at hz
       ·revert hz;generalize (!fF P e _)=q;cases q with
        |true=>simp
        |false=>simp only[NS];intro hz;split at hz<;>cases hz
       ·cases hz
      ·split at hz
       ·revert hz;generalize (_&&_&&_)=q;cases q with
        |false=>simp
        |true=>simp only[NH];intro hz;split at hz<;>cases hz
       ·cases hz
      ·split at hz
       ·rename_i cid g i x2 x3 t0 off k xs g' d hid hfr;cases hc:(Nat.beq g g'&&decide (kd P e=some k)&&fF P e k)with
        |false=>rw[hc]at hz;cases hz
        |true=>
         rw[hc]at hz;simp only[NH]at hz;simp only[NM]at hc;have hg:=NB hc.1.1;subst hg;split at hz
         ·rename_i ys hy;simp only[Out.okm.injEq,N0]at hz;obtain⟨hlim,rfl,rfl⟩:=hz;exact Eb hm hM hh ht' ht2' hu hu2 a0 a1 hc.2 (hh _ _ hid) r0 r1 hy hlim
         ·cases hz
       ·cases hz
      ·cases hz
     split at h
     ·rename_i e q hel hq;exact main hel (.inl ⟨q,hq⟩) h
     ·rename_i e hel hq;exact main hel (.inr hq) h
     ·cases h
   ·cases h
  ·cases h
 |delete=>
  simp only[]at h;split at h
  ·rename_i t a1 n ht hargs;split at h
   ·rename_i s hs;have ht':cc.argTypes[0]?=some t:=by rw[<- NR];exact ht
    rw[hargs]at hlr
    match hvs:(cc.args.map r).toList,hlr with
    |[v0,v1],hlr=>
     have a0:(cc.args.map r)[0]?=some v0:=by rw[<- NR,hvs];rfl
     have a1:(cc.args.map r)[1]?=some v1:=by rw[<- NR,hvs];rfl
     have r0:=iP hs hlr.1;have r1:v1=.int .i64 n:=(aT hlr.2.1).1;subst r1;unfold delS at h;split at h
     ·rename_i cid g i kt et hu;split at h
      ·rename_i t' off e xs g' p hid hkt;cases hq:Nat.beq g g' with
       |false=>rw[hq]at h;cases h
       |true=>
        rw[hq]at h;simp only[NH,Out.okm.injEq,Oh]at h;obtain⟨rfl,rfl⟩:=h;have eg:=NB hq;subst eg;have hid':=hh cid _ hid;obtain⟨hlt,b,ents,clock,q1,q2,q2',q3,q4,q5⟩:=JB hM.r hid' r0;subst q2';have hck:=MapKept.run_checkKey (w:=c.w) (k:=.int .i64 n) hkt rfl ents.isEmpty 9999;have fin:∀(ents':Array MapEntry),LR (RepM c.te (.ref e)) (cx (xs.getD i []:List (Int×Option Nat)) n) ents'.toList->MapKept.Stamped ents' clock ->
          (Builtin.delete_ cc.argTypes o.type (cc.args.map r)).run P c.w=.ok (.tuple #[]) { c.w with heap:=c.w.heap.setIfInBounds b (.map ents' clock) } ->
          cG A te0 w0 M c ((builtin .delete cc.argTypes o.type (cc.args.map fun| .const _=>true|_=>false) (cc.args.map r)).run P c.w) .undef [(cid,.col t' off .mp (.slice (.prod (.int .i64) (.ref e))) (xs.set i (cx (xs.getD i []:List (Int×Option Nat)) n)) (g+1) p)]:=by
         intro ents' hl hst hrun;have hstep:=BQ hm hM hid' hlt q1 q2 q3 hl hst rfl;refine hstep.ok hm hM (nv:=.value (.tuple #[])) ?_ (.inl ⟨_,rfl,trivial⟩);exact aM hrun
        rcases kD (k:=.ref e) n _ ents.toList 0 q4 with⟨f1,f2,_⟩|⟨j,m,f1,f2,f3⟩
        ·refine fin ents (by rw[f2];exact q4) q5 ?_;unfold Builtin.delete_;simp only[ht',a0,a1];rw[run_ok (run_underlying hu c.w)];simp only[];rw[run_ok (MapKept.run_getObj_map q3)];simp only[];rw[run_ok hck,run_ok (MapKept.run_findKey hkt f1)];simp only[];rw[run_ok (MapKept.run_setObj_map _ q3)];rfl
        ·refine fin (ents.eraseIdxIfInBounds j) (by rw[f3];have:=q4.eraseIdx j;simpa using this) (MapKept.stamped_erase q5 j) ?_;unfold Builtin.delete_;simp only[ht',a0,a1];rw[run_ok (run_underlying hu c.w)];simp only[];rw[run_ok (MapKept.run_getObj_map q3)];simp only[];rw[run_ok hck,run_ok (MapKept.run_findKey hkt f1)];simp only[Ox];rw[run_ok (MapKept.run_setObj_map _ q3)];rfl
      ·cases h
     ·cases h
   ·cases h
  ·cases h
 |len=>
  simp only[]at h;split at h
  ·split at h
   ·unfold lenS at h;split at h
    ·split at h<;>cases h
    ·split at h<;>cases h
    ·cases h
   ·cases h
  ·cases h
 |min=>
  simp only[]at h;unfold DJ at h;split at h
  ·split at h<;>cases h
  ·cases h
 |max=>
  simp only[]at h;unfold DJ at h;split at h
  ·split at h<;>cases h
  ·cases h
 |_=>cases h
end
end Go.Eng
namespace Go.Eng
open Go.RowKit
def dj (A:Ann)(t cid:Nat):Bool:=(A.man t).any λd=>decide (cid=aX t d.1)
theorem cf {A:Ann}{t cid:Nat}:dj A t cid=true ↔ ∃d∈A.man t,cid=aX t d.1:=by simp[dj]
def TE.tnew (te : TE) (A : Ann) (t n b : Nat) (F : Nat → Option Nat) (G : Nat → Value) : TE :=
  { te with ι := fun t' i => if t' = t ∧ i = n then some b else te.ι t' i,
            ow := fun cid i => if i = n ∧ dj A t cid = true then F cid else te.ow cid i,
            cur := fun cid i => if i = n ∧ dj A t cid = true then G cid else te.cur cid i }
structure eE (A:Ann)(w0:World)(M:MS)(c:Cx)(t n:Nat)(vs:Array Value)(T:TypeId)(F:Nat->Option Nat)(G:Nat->Value)(hp':Nat->Option Obj):Prop where
 ne:A.man t≠[]
 col:∀d∈A.man t,∃(xs:List d.2.2.T) (g:Nat) (x:d.2.2.T),c.hp (aX t d.1)=some (.col t d.1 d.2.1 d.2.2 xs g none)/\xs.length=n/\hp' (aX t d.1)=some (.col t d.1 d.2.1 d.2.2 (xs++[x]) g none) /\
  dh (c.te.tnew A t n c.w.heap.size F G) (bY c.w (.cells vs T (0,0))) c.S t n d.1 (F (aX t d.1)) (G (aX t d.1)) False d.2.1 d.2.2 x
 other:∀id,dj A t id=false->hp' id=c.hp id
 one:∀v∈vs.toList,Go.Eng.one v=true
 room:∀d∈A.man t,d.1+csz d.2.1 d.2.2<=vs.size
 free:∀d∈A.man t,d.2.1≠ .dat->∀b',F (aX t d.1)=some b'->b'<c.w.heap.size/\¬ c.S b'/\(∀id,¬ Live c id b')/\(∀l,¬ OwnX c l b')/\(w0.heap.size<=b'\/M.f b')
 inj:∀d∈A.man t,∀d'∈A.man t,d.2.1≠ .dat->d'.2.1≠ .dat->∀b',F (aX t d.1)=some b'->F (aX t d'.1)=some b'->d=d'
def Cx.bnew (c:Cx)(A:Ann)(t n:Nat)(vs:Array Value)(T:TypeId)(F:Nat->Option Nat)(G:Nat->Value)(hp':Nat->Option Obj):Cx:=
 ⟨c.te.tnew A t n c.w.heap.size F G,bY c.w (.cells vs T (0,0)),c.S,c.β,hp'⟩
section
variable {P:Program} {A:Ann} {te0:TE} {w0:World} {M:MS} {c:Cx} {t n:Nat} {vs:Array Value} {T:TypeId} {F:Nat->Option Nat} {G:Nat->Value} {hp':Nat->Option Obj}
theorem eE.none (h:eE A w0 M c t n vs T F G hp')(hM:ManR A c):c.te.ι t n=none:=by
 obtain⟨d,hd⟩:=List.exists_mem_of_ne_nil _ h.ne;obtain⟨xs,g,x,q1,q2,_⟩:=h.col d hd;cases hi:c.te.ι t n with
 |none=>rfl
 |some b=>
  have:=(hM.dom _ _ _ _ _ _ _ _ q1 n).2 (by rw[hi];rfl);omega
theorem eE.le (h:eE A w0 M c t n vs T F G hp')(hM:ManR A c):TLe c.te (c.te.tnew A t n c.w.heap.size F G):=by
 refine⟨rfl,λt' i b hb=>?_⟩;simp only[TE.tnew];split
 ·rename_i q;obtain⟨rfl,rfl⟩:=q;rw[h.none hM]at hb;cases hb
 ·exact hb
theorem eE.cols (h:eE A w0 M c t n vs T F G hp'){cid t2 off2:Nat}{m2:Mode}{k2:K}{xs2:List k2.T}{g2:Nat}{p2:Option Nat}(hc:hp' cid=some (.col t2 off2 m2 k2 xs2 g2 p2)):
  (t2=t/\dj A t cid=true/\(off2,m2,k2)∈A.man t/\cid=aX t off2/\p2=.none/\∃xs x,xs2=xs++[x]/\xs.length=n/\c.hp cid=some (.col t off2 m2 k2 xs g2 .none)/\dh (c.te.tnew A t n c.w.heap.size F G) (bY c.w (.cells vs T (0,0))) c.S t n off2 (F cid) (G cid) False m2 k2 x) \/
  (dj A t cid=false/\c.hp cid=some (.col t2 off2 m2 k2 xs2 g2 p2)):=by
 cases hi:dj A t cid with
 |false=>exact .inr ⟨rfl,by rw[<- h.other cid hi];exact hc⟩
 |true=>
  obtain⟨⟨off,m,k⟩,hd,rfl⟩:=cf.1 hi;obtain⟨xs,g,x,q1,q2,q3,q4⟩:=h.col _ hd;simp only at q1 q2 q3 q4;rw[q3]at hc;cases hc;exact .inl ⟨rfl,rfl,hd,rfl,rfl,xs,x,rfl,q2,q1,q4⟩
theorem eE.held (h:eE A w0 M c t n vs T F G hp')(t2:Nat):cO (c.bnew A t n vs T F G hp') t2 ↔ cO c t2:=by
 constructor
 ·rintro⟨cid,off,m,k,xs,g,p,q⟩;rcases h.cols q with⟨rfl,_,_,_,_,xs',_,_,_,q,_⟩|⟨_,q⟩
  ·exact⟨_,_,_,_,_,_,_,q⟩
  ·exact⟨_,_,_,_,_,_,_,q⟩
 ·rintro⟨cid,off,m,k,xs,g,p,q⟩;cases hi:dj A t cid with
  |false=>exact⟨cid,off,m,k,xs,g,p,(h.other cid hi).trans q⟩
  |true=>
   obtain⟨d,hd,rfl⟩:=cf.1 hi;obtain⟨xs',g',x,q1,q2,q3,_⟩:=h.col d hd;rw[q1]at q;cases q;exact⟨_,_,_,_,_,_,_,q3⟩
theorem eE.keep (h:eE A w0 M c t n vs T F G hp'){cid t2 off2:Nat}{m2:Mode}{k2:K}{xs2:List k2.T}{g2:Nat}{p2:Option Nat}(hc:c.hp cid=some (.col t2 off2 m2 k2 xs2 g2 p2)):∃xs g p,hp' cid=some (.col t2 off2 m2 k2 xs g p):=by
 cases hi:dj A t cid with
 |false=>exact⟨_,_,_,(h.other cid hi).trans hc⟩
 |true=>
  obtain⟨d,hd,rfl⟩:=cf.1 hi;obtain⟨xs',g',x,q1,q2,q3,_⟩:=h.col d hd;rw[q1]at hc;cases hc;exact⟨_,_,_,q3⟩
theorem eE.live (h:eE A w0 M c t n vs T F G hp'){id b:Nat}(hl:Live (c.bnew A t n vs T F G hp') id b):Live c id b:=by
 obtain⟨h1,o,h2,h3⟩:=hl;refine⟨h1,o,?_,h3⟩;cases hi:dj A t id with
 |false=>exact(h.other id hi).symm.trans h2
 |true=>
  obtain⟨d,hd,rfl⟩:=cf.1 hi;obtain⟨xs',g',x,q1,q2,q3,_⟩:=h.col d hd;have h2':hp' (aX t d.1)=some o:=h2;rw[q3]at h2';cases h2';cases h3
theorem eE.turns (h:eE A w0 M c t n vs T F G hp')(hm:Mem w0 M c)(hM:Man A te0 w0 M c):sP w0 M c (λid=>dj A t id=true) (λ_=>False) (c.bnew A t n vs T F G hp'):=by
 have hg:Grew c.w (bY c.w (.cells vs T (0,0))):=cI _ _;refine⟨h.le hM.r,λcid hn=>⟨?_,?_⟩,hg.1,hg.2.1,hg.2.2.1,hg.2.2.2.1,λb hb _ _=>hg.2.2.2.2 b hb,λb hx=>hx.elim,λ_ q=>q,λb hb=>⟨N1 (hm.below b hb) hg.2.2.2.1,.inl hb⟩,λid hn=>⟨h.other id (by simpa using hn),rfl⟩,λid o hi ho=>?_,λid b hi hl=>?_,λid s v hi hs hr=>?_⟩
 ·funext i;simp[Cx.bnew,TE.tnew,hn]
 ·funext i;simp[Cx.bnew,TE.tnew,hn]
 ·obtain⟨d,hd,rfl⟩:=cf.1 hi;obtain⟨xs',g',x,q1,q2,q3,_⟩:=h.col d hd;have ho':hp' (aX t d.1)=some o:=ho;rw[q3]at ho';cases ho';trivial
 ·have:=h.live hl;obtain⟨d,hd,rfl⟩:=cf.1 hi;obtain⟨xs',g',x,q1,q2,q3,_⟩:=h.col d hd;obtain⟨_,o,h2,h3⟩:=this;rw[q1]at h2;cases h2;cases h3
 ·have hi0:=hi;obtain⟨⟨off,m,k⟩,hd,rfl⟩:=cf.1 hi;obtain⟨xs,g,x,hold,hlen,hhp,_⟩:=h.col _ hd;simp only at hold hlen hhp;have hhp:(c.bnew A t n vs T F G hp').hp (aX t off)=some (.col t off m k (xs++[x]) g .none):=hhp;cases s<;>simp only[S.ids,NY,OV,reduceCtorEq]at hs
  case vw q n1=>subst hs;exact⟨hr.1,_,hhp,λ_ _ _ _ _ e=>(by cases e)⟩
  case pv q n1 o1 l1=>subst hs;exact⟨hr.1,_,hhp,λ_ _ _ _ _ e=>(by cases e)⟩
  case ptr q n1 i1 p1=>
   subst hs;obtain⟨h0,o,h1,h2,_⟩:=hr;exact⟨h0,_,hhp,h2,λ_ e=>(by cases e),λ_ _ _ _ _ e=>(by cases e)⟩
  case mp q=>subst hs;exact⟨hr.1,_,hhp,λe=>(by cases e)⟩
  case rp t1 i1 o1=>
   obtain⟨b,h1,h2⟩:=hr;exact⟨b,(h.le hM.r).2 _ _ _ h1,h2⟩
  case ov q n1 i1=>
   subst hs;obtain⟨h0,o,h1,h2⟩:=hr;rw[hold]at h1;cases h1;refine⟨h0,_,hhp,λt2 off2 m2 k2 xs2 g2 p2 e=>?_⟩;cases e;obtain⟨r1,r2⟩:=h2 _ _ _ _ _ _ _ rfl;refine⟨r1,λe=>?_⟩;obtain⟨s1,s2⟩:=r2 e;have hlt:=(hM.r.dom _ _ _ _ _ _ _ _ hold i1).2 s1;obtain⟨b,hb⟩:=Pt.1 s1;refine⟨by show(((c.te.tnew A t n c.w.heap.size F G).ι t i1).isSome=true);rw[(h.le hM.r).2 _ _ _ hb];rfl,?_⟩;rw[s2];have:i1≠n:=by omega
   simp[Cx.bnew,TE.tnew,this]
  case oe q n1 i1 j1 p1=>
   subst hs;obtain⟨h0,o,h1,hp1,h2⟩:=hr;rw[hold]at h1;cases h1;refine⟨h0,_,hhp,hp1,λt2 off2 m2 e2 xs2 g2 p2 e=>?_⟩;cases e;obtain⟨r1,r2⟩:=h2 _ _ _ _ _ _ _ rfl;refine⟨r1,λe=>?_⟩;obtain⟨s1,s2,b,s3,s4⟩:=r2 e;have hlt:=(hM.r.dom _ _ _ _ _ _ _ _ hold i1).2 s1;obtain⟨b1,hb1⟩:=Pt.1 s1;refine⟨by show(((c.te.tnew A t n c.w.heap.size F G).ι t i1).isSome=true);rw[(h.le hM.r).2 _ _ _ hb1];rfl,?_,b,?_,s4⟩
   ·rw[NP,NZ hlt,<- NP];exact s2
   ·have:i1≠n:=by omega
    simp[Cx.bnew,TE.tnew,this,s3]
  case bm f q=>
   subst hs;obtain⟨p1,hv,o,h1,h2⟩:=hr;exact⟨p1,hv,_,hhp,λ_ e=>(by cases e)⟩
theorem eE.own (h : eE A w0 M c t n vs T F G hp') (hM : ManR A c) {l : Lab} {b : Nat} (hx : OwnX (c.bnew A t n vs T F G hp') l b) :
    OwnX c l b ∨ (l = .man t n ∧ b = c.w.heap.size) ∨ ∃ d ∈ A.man t, l = .own (aX t d.1) n ∧ d.2.1 ≠ .dat ∧ F (aX t d.1) = some b := by
  cases l with
  | man t2 i2 =>
    obtain ⟨q1, q2⟩ := hx
    simp only [Cx.bnew, TE.tnew] at q2
    split at q2
    · rename_i e; obtain ⟨rfl, rfl⟩ := e; cases q2; exact .inr (.inl ⟨rfl, rfl⟩)
    · exact .inl ⟨(h.held t2).1 q1, q2⟩
  | own cid i2 =>
    obtain ⟨⟨t2, off2, m2, k2, xs2, g2, p2, q1, q2, q3⟩, q4⟩ := hx
    simp only [Cx.bnew, TE.tnew] at q4
    rcases h.cols q1 with ⟨rfl, y1, y2, rfl, rfl, xs, x, rfl, y5, y6, _⟩ | ⟨y1, y2⟩
    · split at q4
      · rename_i e; obtain ⟨rfl, _⟩ := e
        exact .inr (.inr ⟨_, y2, rfl, q2, q4⟩)
      · rename_i e
        have hne : i2 ≠ n := fun q => e ⟨q, y1⟩
        simp at q3
        exact .inl ⟨⟨_, _, _, _, _, _, _, y6, q2, by omega⟩, q4⟩
    · rw [ND (by rw [y1]; simp)] at q4
      exact .inl ⟨⟨_, _, _, _, _, _, _, y2, q2, q3⟩, q4⟩
theorem eE.man (h : eE A w0 M c t n vs T F G hp') (hm : Mem w0 M c) (hM : Man A te0 w0 M c) : Man A te0 w0 M (c.bnew A t n vs T F G hp') := by
  have hg : Grew c.w (bY c.w (.cells vs T (0, 0))) := cI _ _
  have hbf : bD (bY c.w (.cells vs T (0, 0))) c.w.heap.size vs := cB c.w vs T
  have hle := h.le hM.r
  have hstab : ∀ b, c.S b → (bY c.w (.cells vs T (0, 0))).heap[b]? = c.w.heap[b]? := fun b hb => hg.2.2.2.2 b (hm.below b hb)
  have hsz : (bY c.w (.cells vs T (0, 0))).heap.size = c.w.heap.size + 1 := by simp [bY]
  have hι : ∀ t2 i2, ¬ (t2 = t ∧ i2 = n) → (c.te.tnew A t n c.w.heap.size F G).ι t2 i2 = c.te.ι t2 i2 := fun t2 i2 q => by simp [TE.tnew, q]
  have hιn : (c.te.tnew A t n c.w.heap.size F G).ι t n = some c.w.heap.size := by simp [TE.tnew]
  have hnt : ∀ {cid t2 off2 m2 k2} {xs2 : List (K.T k2)} {g2 p2}, c.hp cid = some (.col t2 off2 m2 k2 xs2 g2 p2) → dj A t cid = false → t2 ≠ t := by
    rintro cid t2 off2 m2 k2 xs2 g2 p2 q1 q2 rfl
    obtain ⟨z1, z2⟩ := hM.r.ci _ _ _ _ _ _ _ _ q1
    rw [cf.2 ⟨_, z2, z1⟩] at q2; cases q2
  have hR : ManR A (c.bnew A t n vs T F G hp') := by
    refine ManR.of_items hM.r.lay (fun cid2 t2 off2 m2 k2 xs2 g2 p2 hc => ?_) (fun cid2 t2 off2 m2 k2 xs2 g2 p2 hc j => ?_) (fun t2 i2 b hh hi => ?_) (fun cid2 t2 off2 m2 k2 xs2 g2 p2 hc j x hx => ?_) (fun l b hl => ?_) (fun l l' b hl hl' => ?_)
    · rcases h.cols hc with ⟨rfl, _, y2, y3, _⟩ | ⟨_, y⟩
      · exact ⟨y3, y2⟩
      · exact hM.r.ci _ _ _ _ _ _ _ _ y
    · rcases h.cols hc with ⟨rfl, _, y2, _, _, xs, x, rfl, y5, y6, _⟩ | ⟨y1, y⟩
      · have := hM.r.dom _ _ _ _ _ _ _ _ y6 j
        show j < (xs ++ [x]).length ↔ ((c.te.tnew A t2 n c.w.heap.size F G).ι t2 j).isSome = true
        rw [Ny, QU, y5]
        by_cases e : j = n
        · subst e; rw [hιn]; simp
        · rw [hι t2 j (fun q => e q.2), ← this]; omega
      · show j < xs2.length ↔ ((c.te.tnew A t n c.w.heap.size F G).ι t2 j).isSome = true
        rw [hι t2 j (fun q => hnt y y1 q.1)]
        exact hM.r.dom _ _ _ _ _ _ _ _ y j
    · have hi : (c.te.tnew A t n c.w.heap.size F G).ι t2 i2 = some b := hi
      by_cases e : t2 = t ∧ i2 = n
      · obtain ⟨rfl, rfl⟩ := e
        rw [hιn] at hi; cases hi
        exact ⟨vs, hbf, h.one, h.room⟩
      · rw [hι _ _ e] at hi
        obtain ⟨arr, q1, q2, q3⟩ := hM.r.box t2 i2 b ((h.held t2).1 hh) hi
        exact ⟨arr, q1.of (hg.2.2.2.2 b (bE q1.blk.choose_spec.choose_spec)), q2, q3⟩
    · -- items
      have main : ∀ (xs0 : List k2.T) (g3 : Nat), c.hp cid2 = some (.col t2 off2 m2 k2 xs0 g3 p2) → xs0[j]? = some x → ¬ (t2 = t ∧ j = n) → (j = n → dj A t cid2 = false) → dh (c.bnew A t n vs T F G hp').te (bY c.w (.cells vs T (0, 0))) c.S t2 j off2 ((c.bnew A t n vs T F G hp').te.ow cid2 j) ((c.bnew A t n vs T F G hp').te.cur cid2 j) (p2 = some j) m2 k2 x := by
        intro xs0 g3 hc3 hx3 hne hnc
        have hit := hM.r.items cid2 t2 off2 m2 k2 xs0 g3 p2 hc3 j x hx3
        have e1 : (c.bnew A t n vs T F G hp').te.ow cid2 j = c.te.ow cid2 j := by
          simp only [Cx.bnew, TE.tnew]; rw [ND]; rintro ⟨q1, q2⟩; rw [hnc q1] at q2; cases q2
        have e2 : (c.bnew A t n vs T F G hp').te.cur cid2 j = c.te.cur cid2 j := by
          simp only [Cx.bnew, TE.tnew]; rw [ND]; rintro ⟨q1, q2⟩; rw [hnc q1] at q2; cases q2
        rw [e1, e2]
        refine dh.mono hle hstab (fun _ h => h) (fun hmd b hb => hg.2.2.2.2 b ?_) (fun b arr' hb hbk => ?_) (fun q => q) hit
        · exact (hM.r.sep (.own cid2 j) b ⟨⟨t2, off2, m2, k2, xs0, g3, p2, hc3, hmd, (NJ.1 hx3).1⟩, hb⟩).1
        · have hb : (c.te.tnew A t n c.w.heap.size F G).ι t2 j = some b := hb
          rw [hι _ _ hne] at hb
          exact ⟨hb, arr', hbk.of (hg.2.2.2.2 b (hM.r.sep (.man t2 j) b ⟨⟨_, _, _, _, _, _, _, hc3⟩, hb⟩).1).symm, fun _ _ _ => rfl⟩
      rcases h.cols hc with ⟨rfl, y1, y2, y3, rfl, xs, x', rfl, y5, y6, y7⟩ | ⟨y1, y⟩
      · by_cases e : j = n
        · subst e
          rw [N6 (by omega), y5] at hx
          simp at hx
          subst hx
          have e1 : (c.bnew A t2 j vs T F G hp').te.ow cid2 j = F cid2 := by simp [Cx.bnew, TE.tnew, y1]
          have e2 : (c.bnew A t2 j vs T F G hp').te.cur cid2 j = G cid2 := by simp [Cx.bnew, TE.tnew, y1]
          rw [e1, e2]
          exact dh.mono (TLe.refl _) (fun _ _ => rfl) (fun _ h => h) (fun _ _ _ => rfl) (fun b arr' q1 q2 => ⟨q1, arr', q2, fun _ _ _ => rfl⟩) (fun q => q.elim) y7
        · have hlt : j < xs.length := by
            have := (NJ.1 hx).1
            simp at this; omega
          rw [NZ hlt] at hx
          exact main xs g2 y6 hx (fun q => e q.2) (fun q => (e q).elim)
      · exact main xs2 g2 y hx (fun q => hnt y y1 q.1) (fun _ => y1)
    · rcases h.own hM.r hl with q | ⟨rfl, rfl⟩ | ⟨d, hd, rfl, q2, q3⟩
      · obtain ⟨r1, r2, r3⟩ := hM.r.sep l b q
        exact ⟨by show b < (bY c.w (.cells vs T (0, 0))).heap.size; omega, r2, fun id hid => r3 id (h.live hid)⟩
      · exact ⟨by show c.w.heap.size < (bY c.w (.cells vs T (0, 0))).heap.size; omega, fun hs => PD _ (hm.below _ hs), fun id hid => PD _ (hm.live id _ (h.live hid)).1⟩
      · obtain ⟨r1, r2, r3, _⟩ := h.free d hd q2 b q3
        exact ⟨by show b < (bY c.w (.cells vs T (0, 0))).heap.size; omega, r2, fun id hid => r3 id (h.live hid)⟩
    · rcases h.own hM.r hl with q | ⟨rfl, rfl⟩ | ⟨d, hd, rfl, q2, q3⟩ <;> rcases h.own hM.r hl' with q' | ⟨rfl, e'⟩ | ⟨d', hd', rfl, q2', q3'⟩
      · exact hM.r.one l l' b q q'
      · subst e'; exact (PD _ (hM.r.sep l _ q).1).elim
      · exact ((h.free d' hd' q2' b q3').2.2.2.1 l q).elim
      · exact (PD _ (hM.r.sep l' _ q').1).elim
      · rfl
      · exact (PD _ (h.free d' hd' q2' _ q3').1).elim
      · exact ((h.free d hd q2 b q3).2.2.2.1 l' q').elim
      · subst e'; exact (PD _ (h.free d hd q2 _ q3).1).elim
      · rw [h.inj d hd d' hd' q2 q2' b q3 q3']
  refine ⟨hR, fun l b hl => ?_, fun t2 i2 b arr2 hh hi hlt hbk => ?_, hM.f.tle.trans hle, fun t2 ht => ?_, fun cid2 hn => ?_, fun t2 i2 b hi => ?_⟩
  · rcases h.own hM.r hl with q | ⟨rfl, rfl⟩ | ⟨d, hd, rfl, q2, q3⟩
    · exact hM.f.wr l b q
    · exact .inl hm.fr.size
    · exact (h.free d hd q2 b q3).2.2.2.2
  · have hi : (c.te.tnew A t n c.w.heap.size F G).ι t2 i2 = some b := hi
    by_cases e : t2 = t ∧ i2 = n
    · obtain ⟨rfl, rfl⟩ := e
      rw [hιn] at hi; cases hi
      have := hm.fr.size
      omega
    · rw [hι _ _ e] at hi
      have hh' := (h.held t2).1 hh
      have hbk' : Blk c.w b arr2 := hbk.of (hg.2.2.2.2 b (hM.r.sep (.man t2 i2) b ⟨hh', hi⟩).1).symm
      obtain ⟨arr0, r1, r2, r3⟩ := hM.f.frc t2 i2 b arr2 hh' hi hlt hbk'
      refine ⟨arr0, r1, r2, fun o ho => r3 o fun cid3 off3 m3 k3 xs3 g3 p3 hc3 => ?_⟩
      obtain ⟨xs4, g4, p4, q⟩ := h.keep hc3
      exact ho cid3 off3 m3 k3 xs4 g4 p4 q
  · have hne : t2 ≠ t := by
      rintro rfl
      refine ht ⟨h.ne, fun d hd => ?_⟩
      obtain ⟨xs, g, x, _, _, q, _⟩ := h.col d hd
      exact ⟨_, _, _, _, _, _, q⟩
    have := hM.f.same t2 fun hf => ht ⟨hf.1, fun d hd => by
      obtain ⟨off, m, k, xs, g, p, q⟩ := hf.2 d hd
      obtain ⟨xs4, g4, p4, q⟩ := h.keep q
      exact ⟨_, _, _, _, _, _, q⟩⟩
    rw [← this]
    funext i2
    exact hι _ _ (fun q => hne q.1)
  · have hnc : dj A t cid2 = false := by
      cases hi : dj A t cid2 with
      | false => rfl
      | true =>
        obtain ⟨d, hd, rfl⟩ := cf.1 hi
        obtain ⟨xs, g, x, _, _, q, _⟩ := h.col d hd
        exact (hn _ _ _ _ _ _ _ q).elim
    have := hM.f.samo cid2 fun t2 off2 m2 k2 xs2 g2 p2 q => hn t2 off2 m2 k2 xs2 g2 p2 ((h.other cid2 hnc).trans q)
    refine ⟨?_, ?_⟩
    · rw [← this.1]; funext i; simp [Cx.bnew, TE.tnew, hnc]
    · rw [← this.2]; funext i; simp [Cx.bnew, TE.tnew, hnc]
  · have hi : (c.te.tnew A t n c.w.heap.size F G).ι t2 i2 = some b := hi
    by_cases e : t2 = t ∧ i2 = n
    · obtain ⟨rfl, rfl⟩ := e
      rw [hιn] at hi; cases hi
      exact .inr hm.fr.size
    · rw [hι _ _ e] at hi
      exact hM.f.newb t2 i2 b hi
end
end Go.Eng
