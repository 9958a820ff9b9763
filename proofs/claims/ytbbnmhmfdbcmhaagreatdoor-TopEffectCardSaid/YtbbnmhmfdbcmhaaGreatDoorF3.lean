/- Definitions and lemmas for the law TopEffect: what the program's functions come to. Conditions: as each lemma says. -/
import Derived.Test.YtbbnmhmfdbcmhaaGreatDoorProg
import Derived.WalkKit
import Derived.Test.YtbbnmhmfdbcmhaaGreatDoorF2
import Derived.ProofKit
import Derived.StillTailTactics
import Derived.WalkSmall
import Derived.BigRegion
import Derived.BigQuiet
import Derived.Deep.AppendLies
import Derived.Deep.RegionLaw
import Derived.Laws.IdiomRangeMap
import Derived.Maps.RangeRun
set_option linter.all false
set_option linter.unusedVariables false
set_option linter.unusedSimpArgs false
set_option linter.deprecated false
namespace Go.Proofs.Due
open Go.RowKit Go.Proofs
theorem lv (bx:Nat)(v:Value)(w:World)(h:w.cell? ⟨bx,0,none⟩=some v):(loadVar 224 ⟨bx,0,none⟩).run Tryz.prog w=.ok v w:=by
 simp[loadVar,isAgg,underlying,Tryz.underlying224,h,Result.andThen]
theorem meth (nm:String)(f:Nat)(bx:Nat)(v:Value)(w:World)(h:w.cell? ⟨bx,0,none⟩=some v)
  (hm:((Tryz.prog.info? 222).bind λi=>(i.methods.find? (·.name==nm)).bind λm=>if m.path.isEmpty then m.func else none)=some (f,false)):(Go.method 437 222 (.pointer (some ⟨bx,0,none⟩)) nm).run Tryz.prog w=.ok (f,v) w:=by
 obtain⟨i,h1,hm⟩:=PN.1 hm;obtain⟨m,h2,hm⟩:=PN.1 hm;split at hm
 ·rename_i h3;have h3':m.path=#[]:=by simpa using h3
  have sw : ∀ l : String, (Builtin.ssaWrapNilChk_ #[222] 222 #[.pointer (some ⟨bx, 0, none⟩), strVal "", strVal l]).run Tryz.prog w = .ok (.pointer (some ⟨bx, 0, none⟩)) w := fun l => by kernel_rfl
  have e:(Go.method 437 222 (.pointer (some ⟨bx,0,none⟩)) nm)=(Go.method (436+1) 222 (.pointer (some ⟨bx,0,none⟩)) nm):=rfl;rw[e,Go.method];simp[typeInfo,h1,h2,h3',hm,follow,receiverAt,underlying,Tryz.underlying222,Place.get,sw,asAddr,lv bx v w h,Result.andThen]
 ·cases hm
theorem Du (bx : Nat) (v : Value) (w : World) (h : w.cell? ⟨bx, 0, none⟩ = some v) : (Go.method 437 222 (.pointer (some ⟨bx, 0, none⟩)) "Less").run Tryz.prog w = .ok (215, v) w := meth _ _ bx v w h (by kernel_rfl)
theorem mLen (bx : Nat) (v : Value) (w : World) (h : w.cell? ⟨bx, 0, none⟩ = some v) : (Go.method 437 222 (.pointer (some ⟨bx, 0, none⟩)) "Len").run Tryz.prog w = .ok (122, v) w := meth _ _ bx v w h (by kernel_rfl)
theorem xz (bx : Nat) (v : Value) (w : World) (h : w.cell? ⟨bx, 0, none⟩ = some v) : (Go.method 437 222 (.pointer (some ⟨bx, 0, none⟩)) "Swap").run Tryz.prog w = .ok (218, v) w := meth _ _ bx v w h (by kernel_rfl)
theorem Nc (bx : Nat) (w : World) : (Go.method 437 222 (.pointer (some ⟨bx, 0, none⟩)) "Push").run Tryz.prog w = .ok (217, .pointer (some ⟨bx, 0, none⟩)) w := by kernel_rfl
theorem mPop (bx : Nat) (w : World) : (Go.method 437 222 (.pointer (some ⟨bx, 0, none⟩)) "Pop").run Tryz.prog w = .ok (216, .pointer (some ⟨bx, 0, none⟩)) w := by kernel_rfl
end Go.Proofs.Due
namespace Go.Proofs.Due
open Go.RowKit Go.Proofs Go.Eng
abbrev LI:=List (Int×Int)
def cellsOf (l:LI):List Value:=l.flatMap λp=>[.int .i64 p.1,.int .i64 p.2]
def bp (B:Nat)(w:World)(bx:Nat)(l:LI):Prop:=
 B<=bx/\∃v,w.heap[bx]?=some (.cells #[v] 224 (0,0))/\w.ownsRow B 227 2 v l.length (cellsOf l)/\v.ownBlock≠some bx
theorem bp.cell {B:Nat}{w:World}{bx:Nat}{l:LI}(h:bp B w bx l):∃v,w.cell? ⟨bx,0,none⟩=some v:=by
 obtain⟨_,v,h1,_⟩:=h;exact⟨v,by simp[World.cell?,h1]⟩
def cw (w:World)(bx:Nat):Option Nat:=match w.cell? ⟨bx,0,none⟩with|some v=>v.ownBlock|none=>none
structure Bel (B bx:Nat)(w w':World):Prop where
 bel:Below B w w'
 far:∀k,k<w.heap.size->k≠bx->cw w bx≠some k->w'.heap[k]?=w.heap[k]?
 row:cw w' bx=cw w bx\/∀k,cw w' bx=some k->w.heap.size<=k
theorem Bel.refl (B bx:Nat)(w:World):Bel B bx w w:=⟨Below.refl _ _,λ_ _ _ _=>rfl,.inl rfl⟩
theorem Bel.trans {B bx:Nat}{a b c:World}(h:Bel B bx a b)(k:Bel B bx b c):Bel B bx a c:=by
 have hsz:=h.bel.size;refine⟨h.bel.trans k.bel,λi h1 h2 h3=>?_,?_⟩
 ·rw[k.far i (by omega) h2 ?_,h.far i h1 h2 h3];rcases h.row with q|q
  ·rw[q];exact h3
  ·intro e;have:=q i e;omega
 ·rcases k.row with q|q
  ·rcases h.row with p|p
   ·exact .inl (q.trans p)
   ·exact .inr λi e=>p i (q ▸ e)
  ·exact .inr λi e=>by have:=q i e;omega
abbrev hV (bx:Nat):Value:=.iface 222 (.pointer (some ⟨bx,0,none⟩))
def Ok1 (B bx:Nat):Prop:=
 (∀(w:World) (l:LI) (v:Value),bp B w bx l->w.cell? ⟨bx,0,none⟩=some v->Calls Tryz.prog 122 #[v] w λe w'=>e=.returned (.int .i64 l.length)/\bp B w' bx l/\Bel B bx w w') /\
 (∀(w:World) (l:LI) (v:Value) (i j:Nat),bp B w bx l->w.cell? ⟨bx,0,none⟩=some v->i<l.length->j<l.length->Calls Tryz.prog 215 #[v,.int .i64 i,.int .i64 j] w λe w'=>e=.returned (.bool (fT (l.getD i (0,0)) (l.getD j (0,0))))/\bp B w' bx l/\Bel B bx w w') /\
 (∀(w:World) (l:LI) (v:Value) (i j:Nat),bp B w bx l->w.cell? ⟨bx,0,none⟩=some v->i<l.length->j<l.length->Calls Tryz.prog 218 #[v,.int .i64 i,.int .i64 j] w λe w'=>e=.returned (.tuple #[])/\bp B w' bx (iL l i j)/\Bel B bx w w')
set_option maxRecDepth 100000
theorem CD:∀(m m':Nat)(l:LI)(j:Nat),j<m->j<m'->hUp m l j=hUp m' l j
 |0,_,_,_,h,_=>by omega
 |_,0,_,_,_,h=>by omega
 |m+1,m'+1,l,j,h,h'=>by
  unfold hUp;cases hb:Nat.beq j 0 with
  |true=>rfl
  |false=>
   have hj:j≠0:=λe=>by rw[e]at hb;cases hb
   simp only[NS];rw[CD m m' (iL l ((j-1)/2) j) ((j-1)/2) (by omega) (by omega)]
theorem b8 (l:LI)(i j:Nat):(iL l i j).length=l.length:=by simp[iL]
theorem M6 (B bx:Nat)(hk:Ok1 B bx)(w:World)(l:LI)(j:Nat)(hj:j<l.length)(hlen:l.length<=1048576)(h:bp B w bx l):
  Calls Tryz.prog 148 #[hV bx,.int .i64 j] w λe w'=>e=.returned (.tuple #[])/\bp B w' bx (hUp (j+1) l j)/\Bel B bx w w':=by
 go_enter Tryz.func148,Tryz.ntmps148
 go_wp2
 go_loopw [1] (λv wr=>∃(l':LI) (j':Nat),v=.int .i64 j'/\j'<l'.length/\l'.length=l.length/\bp B wr bx l'/\Bel B bx w wr/\hUp (j'+1) l' j'=hUp (j+1) l j) (λv wr=>match v with| .int _ n=>n.toNat|_=>0)
 case atStart=>exact⟨l,j,rfl,hj,rfl,h,Bel.refl _ _ _,rfl⟩
 case round=>
  obtain⟨l',j',rfl,hj',hl',hr,hb,hu⟩:=hrel;by_cases h0:j'=0
  ·subst h0
   go_wp2
   go_end0
   rw[<- hu];exact⟨rfl,hr,hb⟩
  ·obtain⟨q,rfl⟩:∃q,j'=q+1:=⟨j'-1,by omega⟩
   have w1:IntKind.i64.wrap (((q+1:Nat):Int)-1)=(q:Int):=by show w64 _=_;rw[bP (by omega) (by omega)];omega
   have w2:(q:Int).tdiv 2=((q/2:Nat):Int):=by rw[PX (by omega)];omega
   have w3:¬ (((q/2:Nat):Int)=((q+1:Nat):Int)):=by omega
   have w4:((((q/2:Nat):Int))==(((q+1:Nat):Int)))=false:=by rw[O6];exact w3
   have w5:((q:Int)/2==(q:Int)+1)=false:=by rw[O6];omega
   obtain⟨v,hv⟩:=hr.cell;have mL:=Du bx v wr hv;have hun:hUp (q+1+1) l' (q+1)=bif fT (l'.getD (q+1) (0,0)) (l'.getD (q/2) (0,0))then hUp (q+1) (iL l' (q/2) (q+1)) (q/2)else l':=rfl
   cases hc:fT (l'.getD (q+1) (0,0)) (l'.getD (q/2) (0,0))with
   |false=>
    rw[hc,NS]at hun
    go_wp2_with (go_at_call 215;refine(hk.2.1 wr l' v (q+1) (q/2) hr hv hj' (by omega)).mono ?_;rintro e w' ⟨rfl,hr2,hb2⟩;rw[hc])
    go_end0
    rw[<- hu,hun];exact⟨rfl,hr2,hb.trans hb2⟩
   |true=>
    rw[hc,NH]at hun;obtain⟨w2',hw2⟩:∃w2':Nat,w2'=0:=⟨_,rfl⟩
    go_wp2_with (first
     |(go_at_call 215;refine(hk.2.1 wr l' v (q+1) (q/2) hr hv hj' (by omega)).mono ?_;rintro e w1 ⟨rfl,hr2,hb2⟩;rw[hc];obtain⟨v2,hv2⟩:=hr2.cell;have mS:=xz bx v2 w1 hv2)
     |(go_at_call 218;refine(hk.2.2 w1 l' v2 (q/2) (q+1) hr2 hv2 (by omega) hj').mono ?_;rintro e w3 ⟨rfl,hr3,hb3⟩))
    refine⟨⟨_,q/2,rfl,?_,?_,hr3,(hb.trans hb2).trans hb3,?_⟩,?_⟩
    ·rw[b8];omega
    ·rw[b8];exact hl'
    ·rw[<- hu,hun];exact CD _ _ _ _ (by omega) (by omega)
    ·simp only;omega
theorem oD:∀(m m':Nat)(l:LI)(i n:Nat),n<=i+m->n<=i+m'->fC m l i n=fC m' l i n
 |0,0,_,_,_,_,_=>rfl
 |0,m'+1,l,i,n,h,h'=>by
  unfold fC;rw[On (by omega)];rfl
 |m+1,0,l,i,n,h,h'=>by
  conv=>lhs;unfold fC
  rw[On (by omega)];rfl
 |m+1,m'+1,l,i,n,h,h'=>by
  unfold fC;cases hb:Nat.ble n (2*i+1)with
  |true=>rfl
  |false=>
   simp only[NS];have:∀j,i<j->fC m (iL l i j) j n=fC m' (iL l i j) j n:=λj hj=>oD m m' _ j n (by omega) (by omega)
   cases (Nat.ble (2*i+3) n&&fT (l.getD (2*i+2) (0,0)) (l.getD (2*i+1) (0,0)))with
   |true=>simp only[NH];rw[this (2*i+2) (by omega)]
   |false=>simp only[NS];rw[this (2*i+1) (by omega)]
theorem DB (l:LI)(i j n:Nat)(m:Nat)(hm:n<=i+m)(h1:2*i+1<n)(hj:j=bif Nat.ble (2*i+3) n&&fT (l.getD (2*i+2) (0,0)) (l.getD (2*i+1) (0,0))then 2*i+2 else 2*i+1):
  fC m l i n=bif fT (l.getD j (0,0)) (l.getD i (0,0))then fC m (iL l i j) j n else l:=by
 have hij:i<j:=by rw[hj];cases (Nat.ble (2*i+3) n&&fT (l.getD (2*i+2) (0,0)) (l.getD (2*i+1) (0,0)))<;>simp<;>omega
 match m,hm with
 |0,hm=>omega
 |m+1,hm=>
  conv=>lhs;unfold fC
  have hb:Nat.ble n (2*i+1)=false:=by
   cases hb:Nat.ble n (2*i+1)with
   |false=>rfl
   |true=>have:=N3 hb;omega
  rw[hb,NS];simp only;rw[<- hj,oD m (m+1) (iL l i j) j n (by omega) (by omega)]
def IsB (e:Ending):Prop:=∃b,e=.returned (.bool b)
set_option maxHeartbeats 1000000
theorem Lf (B bx:Nat)(hk:Ok1 B bx)(w:World)(l:LI)(n:Nat)(hn:n<=l.length)(hlen:l.length<=1048576)(h:bp B w bx l):
  Calls Tryz.prog 149 #[hV bx,.int .i64 0,.int .i64 n] w λe w'=>IsB e/\bp B w' bx (fC n l 0 n)/\Bel B bx w w':=by
 go_enter Tryz.func149,Tryz.ntmps149
 go_wp2
 go_loopw [7] (λv wr=>∃(l':LI) (i:Nat),v=.int .i64 i/\i<=1048576/\l'.length=l.length/\bp B wr bx l'/\Bel B bx w wr/\fC n l' i n=fC n l 0 n) (λv wr=>match v with| .int _ x=>n-x.toNat|_=>0)
 case atStart=>exact⟨l,0,rfl,by omega,rfl,h,Bel.refl _ _ _,rfl⟩
 case round=>
  obtain⟨l',i,rfl,hi,hl',hr,hb,hu⟩:=hrel;obtain⟨a,ha⟩:∃a:Int,a=2*(i:Int):=⟨_,rfl⟩
  obtain⟨j1,hj1⟩:∃a:Nat,a=2*i+1:=⟨_,rfl⟩
  obtain⟨j2,hj2⟩:∃a:Nat,a=2*i+2:=⟨_,rfl⟩
  have w1:IntKind.i64.wrap (2*(i:Int))=a:=by show w64 _=_;rw[bP (by omega) (by omega)];omega
  have w2:IntKind.i64.wrap (a+1)=(j1:Int):=by show w64 _=_;rw[bP (by omega) (by omega)];omega
  have w3:IntKind.i64.wrap ((j1:Int)+1)=(j2:Int):=by show w64 _=_;rw[bP (by omega) (by omega)];omega
  have c2:decide ((j1:Int)<0)=false:=NF (by omega);by_cases h1:j1<n
  ·have c1:decide ((n:Int)<=(j1:Int))=false:=NF (by omega);obtain⟨v,hv⟩:=hr.cell;have mL:=Du bx v wr hv;have hst:=DB l' i (bif Nat.ble (2*i+3) n&&fT (l'.getD (2*i+2) (0,0)) (l'.getD (2*i+1) (0,0))then 2*i+2 else 2*i+1) n n (by omega) (by omega) rfl;have b1:j1<l'.length:=by omega
   have bi:i<l'.length:=by omega
   by_cases h2:j2<n
   ·have c3:decide ((j2:Int)<(n:Int))=true:=NK (by omega);have b2:j2<l'.length:=by omega
    rw[<- hj1,<- hj2,On (by omega),Q0]at hst;cases hc:fT (l'.getD j2 (0,0)) (l'.getD j1 (0,0))with
    |true=>
     rw[hc,NH]at hst;cases hd:fT (l'.getD j2 (0,0)) (l'.getD i (0,0))with
     |false=>
      rw[hd,NS,hu]at hst;clear hu hj1 hj2 ha
      go_wp2_with (first
       |(go_at_call 215;refine(hk.2.1 w1' l' v2 j2 i hr2 hv2 b2 bi).mono ?_;rintro e w2' ⟨rfl,hr3,hb3⟩;rw[hd];obtain⟨v3,hv3⟩:=hr3.cell;have mS:=xz bx v3 w2' hv3)
       |(go_at_call 215;refine(hk.2.1 wr l' v j2 j1 hr hv b2 b1).mono ?_;rintro e w1' ⟨rfl,hr2,hb2⟩;rw[hc];obtain⟨v2,hv2⟩:=hr2.cell;have mL2:=Du bx v2 w1' hv2))
      go_ret
      refine⟨⟨_,rfl⟩,?_,(hb.trans hb2).trans hb3⟩;rw[hst];exact hr3
     |true=>
      rw[hd,NH,hu]at hst;have hfin:i<j2/\j2<=1048576/\j2<n:=by omega
      clear hu hj1 hj2 ha
      go_wp2_with (first
       |(go_at_call 218;refine(hk.2.2 w2' l' v3 i j2 hr3 hv3 bi b2).mono ?_;rintro e w3' ⟨rfl,hr4,hb4⟩)
       |(go_at_call 215;refine(hk.2.1 w1' l' v2 j2 i hr2 hv2 b2 bi).mono ?_;rintro e w2' ⟨rfl,hr3,hb3⟩;rw[hd];obtain⟨v3,hv3⟩:=hr3.cell;have mS:=xz bx v3 w2' hv3)
       |(go_at_call 215;refine(hk.2.1 wr l' v j2 j1 hr hv b2 b1).mono ?_;rintro e w1' ⟨rfl,hr2,hb2⟩;rw[hc];obtain⟨v2,hv2⟩:=hr2.cell;have mL2:=Du bx v2 w1' hv2))
      refine⟨⟨_,j2,rfl,by omega,?_,hr4,((hb.trans hb2).trans hb3).trans hb4,?_⟩,?_⟩
      ·rw[b8];exact hl'
      ·exact hst.symm
      ·simp only[NQ];omega
    |false=>
     rw[hc,NS]at hst;cases hd:fT (l'.getD j1 (0,0)) (l'.getD i (0,0))with
     |false=>
      rw[hd,NS,hu]at hst;clear hu hj1 hj2 ha
      go_wp2_with (first
       |(go_at_call 215;refine(hk.2.1 w1' l' v2 j1 i hr2 hv2 b1 bi).mono ?_;rintro e w2' ⟨rfl,hr3,hb3⟩;rw[hd];obtain⟨v3,hv3⟩:=hr3.cell;have mS:=xz bx v3 w2' hv3)
       |(go_at_call 215;refine(hk.2.1 wr l' v j2 j1 hr hv b2 b1).mono ?_;rintro e w1' ⟨rfl,hr2,hb2⟩;rw[hc];obtain⟨v2,hv2⟩:=hr2.cell;have mL2:=Du bx v2 w1' hv2))
      go_ret
      refine⟨⟨_,rfl⟩,?_,(hb.trans hb2).trans hb3⟩;rw[hst];exact hr3
     |true=>
      rw[hd,NH,hu]at hst;have hfin:i<j1/\j1<=1048576/\j1<n:=by omega
      clear hu hj1 hj2 ha
      go_wp2_with (first
       |(go_at_call 218;refine(hk.2.2 w2' l' v3 i j1 hr3 hv3 bi b1).mono ?_;rintro e w3' ⟨rfl,hr4,hb4⟩)
       |(go_at_call 215;refine(hk.2.1 w1' l' v2 j1 i hr2 hv2 b1 bi).mono ?_;rintro e w2' ⟨rfl,hr3,hb3⟩;rw[hd];obtain⟨v3,hv3⟩:=hr3.cell;have mS:=xz bx v3 w2' hv3)
       |(go_at_call 215;refine(hk.2.1 wr l' v j2 j1 hr hv b2 b1).mono ?_;rintro e w1' ⟨rfl,hr2,hb2⟩;rw[hc];obtain⟨v2,hv2⟩:=hr2.cell;have mL2:=Du bx v2 w1' hv2))
      refine⟨⟨_,j1,rfl,by omega,?_,hr4,((hb.trans hb2).trans hb3).trans hb4,?_⟩,?_⟩
      ·rw[b8];exact hl'
      ·exact hst.symm
      ·simp only[NQ];omega
   ·have c3:decide ((j2:Int)<(n:Int))=false:=NF (by omega);have hble:Nat.ble (2*i+3) n=false:=by
     cases hb:Nat.ble (2*i+3) n with
     |false=>rfl
     |true=>have:=N3 hb;omega
    rw[hble,PH,NS,<- hj1]at hst;cases hd:fT (l'.getD j1 (0,0)) (l'.getD i (0,0))with
    |false=>
     rw[hd,NS,hu]at hst;clear hu hj1 hj2 ha
     go_wp2_with (first
      |(go_at_call 215;refine(hk.2.1 wr l' v j1 i hr hv b1 bi).mono ?_;rintro e w2' ⟨rfl,hr3,hb3⟩;rw[hd];obtain⟨v3,hv3⟩:=hr3.cell;have mS:=xz bx v3 w2' hv3)
      |fail)
     go_ret
     refine⟨⟨_,rfl⟩,?_,hb.trans hb3⟩;rw[hst];exact hr3
    |true=>
     rw[hd,NH,hu]at hst;have hfin:i<j1/\j1<=1048576/\j1<n:=by omega
     clear hu hj1 hj2 ha
     go_wp2_with (first
      |(go_at_call 218;refine(hk.2.2 w2' l' v3 i j1 hr3 hv3 bi b1).mono ?_;rintro e w3' ⟨rfl,hr4,hb4⟩)
      |(go_at_call 215;refine(hk.2.1 wr l' v j1 i hr hv b1 bi).mono ?_;rintro e w2' ⟨rfl,hr3,hb3⟩;rw[hd];obtain⟨v3,hv3⟩:=hr3.cell;have mS:=xz bx v3 w2' hv3)
      |fail)
     refine⟨⟨_,j1,rfl,by omega,?_,hr4,(hb.trans hb3).trans hb4,?_⟩,?_⟩
     ·rw[b8];exact hl'
     ·exact hst.symm
     ·simp only[NQ];omega
  ·have c1:decide ((n:Int)<=(j1:Int))=true:=NK (by omega);have hst:fC n l' i n=l':=by
    have hble:Nat.ble n (2*i+1)=true:=On (by omega);cases n with
    |zero=>rfl
    |succ n=>unfold fC;rw[hble,NH]
   go_wp2
   go_ret
   refine⟨⟨_,rfl⟩,?_,hb⟩;rw[<- hu,hst];exact hr
end Go.Proofs.Due
namespace Go.Proofs.Due
open Go.RowKit Go.Proofs Go.Eng
set_option maxRecDepth 100000
set_option maxHeartbeats 1000000
theorem L9 (w:World)(a:Option Addr)(n cap:Nat):
  Calls Tryz.prog 122 #[.slice a n cap] w λe w'=>e=.returned (.int .i64 n)/\w'=w:=by
 go_enter Tryz.func122,Tryz.ntmps122
 go_wp2
 go_ret
 exact⟨rfl,rfl⟩
theorem KT (w:World)(g n cap:Nat)(i j:Nat)(hi:i<n)(hj:j<n)(x1 x2 y1 y2:Int) 
 (c1:w.cell? ⟨g,i*2,none⟩=some (.int .i64 x1)) (c2:w.cell? ⟨g,i*2+1,none⟩=some (.int .i64 x2)) (c3:w.cell? ⟨g,j*2,none⟩=some (.int .i64 y1)) (c4:w.cell? ⟨g,j*2+1,none⟩=some (.int .i64 y2)):
  Calls Tryz.prog 215 #[.slice (some ⟨g,0,none⟩) n cap,.int .i64 i,.int .i64 j] w λe w'=>e=.returned (.bool (fT (x1,x2) (y1,y2)))/\∃q,w'=w.drewN q:=by
 obtain⟨r,hr⟩:∃r,fT (x1,x2) (y1,y2)=r:=⟨_,rfl⟩
 rw[hr];simp only[fT]at hr
 go_enter Tryz.func215,Tryz.ntmps215
 by_cases h1:x1<y1
 ·have hr':r=true:=by rw[<- hr];simp[h1]
  subst hr';clear hr
  go_wp2_with fail
  go_quiet (fail)
  go_wp2
  go_ret
  exact⟨rfl,_,rfl⟩
 ·have h1':decide (x1<y1)=false:=NF h1;by_cases h2:x1=y1
  ·have hr':r=decide (x2<y2):=by rw[<- hr];simp[h1,h2]
   subst hr';subst h2;clear hr;by_cases h3:x2<y2
   ·rw[NK h3]
    go_wp2_with fail
    go_quiet (fail)
    go_wp2
    go_ret
    exact⟨rfl,_,rfl⟩
   ·have h3':decide (x2<y2)=false:=NF h3;rw[h3']
    go_wp2_with fail
    go_quiet (fail)
    go_wp2
    go_ret
    exact⟨rfl,_,rfl⟩
  ·have hr':r=false:=by rw[<- hr];simp[h1,h2]
   subst hr';have h2':(x1==y1)=false:=O6.2 h2;clear hr
   go_wp2_with fail
   go_quiet (fail)
   go_wp2
   go_ret
   exact⟨rfl,_,rfl⟩
theorem J9 (w:World)(g n cap:Nat)(i j:Nat)(hi:i<n)(hj:j<n)(x1 x2 y1 y2:Int) 
 (c1:w.cell? ⟨g,i*2,none⟩=some (.int .i64 x1)) (c2:w.cell? ⟨g,i*2+1,none⟩=some (.int .i64 x2)) (c3:w.cell? ⟨g,j*2,none⟩=some (.int .i64 y1)) (c4:w.cell? ⟨g,j*2+1,none⟩=some (.int .i64 y2))
 (f1:w.frozen? ⟨g,i*2,none⟩=false) (f2:w.frozen? ⟨g,i*2+1,none⟩=false) (f3:w.frozen? ⟨g,j*2,none⟩=false) (f4:w.frozen? ⟨g,j*2+1,none⟩=false):
  Calls Tryz.prog 218 #[.slice (some ⟨g,0,none⟩) n cap,.int .i64 i,.int .i64 j] w λe w'=>e=.returned (.tuple #[])/\
  w'=((((w.setCell ⟨g,i*2,none⟩ (.int .i64 y1)).setCell ⟨g,i*2+1,none⟩ (.int .i64 y2)).setCell ⟨g,j*2,none⟩ (.int .i64 x1)).setCell ⟨g,j*2+1,none⟩ (.int .i64 x2)).drew:=by
 by_cases hij:i=j
 ·subst hij;obtain rfl:y1=x1:=by have:=c3.symm.trans c1;simpa using this
  obtain rfl:y2=x2:=by have:=c4.symm.trans c2;simpa using this
  clear c3 c4 f3 f4 hj
  go_enter Tryz.func218,Tryz.ntmps218
  go_region
  go_wp2
  go_end0
  exact⟨rfl,rfl⟩
 ·go_enter Tryz.func218,Tryz.ntmps218
  go_region
  go_wp2
  go_end0
  exact⟨rfl,rfl⟩
theorem mr:∀l:LI,(cellsOf l).length=l.length*2
 |[]=>rfl
 |p::l=>by
  have:=mr l;unfold cellsOf at this ⊢;rw[OP,Ny,this];simp;omega
theorem mu:∀(l:LI)(k:Nat),k<l.length->(cellsOf l)[k*2]?=some (.int .i64 (l.getD k (0,0)).1)/\(cellsOf l)[k*2+1]?=some (.int .i64 (l.getD k (0,0)).2)
 |p::l,0,_=>⟨rfl,rfl⟩
 |p::l,k+1,h=>by
  have ih:=mu l k (by simpa using h);have e:cellsOf (p::l)=.int .i64 p.1::.int .i64 p.2::cellsOf l:=rfl;rw[e,show(k+1)*2=k*2+1+1 by omega];simpa using ih
theorem ext2 {α:Type}{X Y:List α}{n:Nat}(hx:X.length=n*2)(hy:Y.length=n*2)(h:∀k,k<n->X[k*2]?=Y[k*2]?/\X[k*2+1]?=Y[k*2+1]?):X=Y:=by
 apply PR;intro m;by_cases hm:m<n*2
 ·have:=h (m/2) (by omega);rcases Nat.mod_two_eq_zero_or_one m with e|e
  ·rw[show m=m/2*2 by omega];exact this.1
  ·rw[show m=m/2*2+1 by omega];exact this.2
 ·rw[Pc (by omega),Pc (by omega)]
theorem bp.open {B:Nat}{w:World}{bx:Nat}{l:LI}(h:bp B w bx l)(hl:0<l.length):∃g cap cur,w.heap[bx]?=some (.cells #[.slice (some ⟨g,0,none⟩) l.length cap] 224 (0,0))/\B<=g/\g≠bx/\w.heap[g]?=some (.cells cur 227 (0,0))/\l.length<=cap/\cap<=maxLen/\cur.size=cap*2 /\
  ∀k,k<l.length->cur[k*2]?=some (.int .i64 (l.getD k (0,0)).1)/\cur[k*2+1]?=some (.int .i64 (l.getD k (0,0)).2):=by
 obtain⟨h0,v,h1,⟨h2,h3⟩,h4⟩:=h;rcases h3 with⟨_,h3⟩|⟨g,cap,cur,rfl,q1,q2,q3,q4,q5,q6⟩
 ·omega
 ·refine⟨g,cap,cur,h1,q1,λe=>h4 (by rw[e];rfl),q2,q3,q4,q5,λk hk=>?_⟩;have e:=mu l k hk;rw[<- q6]at e;rw[Ol,Ol,NI (by omega),NI (by omega)]at e;simpa using e
theorem bp.shut {B:Nat}{w:World}{bx:Nat}{l:LI}{g cap:Nat}{cur:Array Value}(h0:B<=bx)(h1:w.heap[bx]?=some (.cells #[.slice (some ⟨g,0,none⟩) l.length cap] 224 (0,0)))(q1:B<=g)(h4:g≠bx)(q2:w.heap[g]?=some (.cells cur 227 (0,0)))(q3:l.length<=cap)(q4:cap<=maxLen)(q5:cur.size=cap*2)
  (hc:∀k,k<l.length->cur[k*2]?=some (.int .i64 (l.getD k (0,0)).1)/\cur[k*2+1]?=some (.int .i64 (l.getD k (0,0)).2)):bp B w bx l:=by
 refine⟨h0,_,h1,⟨mr l,.inr ⟨g,cap,cur,rfl,q1,q2,q3,q4,q5,?_⟩⟩,λe=>h4 (by simpa[Value.ownBlock]using e)⟩;refine ext2 (n:=l.length) (by simp;omega) (mr l) λk hk=>?_
 have e:=mu l k hk;have d:=hc k hk;rw[e.1,e.2,Ol,Ol,NI (by omega),NI (by omega)];simpa using d
theorem bp.drewN {B:Nat}{w:World}{bx:Nat}{l:LI}(h:bp B w bx l)(q:Nat):bp B (w.drewN q) bx l:=h
theorem Bel.drewN {B bx:Nat}{a w:World}(h:Bel B bx a w)(q:Nat):Bel B bx a (w.drewN q):=h.trans ⟨⟨rfl,rfl,rfl,NG _,λ_ _=>rfl⟩,λ_ _ _ _=>rfl,.inl rfl⟩
theorem ok1 (B bx:Nat):Ok1 B bx:=by
 refine⟨λw l v h hv=>?_,λw l v i j h hv hi hj=>?_,λw l v i j h hv hi hj=>?_⟩
 ·obtain⟨h0,v',h1,⟨h2,h3⟩,h4⟩:=id h;have:v=v':=by
   have:w.cell? ⟨bx,0,none⟩=some v':=by simp[World.cell?,h1]
   rw[this]at hv;exact(P1 hv).symm
  subst this;obtain⟨a,cap,rfl⟩:∃a cap,v=.slice a l.length cap:=by
   rcases h3 with⟨rfl,e⟩|⟨g,cap,cur,rfl,_⟩
   ·rw[e];exact⟨_,_,rfl⟩
   ·exact⟨_,_,rfl⟩
  exact(L9 w a l.length cap).mono λe w' ⟨h5,h6⟩=>by subst h6;exact⟨h5,h,Bel.refl _ _ _⟩
 ·obtain⟨g,cap,cur,h1,q1,h4,q2,q3,q4,q5,hc⟩:=h.open (by omega);have:v=.slice (some ⟨g,0,none⟩) l.length cap:=by
   have:w.cell? ⟨bx,0,none⟩=some (.slice (some ⟨g,0,none⟩) l.length cap):=by simp[World.cell?,h1]
   rw[this]at hv;exact(P1 hv).symm
  subst this;have hcell:∀o,w.cell? ⟨g,o,none⟩=cur[o]?:=λo=>cell_of_row w g o cur 227 (0,0) q2
  refine(KT w g l.length cap i j hi hj _ _ _ _ ((hcell _).trans (hc i hi).1) ((hcell _).trans (hc i hi).2) ((hcell _).trans (hc j hj).1) ((hcell _).trans (hc j hj).2)).mono ?_;rintro e w' ⟨h5,q,rfl⟩;exact⟨h5,h.drewN q,(Bel.refl _ _ _).drewN q⟩
 ·obtain⟨g,cap,cur,h1,q1,h4,q2,q3,q4,q5,hc⟩:=h.open (by omega);have:v=.slice (some ⟨g,0,none⟩) l.length cap:=by
   have:w.cell? ⟨bx,0,none⟩=some (.slice (some ⟨g,0,none⟩) l.length cap):=by simp[World.cell?,h1]
   rw[this]at hv;exact(P1 hv).symm
  subst this;have hcell:∀o,w.cell? ⟨g,o,none⟩=cur[o]?:=λo=>cell_of_row w g o cur 227 (0,0) q2
  have hfz:∀o,w.frozen? ⟨g,o,none⟩=false:=λo=>frozen_of_row w g o cur 227 q2
  refine(J9 w g l.length cap i j hi hj _ _ _ _ ((hcell _).trans (hc i hi).1) ((hcell _).trans (hc i hi).2) ((hcell _).trans (hc j hj).1) ((hcell _).trans (hc j hj).2) (hfz _) (hfz _) (hfz _) (hfz _)).mono ?_;rintro e w' ⟨h5,rfl⟩;have hoth:∀k,k≠g->((((w.setCell ⟨g,i*2,none⟩ (.int .i64 (l.getD j (0,0)).1)).setCell ⟨g,i*2+1,none⟩ (.int .i64 (l.getD j (0,0)).2)).setCell ⟨g,j*2,none⟩ (.int .i64 (l.getD i (0,0)).1)).setCell ⟨g,j*2+1,none⟩ (.int .i64 (l.getD i (0,0)).2)).drew.heap[k]?=w.heap[k]?:=λk hk=>by
   rw[heap_drew,heap_setCell_other _ _ _ _ hk,heap_setCell_other _ _ _ _ hk,heap_setCell_other _ _ _ _ hk,heap_setCell_other _ _ _ _ hk]
  have hrb:cw w bx=some g:=by simp[cw,World.cell?,h1,Value.ownBlock]
  refine⟨h5,?_,(((((Below.refl _ _).setCell q1 _).setCell q1 _).setCell q1 _).setCell q1 _).drew,λk _ _ hk=>hoth k (λe=>hk (by rw[hrb,e])),.inl ?_⟩
  case refine_2=>unfold cw;rw[World.cell?_of_block (hoth bx (Ne.symm h4))]
  have e1:=heap_setCell_same _ g (j*2+1) _ _ (.int .i64 (l.getD i (0,0)).2) (heap_setCell_same _ g (j*2) _ _ (.int .i64 (l.getD i (0,0)).1) (heap_setCell_same _ g (i*2+1) _ _ (.int .i64 (l.getD j (0,0)).2) (heap_setCell_same _ g (i*2) _ _ (.int .i64 (l.getD j (0,0)).1) q2)));refine bp.shut h.1 (g:=g) (cap:=cap) ?_ q1 h4 e1 ?_ q4 (by simpa using q5) λk hk=>?_
  ·rw[heap_drew,heap_setCell_other _ _ _ _ (Ne.symm h4),heap_setCell_other _ _ _ _ (Ne.symm h4),heap_setCell_other _ _ _ _ (Ne.symm h4),heap_setCell_other _ _ _ _ (Ne.symm h4),h1,b8]
  ·rw[b8];exact q3
  ·rw[b8]at hk;have hck:=hc k hk;have hlt:=(OX.1 (hc k hk).2).1;simp only[O1,Pu,iL,NP,P9,NA]at hck ⊢;by_cases ej:j=k
   ·subst ej;have:¬ (j*2+1=j*2):=by omega
    simp[hk,this,hlt,show j*2<cur.size by omega]
   ·by_cases ei:i=k
    ·subst ei;have a1:¬ (j*2+1=i*2):=by omega
     have a2:¬ (j*2=i*2):=by omega
     have a3:¬ (i*2+1=i*2):=by omega
     have a4:¬ (j*2+1=i*2+1):=by omega
     have a5:¬ (j*2=i*2+1):=by omega
     have a6:¬ (i*2=i*2+1):=by omega
     simp[ej,a1,a2,a3,a4,a5,a6,hk,hlt,show i*2<cur.size by omega]
    ·have a1:¬ (j*2+1=k*2):=by omega
     have a2:¬ (j*2=k*2):=by omega
     have a3:¬ (i*2+1=k*2):=by omega
     have a4:¬ (j*2+1=k*2+1):=by omega
     have a5:¬ (j*2=k*2+1):=by omega
     have a6:¬ (i*2+1=k*2+1):=by omega
     have a7:¬ (i*2=k*2):=by omega
     have a8:¬ (i*2=k*2+1):=by omega
     simp only[ej,ei,a1,a2,a3,a4,a5,a6,a7,a8,OE];exact hck
end Go.Proofs.Due
namespace Go.Proofs.Due
open Go.RowKit Go.Proofs Go.Eng
set_option maxRecDepth 100000
set_option maxHeartbeats 1000000
theorem tA (x:Value)(w:World):(Instr.typeAssert (.iface 227 x) 20 227 false).run Tryz.prog w=.ok x w:=by kernel_rfl
theorem Me:∃i:TypeInfo,Tryz.prog.info? 227=some i/\i.zero=some (.agg #[.int .i64 0,.int .i64 0])/\i.size=2/\i.bytes=16:=by
 have h:(Tryz.prog.info? 227).map (λi=>(i.zero,i.size,i.bytes))=some (some (.agg #[.int .i64 0,.int .i64 0]),2,16):=by kernel_rfl
 obtain⟨i,h1,h2⟩:=Qb.1 h;simp only[Ov]at h2;exact⟨i,h1,h2⟩
theorem nU {w w':World}{B:Nat}{e:TypeId}{s n:Nat}{v:Value}{xs:List Value}(h:w.ownsRow B e s v n xs)(hb:∀g,v.ownBlock=some g->w'.heap[g]?=w.heap[g]?):w'.ownsRow B e s v n xs:=by
 refine⟨h.1,?_⟩;rcases h.2 with h2|⟨g,cap,cur,rfl,q1,q2,q3⟩
 ·exact .inl h2
 ·exact .inr ⟨g,cap,cur,rfl,q1,(hb g rfl).trans q2,q3⟩
theorem yY (l:LI)(a b:Int):cellsOf (l++[(a,b)])=cellsOf l++[.int .i64 a,.int .i64 b]:=by simp[cellsOf]
theorem Kw (B bx:Nat)(w:World)(l:LI)(a b:Int)(hlen:l.length<1048576)(h:bp B w bx l):
  Calls Tryz.prog 217 #[.pointer (some ⟨bx,0,none⟩),.iface 227 (.agg #[.int .i64 a,.int .i64 b])] w λe w'=>e=.returned (.tuple #[])/\bp B w' bx (l++[(a,b)])/\Bel B bx w w':=by
 obtain⟨h0,v,h1,h2,h3⟩:=id h;have hv:w.cell? ⟨bx,0,none⟩=some v:=by simp[World.cell?,h1]
 have hf:w.frozen? ⟨bx,0,none⟩=false:=frozen_of_row w bx 0 _ 224 h1;have hT:=tA (.agg #[.int .i64 a,.int .i64 b]);have hL:=lv bx v;obtain⟨i,i1,i2,i3,i4⟩:=Me;have hlt:bx<w.heap.size:=World.block_lt_of_cell? w ⟨bx,0,none⟩ hv;obtain⟨W,hW⟩:∃W,W=(w.alloc (Obj.cells #[Value.int IntKind.i64 a,Value.int IntKind.i64 b] 227)).drew:=⟨_,rfl⟩
 have w1:W.heap[w.heap.size]?=some (.cells #[Value.int IntKind.i64 a,Value.int IntKind.i64 b] 227 (0,0)):=by rw[hW,heap_drew];exact heap_alloc_new w _
 have w2:∀k,k<w.heap.size->W.heap[k]?=w.heap[k]?:=λk hk=>by rw[hW,heap_drew];exact Below.heap_alloc w _ k hk
 have w3:W.heap.size=w.heap.size+1:=by rw[hW];exact PQ _
 have h2':W.ownsRow B 227 2 v l.length (cellsOf l):=nU h2 λg hg=>w2 g (h2.lt g hg).2
 have hbel:Below B w W:=by rw[hW];exact((Below.refl _ _).alloc (by omega) _).drew
 go_enter Tryz.func217,Tryz.ntmps217
 go_region_law (
  rw[<- hW];refine step_append_lies W rfl (.tmp 7) (.tmp 10) 224 rfl B 227 i _ 2 16 Tryz.underlying224 i1 i2 i3 i4 rfl (by omega) v l.length (cellsOf l) rfl h2' ⟨w.heap.size,0,none⟩ 1 1 [.int .i64 a,.int .i64 b] rfl rfl (World.news_of_block w1) (by simp[Value.oneCell']) (by omega) (by simp only[maxLen];omega) (by omega) (by omega) _ rfl ?_;intro g cap w5 hown hgrow hat hlt5;have n1:w5.heap[bx]?=some (.cells #[v] 224 (0,0)):=by rw[hgrow.block bx (by omega) (λe=>h3 e.symm),w2 bx hlt];exact h1
  have n2:w5.cell? ⟨bx,0,none⟩=some v:=by simp[World.cell?,n1]
  have n3:w5.frozen? ⟨bx,0,none⟩=false:=frozen_of_row w5 bx 0 _ 224 n1)
 all_goals go_wp2
 all_goals go_end0
 all_goals
  have hgb:g≠bx:=by
   rcases hat with q|q
   ·exact λe=>h3 (by rw[q,e])
   ·omega
  refine⟨rfl,⟨h0,_,heap_setCell_same w5 bx 0 _ 224 _ n1,?_,λe=>hgb (by simpa[Value.ownBlock]using e)⟩,(hbel.grown hgrow (by omega) (λk hk=>(h2.lt k hk).1)).setCell h0 _,λk k1 k2 k3=>?_,?_⟩
  case refine_2=>
   have hrb:cw w bx=v.ownBlock:=by simp[cw,hv]
   rw[heap_setCell_other _ _ _ _ k2,hgrow.block k (by omega) (λe=>k3 (by rw[hrb,e])),w2 k k1]
  case refine_3=>
   have hrb:cw w bx=v.ownBlock:=by simp[cw,hv]
   have hrb2:cw (w5.setCell ⟨bx,0,none⟩ (.slice (some ⟨g,0,none⟩) (l.length+1) cap)) bx=some g:=by
    unfold cw;rw[World.cell?_setCell_same _ _ _ n2];rfl
   rw[hrb,hrb2];rcases hat with q|q
   ·exact .inl q.symm
   ·exact .inr λk e=>by cases e;omega
  rw[yY,Ny];exact nU hown λg' hg=>heap_setCell_other _ _ _ _ (by simp[Value.ownBlock]at hg;subst hg;exact hgb)
theorem LV (B bx:Nat)(w:World)(l:LI)(hl:0<l.length)(hlen:l.length<1048576)(h:bp B w bx l):
  Calls Tryz.prog 216 #[.pointer (some ⟨bx,0,none⟩)] w λe w'=>e=.returned (.iface 227 (.agg #[.int .i64 (l.getD (l.length-1) (0,0)).1,.int .i64 (l.getD (l.length-1) (0,0)).2]))/\bp B w' bx (l.take (l.length-1))/\Bel B bx w w':=by
 obtain⟨g,cap,cur,h1,q1,h4,q2,q3,q4,q5,hc⟩:=h.open hl;obtain⟨n,hn⟩:∃n,l.length=n+1:=⟨l.length-1,by omega⟩
 have h0:=h.1;obtain⟨c1,c2⟩:=hc n (by omega);have hcell:∀o,w.cell? ⟨g,o,none⟩=cur[o]?:=λo=>cell_of_row w g o cur 227 (0,0) q2
 rw[<- hcell]at c1 c2;have hsame:∀k,k<n->(l.take n).getD k (0,0)=l.getD k (0,0):=λk hk=>by
  rw[NP,NP,Ol,NI hk]
 rw[show l.length-1=n by omega];rw[hn]at h1 q3;have htl:(l.take n).length=n:=by simp;omega
 have hck:∀k,k<n->cur[k*2]?=some (.int .i64 ((l.take n).getD k (0,0)).1)/\cur[k*2+1]?=some (.int .i64 ((l.take n).getD k (0,0)).2):=λk hk=>by rw[hsame k hk];exact hc k (by omega)
 obtain⟨x1,hx1⟩:∃x,(l.getD n (0,0)).1=x:=⟨_,rfl⟩
 obtain⟨x2,hx2⟩:∃x,(l.getD n (0,0)).2=x:=⟨_,rfl⟩
 rw[hx1]at c1 ⊢;rw[hx2]at c2 ⊢;have hv:w.cell? ⟨bx,0,none⟩=some (.slice (some ⟨g,0,none⟩) (n+1) cap):=by simp[World.cell?,h1]
 have hf:w.frozen? ⟨bx,0,none⟩=false:=frozen_of_row w bx 0 _ 224 h1;have hL:=lv bx (.slice (some ⟨g,0,none⟩) (n+1) cap);have hbl:bx<w.heap.size:=World.block_lt_of_cell? w ⟨bx,0,none⟩ hv;have hgl:g<w.heap.size:=World.block_lt_of_cell? w ⟨g,n*2,none⟩ c1;have hfin:bp B ((w.setCell ⟨bx,0,none⟩ (.slice (some ⟨g,0,none⟩) n cap)).alloc (Obj.cells #[.int .i64 x1,.int .i64 x2] 227)) bx (l.take n)/\Bel B bx w ((w.setCell ⟨bx,0,none⟩ (.slice (some ⟨g,0,none⟩) n cap)).alloc (Obj.cells #[.int .i64 x1,.int .i64 x2] 227)):=by
  have hsz:(w.setCell ⟨bx,0,none⟩ (.slice (some ⟨g,0,none⟩) n cap)).heap.size=w.heap.size:=by simp[World.setCell]
  refine⟨bp.shut h0 (g:=g) (cap:=cap) (cur:=cur) ?_ q1 h4 ?_ (by omega) q4 q5 (by rw[htl];exact hck),((Below.refl _ _).setCell h0 _).alloc (by rw[hsz];omega) _,λk k1 k2 k3=>by rw[Below.heap_alloc _ _ _ (by rw[hsz];exact k1),heap_setCell_other _ _ _ _ k2],.inl ?_⟩
  case refine_3=>
   have hrb:cw w bx=some g:=by simp[cw,hv,Value.ownBlock]
   rw[hrb];unfold cw;rw[World.cell?_of_block (w:=w.setCell ⟨bx,0,none⟩ (.slice (some ⟨g,0,none⟩) n cap)) (Below.heap_alloc _ _ _ (by rw[hsz];exact hbl)),World.cell?_setCell_same _ _ _ hv];rfl
  ·rw[Below.heap_alloc _ _ _ (by rw[hsz];exact hbl),htl];exact heap_setCell_same w bx 0 _ 224 _ h1
  ·rw[Below.heap_alloc _ _ _ (by rw[hsz];exact hgl),heap_setCell_other _ _ _ _ h4];exact q2
 have ww:IntKind.i64.wrap (((n:Int)+1)-1)=(n:Int):=by show w64 _=_;rw[bP (by omega) (by omega)];omega
 clear hck hc hsame hx1 hx2 htl h q2 hl hcell
 go_enter Tryz.func216,Tryz.ntmps216
 go_wp2
 go_ret
 exact⟨rfl,hfin⟩
end Go.Proofs.Due
namespace Go.Proofs.Due
open Go.RowKit Go.Proofs Go.Eng
set_option maxRecDepth 100000
set_option maxHeartbeats 1000000
theorem Iu (B bx:Nat)(w:World)(l:LI)(a b:Int)(hlen:l.length<1048576)(h:bp B w bx l):
  Calls Tryz.prog 121 #[hV bx,.iface 227 (.agg #[.int .i64 a,.int .i64 b])] w λe w'=>e=.returned (.tuple #[])/\bp B w' bx (vZ l (a,b))/\Bel B bx w w':=by
 have mP:=Nc bx w;obtain⟨n,hn⟩:∃n,l.length=n:=⟨_,rfl⟩
 have hn2:(l++[(a,b)]).length=n+1:=by simp[hn]
 have ww:IntKind.i64.wrap (((n+1:Nat):Int)-1)=(n:Int):=by show w64 _=_;rw[bP (by omega) (by omega)];omega
 have ww':IntKind.i64.wrap (((n:Int)+1)-1)=(n:Int):=by show w64 _=_;rw[bP (by omega) (by omega)];omega
 have hp:=Kw B bx w l a b hlen h;have hu:∀w2,bp B w2 bx (l++[(a,b)])->Calls Tryz.prog 148 #[hV bx,.int .i64 n] w2 λe w'=>e=.returned (.tuple #[])/\bp B w' bx (vZ l (a,b))/\Bel B bx w2 w':=λw2 h2=>by
  unfold vZ;rw[hn];exact M6 B bx (ok1 B bx) w2 _ n (by omega) (by omega) h2
 have hl:=λw2 v (h2:bp B w2 bx (l++[(a,b)])) h3=>(ok1 B bx).1 w2 _ v h2 h3
 rw[hn2]at hl;clear h hn2
 go_enter Tryz.func121,Tryz.ntmps121
 go_wp2_with (first
  |(go_at_call 217;refine hp.mono ?_;rintro e w1 ⟨rfl,r1,b1⟩;obtain⟨v1,hv1⟩:=r1.cell;have mL:=mLen bx v1 w1 hv1)
  |(go_at_call 122;refine(hl w1 v1 r1 hv1).mono ?_;rintro e w2 ⟨rfl,r2,b2⟩)
  |(go_at_call 148;refine(hu w2 r2).mono ?_;rintro e w3 ⟨rfl,r3,b3⟩))
 go_end0
 exact⟨rfl,r3,(b1.trans b2).trans b3⟩
theorem rR:∀(m:Nat)(l:LI)(i n:Nat),(fC m l i n).length=l.length
 |0,_,_,_=>rfl
 |m+1,l,i,n=>by
  unfold fC;cases Nat.ble n (2*i+1)with
  |true=>rfl
  |false=>
   simp only[NS];generalize (bif Nat.ble (2*i+3) n&&fT (l.getD (2*i+2) (0,0)) (l.getD (2*i+1) (0,0))then 2*i+2 else 2*i+1)=j;cases fT (l.getD j (0,0)) (l.getD i (0,0))with
   |true=>simp only[NH];rw[rR,b8]
   |false=>rfl
theorem FW (B bx n : Nat) (hnb : n < 1048576) (w : World) (l L1 L2 L3 : LI) (x1 x2 : Int) (v : Value) (mL : (Go.method 437 222 (.pointer (some ⟨bx, 0, none⟩)) "Len").run Tryz.prog w = .ok (122, v) w)
  (a1:Calls Tryz.prog 122 #[v] w λe w'=>e=.returned (.int .i64 ((n+1:Nat):Int))/\bp B w' bx l/\Bel B bx w w')
  (a2:∀w2 v,bp B w2 bx l->w2.cell? ⟨bx,0,none⟩=some v->Calls Tryz.prog 218 #[v,.int .i64 0,.int .i64 n] w2 λe w'=>e=.returned (.tuple #[])/\bp B w' bx L1/\Bel B bx w2 w')
  (a3:∀w2,bp B w2 bx L1->Calls Tryz.prog 149 #[hV bx,.int .i64 0,.int .i64 n] w2 λe w'=>IsB e/\bp B w' bx L2/\Bel B bx w2 w')
  (a4:∀w2,bp B w2 bx L2->Calls Tryz.prog 216 #[.pointer (some ⟨bx,0,none⟩)] w2 λe w'=>e=.returned (.iface 227 (.agg #[.int .i64 x1,.int .i64 x2]))/\bp B w' bx L3/\Bel B bx w2 w'):
  Calls Tryz.prog 123 #[hV bx] w λe w'=>e=.returned (.iface 227 (.agg #[.int .i64 x1,.int .i64 x2]))/\bp B w' bx L3/\Bel B bx w w':=by
 have ww:IntKind.i64.wrap (((n+1:Nat):Int)-1)=(n:Int):=by show w64 _=_;rw[bP (by omega) (by omega)];omega
 have ww':IntKind.i64.wrap (((n:Int)+1)-1)=(n:Int):=by show w64 _=_;rw[bP (by omega) (by omega)];omega
 go_enter Tryz.func123,Tryz.ntmps123
 go_wp2_with (first
  |(go_at_call 122;refine a1.mono ?_;rintro e w1 ⟨rfl,r1,b1⟩;obtain⟨v1,hv1⟩:=r1.cell;have mS:=xz bx v1 w1 hv1)
  |(go_at_call 218;refine(a2 w1 v1 r1 hv1).mono ?_;rintro e w2 ⟨rfl,r2,b2⟩)
  |(go_at_call 149;refine(a3 w2 r2).mono ?_;rintro e w3 ⟨⟨vb,rfl⟩,r3,b3⟩;have mP:=mPop bx w3)
  |(go_at_call 216;refine(a4 w3 r3).mono ?_;rintro e w4 ⟨rfl,r4,b4⟩))
 go_ret
 exact⟨rfl,r4,((b1.trans b2).trans b3).trans b4⟩
theorem K3 (B bx:Nat)(w:World)(l:LI)(hl:0<l.length)(hlen:l.length<1048576)(h:bp B w bx l):
  Calls Tryz.prog 123 #[hV bx] w λe w'=>e=.returned (.iface 227 (.agg #[.int .i64 (hPop l).2.1,.int .i64 (hPop l).2.2]))/\bp B w' bx (hPop l).1/\Bel B bx w w':=by
 obtain⟨n,hn⟩:∃n,l.length=n+1:=⟨l.length-1,by omega⟩
 obtain⟨v,hv⟩:=h.cell;have mL:=mLen bx v w hv;have ww:IntKind.i64.wrap (((n+1:Nat):Int)-1)=(n:Int):=by show w64 _=_;rw[bP (by omega) (by omega)];omega
 have ww':IntKind.i64.wrap (((n:Int)+1)-1)=(n:Int):=by show w64 _=_;rw[bP (by omega) (by omega)];omega
 have a1:=(ok1 B bx).1 w _ v h hv;have a2:∀w2 v,bp B w2 bx l->w2.cell? ⟨bx,0,none⟩=some v->Calls Tryz.prog 218 #[v,.int .i64 0,.int .i64 n] w2 λe w'=>e=.returned (.tuple #[])/\bp B w' bx (iL l 0 n)/\Bel B bx w2 w':=
  λw2 v h2 h3=>(ok1 B bx).2.2 w2 l v 0 n h2 h3 (by omega) (by omega)
 have a3:∀w2,bp B w2 bx (iL l 0 n)->Calls Tryz.prog 149 #[hV bx,.int .i64 0,.int .i64 n] w2 λe w'=>IsB e/\bp B w' bx (fC n (iL l 0 n) 0 n)/\Bel B bx w2 w':=
  λw2 h2=>Lf B bx (ok1 B bx) w2 _ n (by rw[b8];omega) (by rw[b8];omega) h2
 have a4:∀w2,bp B w2 bx (fC n (iL l 0 n) 0 n)->Calls Tryz.prog 216 #[.pointer (some ⟨bx,0,none⟩)] w2 λe w'=>e=.returned (.iface 227 (.agg #[.int .i64 (hPop l).2.1,.int .i64 (hPop l).2.2]))/\bp B w' bx (hPop l).1/\Bel B bx w2 w':=λw2 h2=>by
  have hL:(fC n (iL l 0 n) 0 n).length=n+1:=by rw[rR,b8,hn]
  have:=LV B bx w2 _ (by omega) (by omega) h2;rw[hL]at this;unfold hPop;rw[hn,oD (n+1) n _ 0 _ (by omega) (by omega)];exact this
 rw[hn]at a1;exact FW B bx n (by omega) w l _ _ _ _ _ v mL a1 a2 a3 a4
end Go.Proofs.Due
namespace Go.Proofs.Due
open Go.RowKit Go.Proofs Go.Eng
set_option maxRecDepth 100000
set_option maxHeartbeats 1000000
theorem bp.of {B:Nat}{w w':World}{bx:Nat}{l:LI}(h:bp B w bx l)(hs:∀k,k<w.heap.size->w'.heap[k]?=w.heap[k]?):bp B w' bx l:=by
 obtain⟨h0,v,h1,h2,h3⟩:=h;have hlt:bx<w.heap.size:=by
  rcases Oy bx w.heap.size with q|q
  ·exact q
  ·rw[Ow q]at h1;cases h1
 exact⟨h0,v,(hs bx hlt).trans h1,nU h2 λg hg=>hs g (h2.lt g hg).2,h3⟩
theorem bp.lt {B:Nat}{w:World}{bx:Nat}{l:LI}(h:bp B w bx l):bx<w.heap.size/\B<=w.heap.size:=by
 obtain⟨h0,v,h1,h2,h3⟩:=h;have hlt:bx<w.heap.size:=by
  rcases Oy bx w.heap.size with q|q
  ·exact q
  ·rw[Ow q]at h1;cases h1
 exact⟨hlt,by omega⟩
theorem inf3:∃i:TypeInfo,Tryz.prog.info? 3=some i/\i.zero=some (.int .i64 0)/\i.size=1/\i.bytes=8:=by
 have h:(Tryz.prog.info? 3).map (λi=>(i.zero,i.size,i.bytes))=some (some (.int .i64 0),1,8):=by kernel_rfl
 obtain⟨i,h1,h2⟩:=Qb.1 h;simp only[Ov]at h2;exact⟨i,h1,h2⟩
theorem tF (x1 x2:Int)(w:World):(Instr.field 227 (.agg #[.int .i64 x1,.int .i64 x2]) 1).run Tryz.prog w=.ok (.int .i64 x2) w:=by kernel_rfl
structure Hold (p:Prop):Prop where
 out:p
theorem bp.of2 {B:Nat}{w w':World}{bx:Nat}{l:LI}(h:bp B w bx l)(h1:w'.heap[bx]?=w.heap[bx]?)(h2:∀g,cw w bx=some g->w'.heap[g]?=w.heap[g]?):bp B w' bx l:=by
 obtain⟨q0,v,q1,q2,q3⟩:=h;have hrb:cw w bx=v.ownBlock:=by simp[cw,World.cell?,q1]
 exact⟨q0,v,h1.trans q1,nU q2 λg hg=>h2 g (hrb.trans hg),q3⟩
theorem bp.blk {B:Nat}{w:World}{bx:Nat}{l:LI}(h:bp B w bx l){g:Nat}(hg:cw w bx=some g):g<w.heap.size:=by
 obtain⟨q0,v,q1,q2,q3⟩:=h;have hrb:cw w bx=v.ownBlock:=by simp[cw,World.cell?,q1]
 exact(q2.lt g (hrb.symm.trans hg)).2
theorem FT:∀(m:Nat)(l:LI)(j:Nat),(hUp m l j).length=l.length
 |0,_,_=>rfl
 |m+1,l,j=>by
  unfold hUp;cases Nat.beq j 0 with
  |true=>rfl
  |false=>
   simp only[NS];cases fT (l.getD j (0,0)) (l.getD ((j-1)/2) (0,0))with
   |true=>simp only[NH];rw[FT,b8]
   |false=>rfl
theorem hDrain_len:∀(m:Nat)(l:LI),(eS m l).length=m
 |0,_=>rfl
 |m+1,l=>by simp[eS,hDrain_len m]
theorem hPush_len (l:LI)(x:Int×Int):(vZ l x).length=l.length+1:=by unfold vZ;rw[FT];simp
theorem CE (l:LI)(h:0<l.length):(hPop l).1.length=l.length-1:=by
 unfold hPop;simp only[OA];rw[rR,b8];omega
def Je (w:World)(b o:Nat)(p:pM.T):Prop:=
 w.cell? ⟨b,o,none⟩=some (.int .i64 p.1)/\w.cell? ⟨b,o+1,none⟩=some (.int .i64 p.2.1)/\w.cell? ⟨b,o+2,none⟩=some (.int .i64 p.2.2.1)/\w.cell? ⟨b,o+3,none⟩=some (.int .i64 p.2.2.2.1) /\
 w.cell? ⟨b,o+4,none⟩=some (.int .i64 p.2.2.2.2.1)/\w.cell? ⟨b,o+5,none⟩=some (.int .i64 p.2.2.2.2.2.1)/\w.cell? ⟨b,o+6,none⟩=some (.int .i64 p.2.2.2.2.2.2.1)/\w.cell? ⟨b,o+7,none⟩=some (.int .i64 p.2.2.2.2.2.2.2)
theorem MR (w:World)(ps:List pM.T)(n cap b off:Nat)(a:Option Addr)(hn:ps.length=n)(hlim:n<1048576)(ha:0<n->a=some ⟨b,off,none⟩/\b<w.heap.size)
  (hc:∀k p,ps[k]?=some p->Je w b (off+k*8) p):
  Calls Tryz.prog 83 #[.slice a n cap] w λe w'=>∃v,e=.returned v/\Below w.heap.size w w'/\w'.ownsRow w.heap.size 3 1 v (fG ps).length ((fG ps).map (.int .i64)):=by
 obtain⟨B,hB⟩:∃B,w.heap.size=B:=⟨_,rfl⟩
 obtain⟨DA,hDA⟩:∃x,fG ps=x:=⟨_,rfl⟩
 rw[hDA];have hDA':DA=eS (eA 0 ps []).length (eA 0 ps []):=hDA.symm;clear hDA;have h0:∀W0,W0=((w.alloc (Obj.cells #[] 227)).alloc (Obj.cells #[Value.slice (some ⟨B,0,none⟩) 0 0] 224))->bp B W0 (B+1) []/\Below B w W0:=λW0 hW=>by
  subst hW hB;refine⟨⟨by omega,_,?_,⟨rfl,.inr ⟨w.heap.size,0,#[],rfl,by omega,?_,by simp,by simp[maxLen],rfl,rfl⟩⟩,?_⟩,((Below.refl _ _).alloc (by omega) _).alloc (by show _<=(w.heap.push _).size;rw[PQ];omega) _⟩
  ·exact heap_alloc2_new w _ _
  ·exact heap_alloc2_old w _ _
  ·simp[Value.ownBlock]
 go_enter Tryz.func83,Tryz.ntmps83
 go_wp2
 generalize hW:((w.alloc (Obj.cells #[] 227)).alloc (Obj.cells #[Value.slice (some ⟨B,0,none⟩) 0 0] 224))=W0;obtain⟨r0,b0⟩:=h0 W0 hW.symm;clear h0 hW
 go_loopw [11] (λv wr=>∃(k:Nat) (lk:LI),v=.int .i64 k/\k<=n/\lk.length<=k/\bp B wr (B+1) lk/\Below B w wr/\eA k (ps.drop k) lk=eA 0 ps []) (λv wr=>match v with| .int _ x=>n-x.toNat|_=>0)
 case atStart=>exact⟨0,[],rfl,by omega,by simp,r0,b0,by simp⟩
 case round=>
  obtain⟨k,lk,rfl,hk,hlk,hr,hb,hd⟩:=hrel;by_cases hkn:k<n
  ·obtain⟨rfl,hbB⟩:=ha (by omega);have hp:ps[k]?=some ps[k]:=NT (by omega);obtain⟨⟨p0,p1,p2,p3,p4,p5,p6,p7⟩,hpe⟩:∃p,p=ps[k]:=⟨_,rfl⟩
   rw[<- hpe]at hp;have hpay:=hc k _ hp;unfold Je at hpay;simp only at hpay;obtain⟨c0,c1,c2,c3,c4,c5,c6,c7⟩:=hpay;rw[<- hb.cell (by simpa[hB]using hbB)]at c0 c1 c2 c3 c4 c5 c6 c7;have hdr:ps.drop k=(p0,p1,p2,p3,p4,p5,p6,p7)::ps.drop (k+1):=by rw[hpe];exact Ob (by omega)
   have hst:eA (k+1) (ps.drop (k+1)) (bif decide (p7=(0:Int))then vZ lk (p6,(k:Int))else lk)=eA 0 ps []:=by rw[<- hd,hdr];rfl
   have ww:IntKind.i64.wrap ((k:Int)+1)=((k+1:Nat):Int):=by show w64 _=_;rw[bP (by omega) (by omega)];omega
   clear hd hdr hp hpe hc ha hDA';by_cases h7:p7=0
   ·subst h7;simp only[OZ,NH]at hst
    go_wp2_with (go_at_call 121;refine(Iu B (B+1) _ lk p6 k (by omega) (hr.of (λj hj=>Below.heap_alloc _ _ j hj))).mono ?_;rintro e w1 ⟨rfl,r1,b1⟩)
    refine⟨⟨k+1,_,by simp,by omega,?_,r1,(hb.alloc hr.lt.2 _).trans b1.bel,hst⟩,?_⟩
    ·rw[hPush_len];omega
    ·simp only;omega
   ·have h7':(p7==(0:Int))=false:=O6.2 h7;rw[NF h7,NS]at hst
    go_wp2
    refine⟨⟨k+1,lk,by simp,by omega,by omega,hr.of (λj hj=>Below.heap_alloc _ _ j hj),hb.alloc hr.lt.2 _,hst⟩,?_⟩;simp only;omega
  ·have hkn':k=n:=by omega
   subst hkn';rw[Oi (by omega)]at hd;have hda:DA=eS lk.length lk:=by
    rw[hDA',<- hd];rfl
   have hlkb:lk.length<1048576:=by omega
   have hdl:Hold (DA.length<1048576):=⟨by rw[hda,hDrain_len];omega⟩
   clear hc ha hd r0 b0 hlk hDA'
   go_wp2
   go_loopw [6] (λv wr2=>∃(l2:LI) (out:List Int),wr2.ownsRow B 3 1 v out.length (out.map (.int .i64))/\bp B wr2 (B+1) l2/\Below B w wr2/\v.ownBlock≠some (B+1)/\(∀g,v.ownBlock=some g->cw wr2 (B+1)≠some g)/\l2.length<1048576/\out.length<1048576/\DA=out++eS l2.length l2) (λv wr=>match v with| .slice _ m _=>DA.length-m|_=>0)
   case atStart=>exact⟨lk,[],World.ownsRow_nil _ _ _ _,hr,hb,by simp[Value.ownBlock],λg hg=>by simp[Value.ownBlock]at hg,hlkb,by simp,by simpa using hda⟩
   case round=>
    obtain⟨l2,out,ho,hr2,hb2,hs1,hs2,hl2,hol,hd2⟩:=hrel;obtain⟨vr,hvr⟩:=hr2.cell;have hL:=lv (B+1) vr;have hlen:=(ok1 B (B+1)).1 _ l2 vr hr2 hvr;by_cases hz:l2=[]
    ·subst hz
     go_wp2_with (go_at_call 122;refine hlen.mono ?_;rintro e w1 ⟨rfl,r1,b1⟩)
     go_ret
     refine⟨u6,rfl,by rw[hB];exact hb2.trans b1.bel,?_⟩;rw[hB,show DA=out by rw[hd2];simp[eS]];exact nU ho λg hg=>b1.far g (ho.lt g hg).2 (λe=>hs1 (by rw[hg,e])) (hs2 g hg)
    ·have hpos:0<l2.length:=Py.2 hz;obtain⟨m,hm⟩:∃m,l2.length=m:=⟨_,rfl⟩
     have hp0:(0:Int)<(m:Int):=by omega
     have hpop:=λw2 (h2:bp B w2 (B+1) l2)=>K3 B (B+1) w2 l2 hpos hl2 h2
     have hd3:DA=(out++[(hPop l2).2.2])++eS (hPop l2).1.length (hPop l2).1:=by
      rw[hd2,CE l2 hpos];obtain⟨q,hq⟩:∃q,l2.length=q+1:=⟨l2.length-1,by omega⟩
      rw[hq];simp[eS]
     have hob:out.length+1<1048576:=by
      have:=hdl.out;rw[hd2,Ny]at this;obtain⟨q,hq⟩:∃q,l2.length=q+1:=⟨l2.length-1,by omega⟩
      rw[hq]at this;simp[eS]at this;omega
     have hlp:(hPop l2).1.length<1048576:=by rw[CE l2 hpos];omega
     generalize hPop l2=PP at hpop hd3 hlp;obtain⟨L3,x1,x2⟩:=PP;simp only at hpop hd3 hlp;have hDl:DA.length=out.length+1+(eS L3.length L3).length:=by rw[hd3];simp;omega
     have hT:=tA (.agg #[.int .i64 x1,.int .i64 x2]);rw[hm]at hlen;have hF:=tF x1 x2;obtain⟨i3,e1,e2,e3,e4⟩:=inf3;have hall:Hold (DA=(out++[x2])++eS L3.length L3/\L3.length<1048576/\DA.length=out.length+1+(eS L3.length L3).length/\out.length+1<1048576):=⟨hd3,hlp,hDl,hob⟩
     clear hd2 hz hl2 hda hlkb hDl hd3 hlp hob
     go_wp2_with (first
      |(go_at_call 122;refine hlen.mono ?_;rintro e w1 ⟨rfl,r1,b1⟩)
      |(go_at_call 123;refine(hpop w1 r1).mono ?_;rintro e w2 ⟨rfl,r2,b2⟩)
      |(at_builtin;go_loud (refine wpList_append_lies (w2.alloc (Obj.cells #[.int .i64 x2] 3)) rfl (.tmp 33) (.tmp 39) 72 rfl B 3 i3 _ 1 8 Tryz.underlying72 e1 e2 e3 e4 rfl (by omega) u6 out.length (out.map (.int .i64)) (by rfl) (nU ho λg hg=>(Below.heap_alloc _ _ g (N1 (ho.lt g hg).2 (b1.trans b2).bel.size)).trans ((b1.trans b2).far g (ho.lt g hg).2 (λe=>hs1 (by rw[hg,e])) (hs2 g hg))) ⟨w2.heap.size,0,none⟩ 1 1 [.int .i64 x2] (by rfl) rfl (World.news_of_block (heap_alloc_new w2 _)) (by simp[Value.oneCell']) (by omega) (by simp only[maxLen];omega) (by omega) (by have:=r2.lt.2;show _<=(w2.heap.push _).size;rw[PQ];omega) _ rfl ?_);intro g5 cap5 w5 hown5 hgrow5 hat5 hlt5))
     obtain⟨g1,g2,g3,g4⟩:=hall.out;have hsz:(w2.alloc (Obj.cells #[.int .i64 x2] 3)).heap.size=w2.heap.size+1:=PQ _;have hB12:=b1.trans b2;have hu6:∀k,u6.ownBlock=some k->k<wr.heap.size:=λk hk=>(ho.lt k hk).2
     have hbx:w5.heap[B+1]?=w2.heap[B+1]?:=by
      rw[hgrow5.block (B+1) (by have:=r2.lt.1;omega) (λe=>hs1 e.symm),Below.heap_alloc _ _ _ r2.lt.1]
     have hrb:cw w5 (B+1)=cw w2 (B+1):=by unfold cw;rw[World.cell?_of_block hbx]
     have hsep:∀k,u6.ownBlock=some k->cw w2 (B+1)≠some k:=λk hk e=>by
      rcases hB12.row with q|q
      ·exact hs2 k hk (q ▸ e)
      ·have:=q k e;have:=hu6 k hk;omega
     refine⟨⟨L3,out++[x2],by simpa using hown5,r2.of2 hbx (λg hg=>?_),?_,λe=>?_,λg hg e=>?_,g2,by simpa using g4,g1⟩,?_⟩
     ·rw[hgrow5.block g (by have:=r2.blk hg;omega) (λe=>hsep g e.symm hg),Below.heap_alloc _ _ _ (r2.blk hg)]
     ·exact(((hb2.trans hB12.bel).alloc (by have:=r2.lt.2;omega) _)).grown hgrow5 (by have:=r2.lt.2;omega) λk hk=>(ho.lt k hk).1
     ·have e':g5=B+1:=by simpa[Value.ownBlock]using e
      rcases hat5 with q|q
      ·exact hs1 (by rw[q,e'])
      ·have:=r2.lt.1;omega
     ·have e':g5=g:=by simpa[Value.ownBlock]using hg
      subst e';rw[hrb]at e;rcases hat5 with q|q
      ·exact hsep _ q e
      ·have:=r2.blk e;omega
     ·clear hown5 hgrow5 hat5;rcases ho.2 with⟨q,q'⟩|⟨g,cap',cur,q,_⟩
      ·subst q;simp only;omega
      ·subst q;simp only;omega
end Go.Proofs.Due
namespace Go.Proofs.Due
open Go.RowKit Go.Proofs Go.Eng
set_option maxRecDepth 100000
set_option maxHeartbeats 1000000
def Ik (w:World)(v:Value):Int:=match v with
 |.pointer (some a)=>match w.cell? a with|some (.slice _ n _)=>(n:Int)|_=>0
 |_=>0
def kg (wt:MapEntry->Int):List MapEntry->Array Nat->Int
 |[],_=>0
 |x::l,seen=>(if seen.contains x.born then wt x else 0)+kg wt l seen
theorem qu (wt:MapEntry->Int)(seen:Array Nat)(b:Nat):∀(es:List MapEntry),b ∉ es.map (·.born)->kg wt es (seen.push b)=kg wt es seen
 |[],_=>rfl
 |x::l,h=>by
  have hx:(x.born==b)=false:=by
   cases hc:x.born==b with
   |false=>rfl
   |true=>exact absurd (NO.2 (Or.inl (P6.1 hc).symm)) h
  have ih:=qu wt seen b l (λe=>h (NO.2 (Or.inr e)));simp only[kg,contains_push,hx,O9,ih]
theorem tN (wt:MapEntry->Int)(seen:Array Nat)(e:MapEntry)(hs:seen.contains e.born=false):∀(es:List MapEntry),(es.map (·.born)).Nodup->e∈es->kg wt es (seen.push e.born)=kg wt es seen+wt e
 |x::l,hn,he=>by
  have hn':x.born ∉ l.map (·.born)/\(l.map (·.born)).Nodup:=Pn.1 hn;rcases NO.1 he with rfl|h
  ·simp only[kg,contains_push,hs,PJ,Rc,O8,Od,OE,qu wt seen e.born l hn'.1];omega
  ·have hx:(x.born==e.born)=false:=by
    cases hc:x.born==e.born with
    |false=>rfl
    |true=>exact absurd (by rw[P6.1 hc];exact N9.2 ⟨e,h,rfl⟩) hn'.1
   simp only[kg,contains_push,hx,O9,tN wt seen e hs l hn'.2 h];omega
theorem tQ (wt:MapEntry->Int)(seen:Array Nat):∀(es:List MapEntry),(∀x∈es,seen.contains x.born=true)->kg wt es seen=(es.map wt).sum
 |[],_=>rfl
 |x::l,h=>by
  simp only[kg,h x (NO.2 (Or.inl rfl)),O8,NV,QE,tQ wt seen l (λy hy=>h y (NO.2 (Or.inr hy)))]
theorem tP (wt:MapEntry->Int):∀(es:List MapEntry),kg wt es #[]=0
 |[]=>rfl
 |x::l=>by
  have:(#[]:Array Nat).contains x.born=false:=by simp
  simp only[kg,this,Od,OE,tP wt l];rfl
theorem Ii (a:Addr)(v:Value)(w:World)(h:w.cell? a=some v):(loadVar 156 a).run Tryz.prog w=.ok v w:=by
 simp[loadVar,isAgg,underlying,Tryz.underlying156,h,Result.andThen]
theorem lv22 (a:Addr)(v:Value)(w:World)(h:w.cell? a=some v):(loadVar 22 a).run Tryz.prog w=.ok v w:=by
 simp[loadVar,isAgg,underlying,Tryz.underlying22,h,Result.andThen]
theorem J1 (bd bm:Nat)(es:Array MapEntry)(clock:Nat)(w:World)(wt:MapEntry->Int)(hd:w.cell? ⟨bd,0,none⟩=some (.map (some bm)))(hb:w.heap[bm]?=some (.map es clock))(hst:MapKept.Stamped es clock)
  (hv:∀x∈es.toList,∃bf a n cap,x.val=.pointer (some ⟨bf,0,none⟩)/\w.cell? ⟨bf,0,none⟩=some (.slice a n cap)/\wt x=n):
  Calls Tryz.prog 139 #[.pointer (some ⟨bd,0,none⟩)] w λe w'=>e=.returned (.int .i64 (w64 (es.toList.map wt).sum))/\Below w.heap.size w w':=by
 have hrg:=run_range_map (P:=Tryz.prog) w 156 3 219 bm es clock Tryz.underlying156 hb;have hL:=Ii ⟨bd,0,none⟩ _ w hd
 go_enter Tryz.func139,Tryz.ntmps139
 go_wp2
 obtain⟨r,hr⟩:∃r,w.heap.size=r:=⟨_,rfl⟩
 have hst0:(w.alloc (.mapIter (some bm) clock #[] clock)).heap[r]?=some (.mapIter (some bm) clock #[] clock):=by rw[<- hr];exact heap_alloc_new w _
 have hb0:Below w.heap.size w (w.alloc (.mapIter (some bm) clock #[] clock)):=(Below.refl _ _).alloc (NG _) _;generalize w.alloc (.mapIter (some bm) clock #[] clock)=wa at hst0 hb0 ⊢;rw[hr];clear hrg hL hd;have hbr:bm<r:=by
  rw[<- hr];rcases Oy bm w.heap.size with q|q
  ·exact q
  ·rw[Ow q]at hb;cases hb
 go_loopw [3] (λs w'=>∃(seen:Array Nat) (c0:Nat),w'.heap[r]?=some (.mapIter (some bm) clock seen c0)/\clock<=c0/\Below w.heap.size w w'/\s=.int .i64 (w64 (kg wt es.toList seen))) (λ_ w'=>(leftOf es (w'.iterSeen r)).size)
 case atStart=>exact⟨#[],clock,hst0,NG _,hb0,by rw[tP];rfl⟩
 case round=>
  obtain⟨seen,c0,hri,hc0,hbw,rfl⟩:=hrel;have hb1:wr.heap[bm]?=some (.map es clock):=by rw[hbw.block bm (by omega)];exact hb
  rcases run_next_at (P:=Tryz.prog) wr 0 r bm clock c0 seen es clock hri hb1 hst.1 hc0 with⟨h0,hrun⟩|⟨e,he,w1,hal,hrun⟩
  ·have hnx:∀ty,(Instr.next (.pointer (some ⟨r,0,none⟩)) false ty).run Tryz.prog wr=_:=λ_=>hrun
   have hS:kg wt es.toList seen=(es.toList.map wt).sum:=tQ wt seen _ (all_seen es seen h0);rw[hS];clear hS
   go_wp2
   go_ret
   exact⟨rfl,hbw⟩
  ·obtain⟨bf,a,n,cap,hval,hcf,hwt⟩:=hv e (mem_left he).1;rw[hval]at hrun;have hb1':Below w.heap.size w w1/\w1.heap=wr.heap:=by
    rcases hal with rfl|rfl
    ·exact⟨hbw,rfl⟩
    ·exact⟨hbw.drew,rfl⟩
   have hrl:r<w1.heap.size:=by
    rw[hb1'.2];rcases Oy r wr.heap.size with q|q
    ·exact q
    ·rw[Ow q]at hri;cases hri
   obtain⟨w2,hw2⟩:∃w2,Go.ChangeMaps.setBlock w1 r (.mapIter (some bm) clock (seen.push e.born) clock)=w2:=⟨_,rfl⟩
   have hw2r:w2.heap[r]?=some (.mapIter (some bm) clock (seen.push e.born) clock):=by
    rw[<- hw2];simp[Go.ChangeMaps.setBlock,hrl]
   have hw2o:∀k,k≠r->w2.heap[k]?=w1.heap[k]?:=λk hk=>by
    rw[<- hw2];simp[Go.ChangeMaps.setBlock,O1,Ne.symm hk]
   have hb2:Below w.heap.size w w2:=by
    refine hb1'.1.trans ⟨by rw[<- hw2];rfl,by rw[<- hw2];rfl,by rw[<- hw2];rfl,by rw[<- hw2];simp[Go.ChangeMaps.setBlock],λk hk=>hw2o k (by omega)⟩
   rw[hw2]at hrun;have hnx:∀ty,(Instr.next (.pointer (some ⟨r,0,none⟩)) false ty).run Tryz.prog wr=_:=λ_=>hrun
   have hb3:w2.heap[bm]?=some (.map es clock):=by rw[hb2.block bm (by omega)];exact hb
   have hen:=run_entry_at (P:=Tryz.prog) w2 r bm clock seen es clock e hw2r hb3 (mem_left he).1 hst.2.1;rw[hval]at hen;have hfl:bf<w.heap.size:=World.block_lt_of_cell? w ⟨bf,0,none⟩ hcf;have hc2:w2.cell? ⟨bf,0,none⟩=some (.slice a n cap):=by
    rw[hb2.cell hfl];exact hcf
   have hL2:=lv22 ⟨bf,0,none⟩ _ _ hc2;have hsum:kg wt es.toList (seen.push e.born)=kg wt es.toList seen+n:=by
    rw[tN wt seen e (mem_left he).2 es.toList hst.2.1 (mem_left he).1,hwt]
   have hmeas:(leftOf es (w2.iterSeen r)).size<(leftOf es (wr.iterSeen r)).size:=by
    rw[show w2.iterSeen r=seen.push e.born by unfold World.iterSeen;rw[hw2r],show wr.iterSeen r=seen by unfold World.iterSeen;rw[hri]];exact left_shrinks es seen e he
   obtain⟨S0,hS0⟩:∃x,kg wt es.toList seen=x:=⟨_,rfl⟩
   rw[hS0]at hsum ⊢;clear hS0 hrun hri hw2 hal hb1'
   go_wp2
   go_roundw
   case rel=>
    refine⟨seen.push e.born,clock,hw2r,NG _,hb2,?_⟩;rw[hsum];obtain⟨q1,a1,a2,a3⟩:=jq S0;obtain⟨q2,b1,b2,b3⟩:=jq (S0+(n:Int));congr 1;simp only[Go.RowKit.wrap64]at *;omega
   case measure=>exact hmeas
end Go.Proofs.Due
namespace Go.Proofs.Due
open Go.RowKit Go.Proofs Go.Eng
set_option maxRecDepth 100000
set_option maxHeartbeats 1000000
theorem K2 (w:World):Calls Tryz.prog 170 #[.slice none 0 0,.int .i64 0,.int .i64 0] w λe w'=>e=.returned (.tuple #[])/\w'=w:=by
 go_enter Tryz.func170,Tryz.ntmps170
 go_wp2
 refine wp_loop_rounds 1 ?_;rw[rounds_succ]
 go_wp2
 go_end0
 exact⟨rfl,rfl⟩
theorem Ky (w:World)(lim:Value):Calls Tryz.prog 166 #[.slice none 0 0,.int .i64 0,.int .i64 0,lim] w λe w'=>e=.returned (.tuple #[])/\w'=w:=by
 go_enter Tryz.func166,Tryz.ntmps166
 go_wp2
 refine wp_loop_rounds 1 ?_;rw[rounds_succ]
 go_wp2_with (go_at_call 170;refine(K2 _).mono ?_;rintro e w2 ⟨rfl,rfl⟩)
 refine bodyPost_ret (results_none rfl _ _ _) rfl ?_;exact⟨rfl,rfl⟩
theorem Ez (w:World):Calls Tryz.prog 161 #[.slice none 0 0] w λe w'=>e=.returned (.tuple #[])/\w'=w:=by
 go_enter Tryz.func161,Tryz.ntmps161
 go_wp2_with (first|(go_at_call 166;refine(Ky _ _).mono ?_;rintro e w2 ⟨rfl,rfl⟩)|go_in)
 go_end0
 exact⟨rfl,rfl⟩
end Go.Proofs.Due
namespace Go.Proofs.Due
open Go.RowKit Go.Proofs Go.Eng
set_option maxRecDepth 100000
section
variable {P:Int×Int->Prop}
theorem rQ (h0:P (0,0)){l:LI}(h:∀x∈l,P x)(i j:Nat):∀x∈iL l i j,P x:=by
 have hg:∀k,P (l.getD k (0,0)):=λk=>by
  rw[NP];cases hk:l[k]? with
  |none=>exact h0
  |some y=>exact h y (NX hk)
 intro x hx;unfold iL at hx;rcases OD hx with hx|rfl
 ·rcases OD hx with hx|rfl
  ·exact h x hx
  ·exact hg _
 ·exact hg _
theorem FU (h0:P (0,0)):∀(m:Nat) {l:LI} (j:Nat),(∀x∈l,P x)->∀x∈hUp m l j,P x
 |0,l,j,h=>h
 |m+1,l,j,h=>by
  unfold hUp;cases Nat.beq j 0 with
  |true=>exact h
  |false=>
   simp only[NS];cases fT (l.getD j (0,0)) (l.getD ((j-1)/2) (0,0))with
   |true=>exact FU h0 m _ (rQ h0 h _ _)
   |false=>exact h
theorem xS (h0:P (0,0)):∀(m:Nat) {l:LI} (i n:Nat),(∀x∈l,P x)->∀x∈fC m l i n,P x
 |0,l,i,n,h=>h
 |m+1,l,i,n,h=>by
  unfold fC;cases Nat.ble n (2*i+1)with
  |true=>exact h
  |false=>
   simp only[NS];generalize (bif Nat.ble (2*i+3) n&&fT (l.getD (2*i+2) (0,0)) (l.getD (2*i+1) (0,0))then 2*i+2 else 2*i+1)=j;cases fT (l.getD j (0,0)) (l.getD i (0,0))with
   |true=>exact xS h0 m _ _ (rQ h0 h _ _)
   |false=>exact h
theorem FV (h0:P (0,0)){l:LI}(h:∀x∈l,P x){y:Int×Int}(hy:P y):∀x∈vZ l y,P x:=
 FU h0 _ _ λx hx=>by
  rcases NU.1 hx with hx|hx
  ·exact h x hx
  ·rw[N5.1 hx];exact hy
theorem Iv (h0:P (0,0)){l:LI}(h:∀x∈l,P x):(∀x∈(hPop l).1,P x)/\P (hPop l).2:=by
 have h2:=xS h0 l.length 0 (l.length-1) (rQ h0 h 0 (l.length-1));refine⟨λx hx=>h2 x (Pa hx),?_⟩;unfold hPop;simp only[NP];cases hk:(fC l.length (iL l 0 (l.length-1)) 0 (l.length-1))[l.length-1]? with
 |none=>exact h0
 |some y=>exact h2 y (NX hk)
theorem uK {Q:Int->Prop}(h0:Q 0):∀(m:Nat) {l:LI},(∀x∈l,Q x.2)->∀x∈eS m l,Q x
 |0,l,h=>by simp[eS]
 |m+1,l,h=>by
  have:=Iv (P:=λp=>Q p.2) h0 h;unfold eS;intro x hx;rcases NO.1 hx with rfl|hx
  ·exact this.2
  ·exact uK h0 m this.1 x hx
end
theorem sy (n:Nat)(hn:0<n):∀(ps:List pM.T)(k:Nat)(l:LI),k+ps.length<=n->(∀x∈l,0<=x.2/\x.2<(n:Int))->∀x∈eA k ps l,0<=x.2/\x.2<(n:Int)
 |[],k,l,_,h=>h
 |p::r,k,l,hk,h=>by
  unfold eA;simp only[NC]at hk;refine sy n hn r (k+1) _ (by omega) ?_;cases decide (p.2.2.2.2.2.2.2=(0:Int))with
  |true=>exact FV (P:=λx=>0<=x.2/\x.2<(n:Int)) ⟨by omega,by omega⟩ h ⟨by omega,by simp only;omega⟩
  |false=>exact h
theorem dueAll_in (ps:List pM.T):∀x∈fG ps,0<=x/\x<(ps.length:Int):=by
 cases ps with
 |nil=>intro x hx;simp[fG,eA,eS]at hx
 |cons p r=>exact uK (Q:=λx=>0<=x/\x<((p::r).length:Int)) ⟨by omega,by simp only[NC];omega⟩ _ (sy _ (by simp) (p::r) 0 [] (by simp) (by simp))
theorem jU:∀{cos:List CoD} {id:Nat} {o:Eng.Obj},coHp cos id=some o->∃t off m k,∃(xs:List k.T),o=.col t off m k xs 0 none
 |[],_,_,h=>by cases h
 |d::r,id,o,h=>by
  unfold coHp at h;split at h
  ·cases h;exact⟨_,_,_,_,_,rfl⟩
  ·exact jU h
theorem GJ {te:TE}{w w':World}{Sb S':Nat->Prop}{cos:List CoD}(hbel:∀b,Sb b->b<w.heap.size)(hb:Below w.heap.size w w')(hS:∀b,Sb b->S' b):Ext (coC te w Sb cos) (coC te w' S' cos):=by
 refine⟨rfl,λb h=>hb.block b (hbel b h),hS,λid s v hi hr=>?_⟩;cases s with
 |vw id g=>
  obtain⟨h1,o,h2,_⟩:=hr;obtain⟨t,off,m,k,xs,rfl⟩:=jU h2;exact⟨h1,_,h2,λ_ _ _ _ _ e=>by cases e⟩
 |pv id g off len=>
  obtain⟨h1,o,h2,_⟩:=hr;obtain⟨t,off,m,k,xs,rfl⟩:=jU h2;exact⟨h1,_,h2,λ_ _ _ _ _ e=>by cases e⟩
 |ptr id g i p=>
  obtain⟨h1,o,h2,h3,_⟩:=hr;obtain⟨t,off,m,k,xs,rfl⟩:=jU h2;exact⟨h1,_,h2,h3,λ_ e=>(by cases e),λ_ _ _ _ _ e=>(by cases e)⟩
 |mp id=>
  obtain⟨h1,o,h2,_⟩:=hr;obtain⟨t,off,m,k,xs,rfl⟩:=jU h2;exact⟨h1,_,h2,λe=>by simp[Eng.Obj.isMap]at e⟩
 |bm f id=>
  obtain⟨p,h1,o,h2,_⟩:=hr;obtain⟨t,off,m,k,xs,rfl⟩:=jU h2;exact⟨p,h1,_,h2,λ_ e=>by cases e⟩
 |ov cid g i=>exact hr
 |oe cid g i j p=>exact hr
 |rp t i off=>exact hr
 |_=>simp[S.ids]at hi
theorem iv {A:Ann}{te:TE}{w w':World}{Sb S':Nat->Prop}{args:List AV}{bs:List (Option Nat)}{cos:List CoD}(hIn:oX A te w Sb bs cos)(hbel:∀b,Sb b->b<w.heap.size)(hb:Below w.heap.size w w')(hS:∀b,Sb b->S' b)(hS2:∀b,S' b->b<w'.heap.size/\(Sb b\/w.heap.size<=b)):
  iH A te te w w' Sb S' args bs cos cos:=by
 have h0:Man A te w ⟨λb=>some b∈bs,Sb,XOf te w Sb cos⟩ (coC te w Sb cos):=by
  refine⟨hIn.r,λl b h=>.inr (.inr ⟨l,h⟩),λt i b arr _ _ _ hB=>⟨arr,hB,rfl,λ_ _=>rfl⟩,TLe.refl _,λ_ _=>rfl,λ_ _=>⟨rfl,rfl⟩,λ_ _ _ h=>.inl h⟩
 have hm:Mem w (here (coC te w Sb cos)) (coC te w' S' cos):=by
  refine⟨⟨hb.os,hb.tape,hb.output,hb.size,λb hlt _=>hb.block b hlt⟩,λb h=>(hS2 b h).1,λid o ho=>?_,λid b hl=>?_,λid id' b hl=>?_,λb h=>?_,λb h=>hS b h⟩
  ·obtain⟨t,off,m,k,xs,rfl⟩:=jU ho;trivial
  ·obtain⟨h1,_⟩:=hl;cases h1
  ·obtain⟨h1,_⟩:=hl;cases h1
  ·rcases(hS2 b h).2 with q|q
   ·exact .inl q
   ·exact .inr (.inl q)
 refine⟨LR.of_get rfl (λi a b ha hb=>by rw[ha]at hb;cases hb;exact⟨rfl,rfl,rfl,rfl,rfl⟩),h0.lift rfl (GJ hbel hb hS) hm (λ_ _ _ _ _ _ _ _=>Rm),λl b hl j k x _ e=>?_⟩;exact hIn.sep l b (by cases l<;>exact hl) (NX e)
theorem Bz {te:TE}{w':World}{Sb:Nat->Prop}{v:Value}{l:List Int}{B:Nat}(ho:w'.ownsRow B 3 1 v l.length (l.map (.int .i64))):RepV (clC te w' (λb=>Sb b\/v.ownBlock=some b)) (.val false [.sl (.int .i64) l]) v:=by
 refine⟨_,rfl,?_⟩;rcases ho.2 with⟨rfl,h2⟩|⟨g,cap,cur,rfl,h1,h2,h3,h4,h5,h6⟩
 ·have:l=[]:=OR.1 h2;subst this;exact⟨none,0,rfl,NG _,λh=>(h rfl).elim⟩
 ·refine⟨_,cap,rfl,h3,λ_=>⟨⟨g,0,none⟩,rfl,rfl,.inr rfl,λi x hx=>⟨[.int .i64 x],⟨rfl,rfl⟩,λj u hj=>?_⟩⟩⟩;have hi:i<l.length:=(NJ.1 hx).1;cases j with
  |succ j=>simp at hj
  |zero=>
   simp only[QO,Nz]at hj;subst hj;have e:(cur.toList.take (l.length*1))[i]?=some (.int .i64 x):=by rw[h6,Ot,hx];rfl
   rw[Ol,NI (by omega)]at e;show w'.cell? ⟨g,0+i*1+0,none⟩=_;rw[cell_of_row w' g _ cur 3 (0,0) h2,show 0+i*1+0=i by omega];simpa using e
theorem jn {args:List AV}{cos:List CoD}{a:AV}{l:List CoD}(ha:isCo a=false)(hco:∀a∈args,isCo a=false)(h:args++cos.map coAV=a::l.map coAV):args=[a]/\cos=l:=by
 have hj:∀{x y:CoD},coAV x=coAV y->x=y:=by
  rintro⟨⟩ ⟨⟩ e;simp only[coAV,AV.val.injEq,NY,S.co.injEq,OV,Oh]at e;obtain⟨rfl,rfl,rfl,rfl,rfl,e⟩:=e;cases e;rfl
 have hm:∀{x y:List CoD},x.map coAV=y.map coAV->x=y:=by
  intro x
  induction x with
  |nil=>intro y e;cases y with|nil=>rfl|cons _ _=>simp at e
  |cons a x ih=>
   intro y e;cases y with
   |nil=>simp at e
   |cons b y=>simp only[NV,NY]at e;rw[hj e.1,ih e.2]
 cases args with
 |nil=>
  cases cos with
  |nil=>simp at h
  |cons d r=>
   simp only[OJ,NV,NY]at h;rw[<- h.1]at ha;cases ha
 |cons x r=>
  simp only[N4,NY]at h;obtain⟨rfl,h⟩:=h;cases r with
  |nil=>exact⟨rfl,hm (by simpa using h)⟩
  |cons y r=>
   cases l with
   |nil=>simp at h
   |cons d l=>
    simp only[N4,NV,NY]at h;have:=hco y (by simp);rw[h.1]at this;cases this
theorem vA {te:TE}{w:World}{Sb:Nat->Prop}{a:AV}{vs:Array Value}{bs:List (Option Nat)}(h:LR3 (Go.Eng.ArgRel te w Sb) [a] vs.toList bs):∃v b,vs=#[v]/\bs=[b]/\Go.Eng.ArgRel te w Sb a v b:=by
 match hvs:vs.toList,bs,h with
 |[v],[b],h=>
  exact⟨v,b,by apply O5;simp[hvs],rfl,h.1⟩
 |[],_,h=>cases h
 |_::_::_,[],h=>cases h
 |_::_::_,_::_,h=>exact h.2.elim
theorem LX {te:TE}{w:World}{Sb:Nat->Prop}{p:pM.T}{vs:List Value}{b o:Nat}(h:RepT te w Sb pM p vs)(ha:At w b o vs):Je w b o p:=by
 obtain⟨p0,p1,p2,p3,p4,p5,p6,p7⟩:=p;obtain⟨c0,r0,rfl,⟨rfl,_⟩,c1,r1,rfl,⟨rfl,_⟩,c2,r2,rfl,⟨rfl,_⟩,c3,r3,rfl,⟨rfl,_⟩,c4,r4,rfl,⟨rfl,_⟩,c5,r5,rfl,⟨rfl,_⟩,c6,r6,rfl,⟨rfl,_⟩,rfl,_⟩:=h;exact⟨ha 0 _ rfl,ha 1 _ rfl,ha 2 _ rfl,ha 3 _ rfl,ha 4 _ rfl,ha 5 _ rfl,ha 6 _ rfl,ha 7 _ rfl⟩
theorem DK (f : Nat) (h : (match Tryz.prog.funcs[f]? with | some fn => !(fn.name == "runtime.NumGoroutine") && !fn.body.isNone | none => false) = true) : ∃ fn, Tryz.prog.funcs[f]? = some fn /\ (fn.name == "runtime.NumGoroutine") = false /\ fn.body.isNone = false := by
 cases hf:Tryz.prog.funcs[f]? with
 |none=>rw[hf]at h;cases h
 |some fn=>
  rw[hf]at h;simp only[NM,Oz]at h;exact⟨fn,rfl,h⟩
section
variable {A:Ann} {Gl:Nat->Option Go.Obj}
theorem Ms {ps:List pM.T}{cos:List CoD}{args:List AV}(hco:∀a∈args,isCo a=false)(hargs:args++cos.map coAV=[.val false [.sl pM ps]])(hlim:ps.length<=1000000)
  {te:TE} {w:World} {Sb:Nat->Prop} {vs:Array Value} {bs:List (Option Nat)} (hbel:∀b,Sb b->b<w.heap.size) (hA:LR3 (Go.Eng.ArgRel te w Sb) args vs.toList bs) (hIn:oX A te w Sb bs cos):
  Calls Tryz.prog 83 vs w (λe w'=>∃v te' S' cos',e=.returned v/\Res te' (XOf te w Sb cos) (XOf te' w' S' cos') w w' Sb S' args bs ⟨[(false,.slice (.int .i64))],[]⟩ (fG ps) v/\iH A te te' w w' Sb S' args bs cos cos' /\
    LR (λ(p:Bool×List S) (d:CoD)=>p.2=[.sl d.k d.xs]) ((lvs [K.slice (.int .i64)] (fG ps)).drop (1+(ioKs args).length)) cos'):=by
 obtain⟨rfl,rfl⟩:=jn (l:=[]) rfl hco hargs;obtain⟨v,b,rfl,rfl,rfl,hv⟩:=vA hA;have hv:RepT te w Sb (.slice pM) ps [v]:=aT hv;obtain⟨a,cap,e,hcap,hne⟩:=hv;simp only[NY,OV]at e;subst e;have hc:∃b off,(0<ps.length->a=some ⟨b,off,none⟩/\b<w.heap.size)/\∀k p,ps[k]?=some p->Je w b (off+k*8) p:=by
  by_cases h0:ps=[]
  ·subst h0;exact⟨0,0,λh=>by simp at h,λk p h=>by simp at h⟩
  ·obtain⟨⟨b,off,sp⟩,rfl,hsp,hS,hel⟩:=hne h0;simp only at hsp;subst hsp;exact⟨b,off,λ_=>⟨rfl,hbel _ hS⟩,λk p hp=>by
    obtain⟨vs,h1,h2⟩:=hel k p hp;exact LX h1 h2⟩
 obtain⟨b,off,h1,h2⟩:=hc;refine(MR w ps ps.length cap b off a rfl (by omega) h1 h2).mono ?_;rintro e w' ⟨v,rfl,hb,ho⟩;have hlt:∀g,v.ownBlock=some g->w.heap.size<=g/\g<w'.heap.size:=λg hg=>ho.lt g hg
 refine⟨v,te,λb=>Sb b\/v.ownBlock=some b,[],rfl,⟨#[v],rfl,⟨hb.os,hb.tape,hb.output,hb.size,λb hlt _=>hb.block b hlt⟩,λb hb=>.inl hb,λb hs=>?_,⟨Bz ho,trivial⟩,rfl⟩,
  iv hIn hbel hb (λb h=>.inl h) (λb hs=>?_),trivial⟩
 ·rcases hs with hs|hs
  ·exact⟨N1 (hbel b hs) hb.size,.inl hs⟩
  ·exact⟨(hlt b hs).2,.inr (.inl (hlt b hs).1)⟩
 ·rcases hs with hs|hs
  ·exact⟨N1 (hbel b hs) hb.size,.inl hs⟩
  ·exact⟨(hlt b hs).2,.inr (hlt b hs).1⟩
abbrev KF:K:=.slice (.prod (.int .i64) (.ref 219))
abbrev dF (fs:List (List (Int×Option Nat))):CoD:=⟨1050432,29,0,.mp,KF,fs⟩
abbrev dB (bs:List (List Int)):CoD:=⟨1062592,219,0,.own,.slice (.int .u8),bs⟩
theorem qd {te:TE}{w:World}{Sb:Nat->Prop}{cos:List CoD}(hM:ManR A (coC te w Sb cos)){fs:List (List (Int×Option Nat))}(hF:coHp cos 1050432=some (.col 29 0 .mp KF fs 0 none)){i bd:Nat}(hi:te.ι 29 i=some bd):
  i<fs.length/\∃bm ents clock,w.cell? ⟨bd,0,none⟩=some (.map (some bm))/\w.heap[bm]?=some (.map ents clock)/\MapKept.Stamped ents clock/\LR (RepM te (.ref 219)) (fs.getD i []) ents.toList:=by
 obtain⟨hlt,hh,arr,⟨T,fz,hB,_⟩,_,_⟩:=hM.at hF hi;obtain⟨bm,ents,clock,h1,h2,h3,⟨h4,h5⟩,h6⟩:=hM.mpp _ _ _ _ fs _ _ hF i _ (getD_some [] hlt);refine⟨hlt,bm,ents,clock,?_,h3,h5,h4⟩;have:=h6 bd arr hi ⟨T,fz,hB⟩;rw[cell_of_row w bd 0 arr T fz hB,this];exact congrArg some h2
theorem K7 {te:TE}{w:World}{Sb:Nat->Prop}{cos:List CoD}(hM:ManR A (coC te w Sb cos)){bs:List (List Int)}(hF:coHp cos 1062592=some (.col 219 0 .own (.slice (.int .u8)) bs 0 none)){i bd:Nat}(hi:te.ι 219 i=some bd):
  ∃a cap,w.cell? ⟨bd,0,none⟩=some (.slice a (bs.getD i []).length cap):=by
 obtain⟨hlt,hh,arr,⟨T,fz,hB,_⟩,_,_⟩:=hM.at hF hi;obtain⟨h1,h2⟩:=hM.own _ _ _ (.int .u8) bs _ _ hF i _ (getD_some [] hlt);have h3:=h2 (by simp) bd arr hi ⟨T,fz,hB⟩;unfold bR at h1;have hc:w.cell? ⟨bd,0,none⟩=some (te.cur 1062592 i):=by rw[cell_of_row w bd 0 arr T fz hB];exact h3
 rw[hc];split at h1
 ·obtain⟨q1,q2⟩:=h1;have q1:te.cur 1062592 i=_:=q1;have q2:bs.getD i []=[]:=q2;rw[q1,q2];exact⟨none,0,rfl⟩
 ·obtain⟨cap,arr',a,q1,_⟩:=h1;have q1:te.cur 1062592 i=_:=q1;rw[q1];exact⟨some a,cap,rfl⟩
theorem tI {te:TE}{wt:MapEntry->Int}{bs:List (List Int)}:∀{es:List (Int×Option Nat)} {ms:List MapEntry},LR (RepM te (.ref 219)) es ms->(∀e∈es,∀m,RepM te (.ref 219) e m->wt m=((bs.getD (e.2.getD 0) []).length:Int))->w64 (ms.map wt).sum=oZ bs es
 |[],[],_,_=>rfl
 |e::es,m::ms,h,hw=>by
  have ih:=tI h.2 (λx hx=>hw x (NW _ hx));unfold oZ;rw[<- ih,<- hw e (Om ..) m h.1,NV,QE];obtain⟨q1,a1,a2,a3⟩:=jq (wt m+(ms.map wt).sum);obtain⟨q2,b1,b2,b3⟩:=jq (ms.map wt).sum;obtain⟨q3,c1,c2,c3⟩:=jq (wt m+w64 (ms.map wt).sum);omega
theorem Hs {fs:List (List (Int×Option Nat))}{bl:List (List Int)}{r:Option Nat}{rr:Int×List (List (Int×Option Nat))×List (List Int)}{cos:List CoD}{args:List AV}(hco:∀a∈args,isCo a=false)(hargs:args++cos.map coAV=[.val false [.ref 29 r],coAV (dF fs),coAV (dB bl)])(hu:zh r fs bl=some rr)
  {te:TE} {w:World} {Sb:Nat->Prop} {vs:Array Value} {bs:List (Option Nat)} (hbel:∀b,Sb b->b<w.heap.size) (hA:LR3 (Go.Eng.ArgRel te w Sb) args vs.toList bs) (hIn:oX A te w Sb bs cos):
  Calls Tryz.prog 139 vs w (λe w'=>∃v te' S' cos',e=.returned v/\Res te' (XOf te w Sb cos) (XOf te' w' S' cos') w w' Sb S' args bs ⟨[(false,.int .i64)],[.slice KF,.slice (.slice (.int .u8))]⟩ rr v/\iH A te te' w w' Sb S' args bs cos cos' /\
    LR (λ(p:Bool×List S) (d:CoD)=>p.2=[.sl d.k d.xs]) ((lvs [K.int .i64,.slice KF,.slice (.slice (.int .u8))] rr).drop (1+(ioKs args).length)) cos'):=by
 obtain⟨rfl,rfl⟩:=jn (l:=[dF fs,dB bl]) rfl hco hargs;obtain⟨v,b,rfl,rfl,rfl,hv⟩:=vA hA;have hv:RefV te 29 r v:=aT hv;cases r with
 |none=>simp[zh]at hu
 |some i=>
  obtain⟨bd,hi,rfl⟩:=hv;cases hall:(fs.getD i []).all (λe=>e.2.isSome)with
  |false=>simp only[zh,hall,NS]at hu;cases hu
  |true=>
   simp only[zh,hall,NH,Nz]at hu;subst hu;have hF:coHp [dF fs,dB bl] 1050432=some (.col 29 0 .mp KF fs 0 none):=by simp[coHp]
   have hB:coHp [dF fs,dB bl] 1062592=some (.col 219 0 .own (.slice (.int .u8)) bl 0 none):=by simp[coHp]
   obtain⟨hlt,bm,ents,clock,h1,h2,h3,h4⟩:=qd hIn.r hF hi;have hent:∀e∈fs.getD i [],∀m,RepM te (.ref 219) e m->∃bf a cap,m.val=.pointer (some ⟨bf,0,none⟩)/\w.cell? ⟨bf,0,none⟩=some (.slice a (bl.getD (e.2.getD 0) []).length cap):=λe he m hm=>by
    have hs:=OW.1 hall e he;obtain⟨j,hj⟩:=Pt.1 hs;have h5:RefV te 219 e.2 m.val:=hm.2;rw[hj]at h5 ⊢;obtain⟨bf,q1,q2⟩:=h5;obtain⟨a,cap,q3⟩:=K7 hIn.r hB q1;exact⟨bf,a,cap,q2,q3⟩
   have hwt:∀e∈fs.getD i [],∀m,RepM te (.ref 219) e m->Ik w m.val=((bl.getD (e.2.getD 0) []).length:Int):=λe he m hm=>by
    obtain⟨bf,a,cap,q1,q2⟩:=hent e he m hm;simp only[Ik,q1,q2]
   refine(J1 bd bm ents clock w (λm=>Ik w m.val) h1 h2 h3 (λx hx=>?_)).mono ?_
   ·obtain⟨k,hk⟩:=Oo.1 hx;have hlen:=h4.length;have hk1:=(NJ.1 hk).1;obtain⟨e,he⟩:∃e,(fs.getD i [])[k]?=some e:=⟨_,NT (by omega)⟩
    obtain⟨m,hm1,hm2⟩:=h4.get k e he;rw[hk]at hm1;cases hm1;obtain⟨bf,a,cap,q1,q2⟩:=hent e (NX he) x hm2;exact⟨bf,a,_,cap,q1,q2,by simp only[Ik,q1,q2]⟩
   ·rintro e w' ⟨rfl,hb⟩;rw[tI h4 hwt];exact⟨_,te,Sb,[dF fs,dB bl],rfl,⟨#[.int .i64 (oZ bl (fs.getD i []))],rfl,⟨hb.os,hb.tape,hb.output,hb.size,λb hlt _=>hb.block b hlt⟩,λb hb=>hb,λb hs=>⟨N1 (hbel b hs) hb.size,.inl hs⟩,⟨⟨_,rfl,rfl,rfl⟩,trivial⟩,rfl⟩,
     iv hIn hbel hb (λb h=>h) (λb hs=>⟨N1 (hbel b hs) hb.size,.inl hs⟩),⟨rfl,rfl,trivial⟩⟩
end
end Go.Proofs.Due
