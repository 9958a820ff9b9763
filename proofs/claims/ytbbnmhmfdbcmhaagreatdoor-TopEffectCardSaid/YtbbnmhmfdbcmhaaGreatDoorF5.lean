/- Definitions and lemmas for the law TopEffect: what the program's functions come to. Conditions: as each lemma says. -/
import Derived.Test.YtbbnmhmfdbcmhaaGreatDoorF4
set_option linter.all false
set_option linter.unusedVariables false
set_option linter.unusedSimpArgs false
set_option linter.deprecated false
namespace Go.Eng.Top
open Go.RowKit Go.Eng Go.Eng.LVar
abbrev sBy:Sig:=⟨[(true,.slice (.int .u8))],[]⟩
theorem Ek (d:Nat):∀(u:Nat)(x:List Int),u<d->u<18446744073709551616->x.length+(enc u).length<=211106232532992->Ev2 (λk m=>rC k m (u:Int) x) (x++enc u):=by
 induction d with
 |zero=>intro u x h;omega
 |succ d ih=>
  intro u x h hu hx;refine Ev2.step (λk m=>FO k m (u:Int) x _ rfl) ?_;by_cases hb:128<=u
  ·rw[oM hb]at hx ⊢;simp only[NC]at hx;have hl:=Py.2 (yP (u/128));refine Ev2.posD (by omega) (Ev2.posD (by simp only[NC,NL];omega) ?_);have e1:w8 (u:Int)=((u%256:Nat):Int):=by rw[oY];omega
   have e2:Int.fdiv (u:Int) 128=((u/128:Nat):Int):=by rw[Pp _ (by omega)];omega
   rw[e1,e2,or8 _ (by omega)];have e3:u%256%128=u%128:=by omega
   rw[e3,show(x++((u%128+128:Nat):Int)::enc (u/128))=(x++[((u%128+128:Nat):Int)])++enc (u/128) by simp];exact ih (u/128) _ (by omega) (by omega) (by simp;omega)
  ·rw[gU (by omega)]at hx ⊢;simp only[QU]at hx;have h2:Ev2 (λk m=>rB k m (u:Int) x) (x++[(u:Int)]):=by
    refine Ev2.step (λk m=>zY k m (u:Int) x) (Ev2.posD (by simp only[NC,NL];omega) (Ev2.const ?_));rw[show w8 (u:Int)=(u:Int) by rw[oY];omega]
   exact Ev2.negD (by omega) (Ev1.drop h2.diag)
theorem El (x:List Int)(n:Int)(hn:-9223372036854775808<=n/\n<=9223372036854775807)(hx:x.length+20<=211106232532992):Ev1 (λk=>CF k sBy kq [.val false [.mv (.int .u8) x],inj (.int .i64) n]) (x++enc (zig n)):=by
 have hz:=tH hn;have hl:=nz hz;refine Ev1.step (λk=>K8 k x n _ rfl) ?_;by_cases h:n<0
 ·refine Ev1.posD h ?_;have e:wu64 ((wu64 n)*2)=((18446744073709551615-zig n:Nat):Int):=by
   rw[pN,pN];unfold zig;rw[NI h];omega
  rw[e,M9 _ (by omega),show 18446744073709551615-(18446744073709551615-zig n)=zig n by omega];exact(Ek (zig n+1) (zig n) x (by omega) hz (by omega)).diag
 ·refine Ev1.negD h ?_;have e:wu64 ((wu64 n)*2)=(zig n:Int):=by
   rw[pN,pN];unfold zig;rw[ND h];omega
  rw[e];exact(Ek (zig n+1) (zig n) x (by omega) hz (by omega)).diag
theorem JP (ns : List Int) (hn : I64 ns) (hl : 10 * ns.length + 30 ≤ 211106232532992) : ∀ (d i : Nat) (x : List Int), i + d = ns.length → x.length ≤ 10 * i → Ev2 (fun k m => vV k m ns (ns.length : Int) (i : Int) x) (x ++ encs (ns.drop i))
  | 0, i, x, h, hx => by
    refine Ev2.step (fun k m => xO k m ns (ns.length : Int) (i : Int) x) ?_
    refine Ev2.negD (by omega) (Ev2.const ?_)
    rw [Oi (by omega)]; simp [encs]
  | d + 1, i, x, h, hx => by
    refine Ev2.step (fun k m => xO k m ns (ns.length : Int) (i : Int) x) ?_
    refine Ev2.posD (by omega) (Ev2.pos (aj (by omega) (by omega)) ?_)
    rw [v7 ns i _ (by omega), wnat (by omega), Ob (show i < ns.length by omega)]
    have hm := hn ns[i] (N8 (by omega))
    have he := nz (tH hm)
    refine Ev2.bind (El x _ hm (by omega)) ?_
    have := JP ns hn hl d (i + 1) (x ++ enc (zig ns[i])) (by omega) (by simp; omega)
    simpa [encs] using this
theorem jo (ns : List Int) (hn : I64 ns) (hl : 10 * ns.length + 30 ≤ 211106232532992) : Ev1 (fun k => CF k sBy gq [inj (.slice (.int .i64)) ns]) (encs ns) := by
  refine Ev1.step (fun k => La k ns) ?_
  have := (JP ns hn hl ns.length 0 [] (by omega) (by simp)).diag
  rw [Pm, OJ] at this
  exact this
end Go.Eng.Top
namespace Go.Eng.Top
open Go.RowKit Go.Eng Go.Eng.LCrc
abbrev sU:Sig:=⟨[(false,.int .u32)],[]⟩
theorem zo:∀(d:Nat)(i:Int)(x:BitVec 32),0<=i->i+d=8->Ev2 (λk m=>jc k m (x.toNat:Int) i) ((Rn d x).toNat:Int)
 |0,i,x,h0,h=>Ev2.step (λk m=>pk k m (x.toNat:Int) i _ rfl _ rfl) (Ev2.negD (by omega) (Ev2.now _))
 |d+1,i,x,h0,h=>by
  have hf:Int.fdiv (x.toNat:Int) 2=(x.toNat:Int)/2:=Pp _ (by omega);refine Ev2.step (λk m=>pk k m (x.toNat:Int) i _ (aL (by omega)).symm _ hf.symm) (Ev2.posD (by omega) ?_);rw[Lr];by_cases hx:(x.toNat:Int)%2=1
  ·refine Ev2.posD hx ?_;rw[Nw hx];exact zo d (i+1) (R x) (by omega) (by omega)
  ·refine Ev2.negD hx ?_;rw[M3 hx];exact zo d (i+1) (R x) (by omega) (by omega)
theorem Kd (r:BitVec 32)(c:Int):Ev1 (λk=>CF k sU om [inj (.int .u32) (r.toNat:Int),inj (.int .u8) c]) ((stp r c).toNat:Int):=by
 refine Ev1.step (λk=>DS k (r.toNat:Int) c) ?_;rw[JY,Lw];exact(zo 8 0 _ (by omega) (by omega)).diag
theorem Jm (l : List Int) (hl : l.length ≤ 9223372036854775000) : ∀ (d i : Nat) (r : BitVec 32), i + d = l.length → Ev2 (fun k m => nr k m (r.toNat : Int) l (l.length : Int) (i : Int)) ((~~~ fold r (l.drop i)).toNat : Int)
  | 0, i, r, h => by
    refine Ev2.step (fun k m => rO k m (r.toNat : Int) l (l.length : Int) (i : Int)) (Ev2.negD (by omega) (Ev2.const ?_))
    rw [Oi (by omega), Na]; rfl
  | d + 1, i, r, h => by
    refine Ev2.step (fun k m => rO k m (r.toNat : Int) l (l.length : Int) (i : Int)) (Ev2.posD (by omega) (Ev2.pos (aj (by omega) (by omega)) ?_))
    rw [v7 l i _ (by omega), wnat (by omega), GS (show i < l.length by omega)]
    exact Ev2.bind (Kd r _) (Jm l hl d (i + 1) (stp r l[i]) (by omega))
theorem Jn (l : List Int) (hl : l.length ≤ 9223372036854775000) : Ev1 (fun k => CF k sU m5 [inj (.slice (.int .u8)) l]) (pC l) := by
  refine Ev1.step (fun k => GI k l) ?_
  have := (Jm l hl l.length 0 (BitVec.allOnes 32) (by omega)).diag
  rw [Pm] at this
  exact this
end Go.Eng.Top
namespace Go.Eng.LFrm
open Go.Eng Go.Eng.LCrc
theorem LY (a b : Nat) (ha : a < 256) (hb : b < 256) : b7 .i64 .or ((a * 256 : Nat) : Int) (b : Int) = ((a * 256 + b : Nat) : Int) := by
  show w64 ((BitVec.ofInt 64 ((a * 256 : Nat) : Int) ||| BitVec.ofInt 64 (b : Int)).toNat : Int) = _
  have e1 : (BitVec.ofInt 64 ((a * 256 : Nat) : Int)).toNat = a * 256 := by rw [Ps]; omega
  have e2 : (BitVec.ofInt 64 (b : Int)).toNat = b := by rw [Ps]; omega
  rw [Qn, e1, e2, Rf a 256, show (256 : Nat) = 2 ^ 8 from rfl, ← PV (show b < 2 ^ 8 by omega) a, aL (by omega)]
theorem E8 (i p a b : Nat) (hp : p = 2 ^ i) (h : p * a + b < 4294967296) (hb : b < p) : b7 .u32 .or ((p * a : Nat) : Int) (b : Int) = ((p * a + b : Nat) : Int) := by
  show w32 ((BitVec.ofInt 32 ((p * a : Nat) : Int) ||| BitVec.ofInt 32 (b : Int)).toNat : Int) = _
  have e1 : (BitVec.ofInt 32 ((p * a : Nat) : Int)).toNat = p * a := by rw [Ps]; omega
  have e2 : (BitVec.ofInt 32 (b : Int)).toNat = b := by rw [Ps]; omega
  have e3 : p * a ||| b = p * a + b := by subst hp; exact (PV hb a).symm
  rw [Qn, e1, e2, e3, wV (by omega) (by omega)]
theorem Mm (a b c d : Nat) (ha : a < 256) (hb : b < 256) (hc : c < 256) (hd : d < 256) :
    b7 .u32 .or (b7 .u32 .or (b7 .u32 .or (w32 (w32 (a : Int) * 16777216)) (w32 (w32 (b : Int) * 65536))) (w32 (w32 (c : Int) * 256))) (w32 (d : Int)) = ((a * 16777216 + b * 65536 + c * 256 + d : Nat) : Int) := by
  have w : ∀ x : Nat, x < 256 → w32 (x : Int) = (x : Int) := fun x hx => wV (by omega) (by omega)
  rw [w a ha, w b hb, w c hc, w d hd]
  have e1 : w32 ((a : Int) * 16777216) = ((16777216 * a : Nat) : Int) := by rw [wV (by omega) (by omega)]; omega
  have e2 : w32 ((b : Int) * 65536) = ((b * 65536 : Nat) : Int) := by rw [wV (by omega) (by omega)]; omega
  have e3 : w32 ((c : Int) * 256) = ((c * 256 : Nat) : Int) := by rw [wV (by omega) (by omega)]; omega
  rw [e1, e2, e3, E8 24 16777216 a (b * 65536) rfl (by omega) (by omega)]
  rw [show 16777216 * a + b * 65536 = 65536 * (256 * a + b) by omega, E8 16 65536 (256 * a + b) (c * 256) rfl (by omega) (by omega)]
  rw [show 65536 * (256 * a + b) + c * 256 = 256 * (256 * (256 * a + b) + c) by omega, E8 8 256 (256 * (256 * a + b) + c) d rfl (by omega) (by omega)]
  congr 1
  omega
def head (n s:Int):List Int:=[n/256%256,n%256,s/16777216%256,s/65536%256,s/256%256,s%256]
def fr (x:List Int):List Int:=head (x.length:Int) (pC x)++x
theorem jh (x:List Int):(fr x).length=6+x.length:=by simp[fr,head];omega
theorem Ip (n s:Int):Byt (head n s):=by
 intro y hy;simp only[head,NO,Oc,ON]at hy;omega
theorem CL {x:List Int}(h:Byt x):Byt (fr x):=Byt.append (Ip _ _) h
def lenOf (b:List Int):Int:=b.getD 0 0*256+b.getD 1 0
def smOf (b:List Int):Int:=b.getD 2 0*16777216+b.getD 3 0*65536+b.getD 4 0*256+b.getD 5 0
def rec1 (b:List Int):Option (List Int):=
 if b.length<6\/16384<lenOf b\/(b.length:Int)<6+lenOf b then none else if pC ((b.drop 6).take (lenOf b).toNat)=smOf b then some ((b.drop 6).take (lenOf b).toNat)else none
def ans1:Option (List Int)->List Int×Int×Bool
 |none=>([],0,false)
 |some x=>(x,6+(x.length:Int),true)
theorem byt_get {b:List Int}(h:Byt b)(i:Nat):0<=b.getD i 0/\b.getD i 0<=255:=by
 rw[NP];cases hq:b[i]? with
 |none=>simp
 |some y=>exact h y (NX hq)
theorem BS {x r:List Int}(hx:x.length<=16384):lenOf (fr x++r)=(x.length:Int):=by
 show(x.length:Int)/256%256*256+(x.length:Int)%256=_;omega
theorem Ke (x r:List Int):smOf (fr x++r)=pC x:=by
 show pC x/16777216%256*16777216+pC x/65536%256*65536+pC x/256%256*256+pC x%256=_;have:=Bh x;omega
theorem Ld (x r:List Int):(fr x++r).drop 6=x++r:=by simp[fr,head]
theorem BK (x r:List Int)(hx:x.length<=16384):rec1 (fr x++r)=some x:=by
 unfold rec1;rw[BS hx,Ke,Ld,NQ,List.take_left']
 ·rw[ND,NI rfl];rw[Ny,jh];omega
 ·rfl
theorem IZ (x:List Int)(hl:x.length<=16384)(q:Nat)(hq:q<6+x.length):rec1 ((fr x).take q)=none:=by
 have hfl:=jh x;have hlen:((fr x).take q).length=q:=by rw[OA];omega
 unfold rec1;by_cases h6:q<6
 ·rw[NI (.inl (by omega))]
 ·have hlo:lenOf ((fr x).take q)=(x.length:Int):=by
   have:=BS (x:=x) (r:=[]) hl;rw[Oq]at this;rw[<- this];unfold lenOf;simp only[NP];rw[QM (by omega),QM (by omega)]
  rw[NI (.inr (.inr (by rw[hlo,hlen];omega)))]
end Go.Eng.LFrm
namespace Go.Eng.Top
open Go.RowKit Go.Eng Go.Eng.LVar Go.Eng.LCrc Go.Eng.LFrm
set_option maxRecDepth 100000
theorem shr8 {n:Int}(h:0<=n)(d:Int)(hd:0<d):Int.fdiv n d=n/d:=Pp _ (by omega)
theorem Fv (x:List Int)(hl:x.length<=140737488351232):Ev1 (λk=>CF k yf il [inj BB x]) (if 16384<x.length then([],false)else(fr x,true)):=by
 refine Ev1.step (λk=>yH k x _ rfl _ rfl) ?_;by_cases h:16384<x.length
 ·rw[NI h];exact Ev1.posD (by omega) (Ev1.now _)
 ·rw[ND h];refine Ev1.negD (by omega) (Ev1.bind (Jn x (by omega)) (Ev1.posD (by simp only[NC,NL];omega) (Ev1.const ?_)));have hs:=Bh x;unfold fr head;rw[shr8 (by omega) _ (by omega),shr8 (by omega) _ (by omega),shr8 (by omega) _ (by omega),shr8 (by omega) _ (by omega),oY,oY,oY,oY,oY,oY]
theorem Gn (b:Bool):Ev1 (λk=>CF k yk ir [inj .bool b]) (if b=true then 1 else 0):=by
 refine Ev1.step (λk=>yL k b) ?_;cases b with
 |true=>exact Ev1.pos rfl (Ev1.now _)
 |false=>exact Ev1.neg rfl (Ev1.now _)
def rqL (r:ae):List Int:=[r.1,r.2.1,r.2.2.1,r.2.2.2.1,r.2.2.2.2.1,r.2.2.2.2.2.1,r.2.2.2.2.2.2]
theorem qE (r:ae)(h:I64 (rqL r)):Ev1 (λk=>CF k rU cS [inj aq r]) (encs (rqL r)):=
 Ev1.step (λk=>si k r) (Ev1.bind (Ev1.step (λk=>oJ k r) (Ev1.now _)) (Ev1.bind (jo (rqL r) h (by simp[rqL])) (Ev1.now _)))
theorem EM (r:ah)(h:I64 [r.1,r.2]):Ev1 (λk=>CF k rT gu [inj aK r]) (encs [r.1,r.2]):=
 Ev1.step (λk=>se k r) (Ev1.bind (jo [r.1,r.2] h (by simp)) (Ev1.now _))
def evL (e:au):List Int:=e.1::(if e.1=0 then rqL e.2.1 else if e.1=1 then[e.2.2.1,if e.2.2.2=true then 1 else 0]else[])
theorem aY {n:Int}{l:List Int}:I64 (n::l) ↔ (-9223372036854775808<=n/\n<=9223372036854775807)/\I64 l:=by simp[I64]
theorem IU (e:au)(h:I64 (evL e)):Ev1 (λk=>CF k wj jG [inj aH e]) (encs (evL e)):=by
 unfold evL at h;obtain⟨h0,h1⟩:=aY.1 h;refine Ev1.step (λk=>wB k e) (Ev1.bind (jo [e.1] (by simpa[I64]using h0) (by simp)) ?_);have hl:=aG (ns:=[e.1]) (by simpa[I64]using h0);unfold evL;by_cases c0:e.1=0
 ·rw[NI c0]at h1 ⊢;have hl2:=aG h1;refine Ev1.posD c0 (Ev1.bind (qE e.2.1 h1) (Ev1.posD (by simp only[rqL,NC,NL]at hl hl2 ⊢;omega) (Ev1.const ?_)));rw[<- aJ];rfl
 ·rw[ND c0]at h1 ⊢;refine Ev1.negD c0 ?_;by_cases c1:e.1=1
  ·rw[NI c1]at h1 ⊢;have hl2:=aG h1;refine Ev1.posD c1 (Ev1.bind (Gn e.2.2.2) (Ev1.bind (jo [e.2.2.1,if e.2.2.2=true then 1 else 0] h1 (by simp)) (Ev1.posD (by simp only[NC,NL]at hl hl2 ⊢;omega) (Ev1.const ?_))));rw[<- aJ];rfl
  ·rw[ND c1];exact Ev1.negD c1 (Ev1.now _)
theorem GK (e:au)(h:I64 (evL e)):(encs (evL e)).length<=80:=by
 have:=aG h;have h2:(evL e).length<=8:=by unfold evL rqL;split<;>(try split)<;>simp
 omega
end Go.Eng.Top
namespace Go.Eng.Top
open Go.RowKit Go.Eng Go.Eng.LVar Go.Eng.LCrc Go.Eng.LFrm
set_option maxRecDepth 100000
def acL (a:bu):List Int:=[a.1,a.2.1,a.2.2]
def payL (p:ag):List Int:=[p.1,p.2.1,p.2.2.1,p.2.2.2.1,p.2.2.2.2.1,p.2.2.2.2.2.1,p.2.2.2.2.2.2.1,p.2.2.2.2.2.2.2]
def sagL (g:aZ):List Int:=rqL g.1++[g.2.1,g.2.2.1,g.2.2.2.1,g.2.2.2.2]
def knL (k:aI):List Int:=rqL k.1++([k.2.1.1,k.2.1.2]++[if k.2.2=true then 1 else 0])
def t3 (ks:List aI):List Int:=(ks.length:Int)::ks.flatMap knL
def t2 (gs:List aZ)(ks:List aI):List Int:=(gs.length:Int)::(gs.flatMap sagL++t3 ks)
def t1 (ps:List ag)(gs:List aZ)(ks:List aI):List Int:=(ps.length:Int)::(ps.flatMap payL++t2 gs ks)
def stL (s:ab):List Int:=s.2.2.2.2::(s.1.length:Int)::(s.1.flatMap acL++t1 s.2.1 s.2.2.1 s.2.2.2.1)
theorem cN {a b:List Int}:I64 (a++b) ↔ I64 a/\I64 b:=by
 simp only[I64,NU];exact⟨λh=>⟨λx hx=>h x (.inl hx),λx hx=>h x (.inr hx)⟩,λh x hx=>hx.elim (h.1 x) (h.2 x)⟩
theorem p9 {α:Type}(f:α->List Int){l:List α}(h:I64 (l.flatMap f)){i:Nat}(hi:i<l.length):I64 (f l[i]):=λx hx=>h x (Oe.2 ⟨_,N8 hi,hx⟩)
theorem wk {α:Type}(f:α->List Int)(l:List α){i:Nat}(hi:i<l.length):(l.drop i).flatMap f=f l[i]++(l.drop (i+1)).flatMap f:=by
 rw[Ob hi,OP]
theorem qf (n:Int):encs [n]=enc (zig n):=by simp[encs]
theorem vput {x:List Int}{n:Int}(hn:-9223372036854775808<=n/\n<=9223372036854775807)(hx:x.length+20<=211106232532992):Ev1 (λk=>CF k K4 kq [.val false [.mv (.int .u8) x],inj (.int .i64) n]) (x++encs [n]):=by
 rw[qf];exact El x n hn hx
theorem gK (l:List aI)(i:Nat)(h:i<l.length):l.getD (Int.toNat (i:Int)) ((0,0,0,0,0,0,0),(0,0),false)=l[i]:=by rw[NQ];exact bc l i _ h
theorem gG (l:List aZ)(i:Nat)(h:i<l.length):l.getD (Int.toNat (i:Int)) ((0,0,0,0,0,0,0),0,0,0,0)=l[i]:=by rw[NQ];exact bc l i _ h
theorem gP (l:List ag)(i:Nat)(h:i<l.length):l.getD (Int.toNat (i:Int)) (0,0,0,0,0,0,0,0)=l[i]:=by rw[NQ];exact bc l i _ h
theorem gA (l:List bu)(i:Nat)(h:i<l.length):l.getD (Int.toNat (i:Int)) (0,0,0)=l[i]:=by rw[NQ];exact bc l i _ h
theorem LD (ks : List aI) (h : I64 (ks.flatMap knL)) (hl : ks.length ≤ 1000) : ∀ (d i : Nat) (x : List Int), i + d = ks.length → x.length + 100 * d ≤ 1000000 → Ev2 (fun k m => Cy k m ks (ks.length : Int) (i : Int) x) (x ++ encs ((ks.drop i).flatMap knL))
  | 0, i, x, hi, hx => by
    refine Ev2.step (fun k m => Cw k m ks (ks.length : Int) (i : Int) x _ rfl) (Ev2.negD (by omega) (Ev2.const ?_))
    rw [Oi (by omega)]; simp [encs]
  | d + 1, i, x, hi, hx => by
    have hlt : i < ks.length := by omega
    have hk := p9 knL h hlt
    unfold knL at hk
    obtain ⟨h1, h2⟩ := cN.1 hk
    obtain ⟨h3, h4⟩ := cN.1 h2
    have l1 := aG h1
    have l2 := aG h3
    have l4 := aG h4
    simp only [rqL, NC, NL] at l1 l2 l4
    refine Ev2.step (fun k m => Cw k m ks (ks.length : Int) (i : Int) x ks[i] (gK ks i hlt).symm) (Ev2.posD (by omega) (Ev2.pos (aj (by omega) (by omega)) (Ev2.bind (qE ks[i].1 h1) (Ev2.posD (by simp only [rqL]; omega)
      (Ev2.bind (EM ks[i].2.1 h3) (Ev2.posD (by simp only [rqL, Ny]; omega) (Ev2.bind (Gn ks[i].2.2) (Ev2.bind (vput (by simpa [I64] using h4) (by simp only [rqL, Ny]; omega)) ?_))))))))
    rw [wnat (by omega)]
    have := LD ks h hl d (i + 1) (((x ++ encs (rqL ks[i].1)) ++ encs [ks[i].2.1.1, ks[i].2.1.2]) ++ encs [if ks[i].2.2 = true then 1 else 0]) (by omega) (by simp only [rqL, Ny]; omega)
    rw [wk knL ks hlt, aJ, show knL ks[i] = rqL ks[i].1 ++ ([ks[i].2.1.1, ks[i].2.1.2] ++ [if ks[i].2.2 = true then 1 else 0]) from rfl, aJ, aJ]
    simpa only [N7] using this
theorem LF (ac : List bu) (ps : List ag) (gs : List aZ) (ks : List aI) (now : Int) (h : I64 (gs.flatMap sagL)) (hl : gs.length ≤ 1000) (h3 : I64 (ks.flatMap knL)) (hl3 : ks.length ≤ 1000) : ∀ (d i : Nat) (x : List Int), i + d = gs.length → x.length + 110 * d + 110000 ≤ 1000000 →
    Ev2 (fun k m => CA k m gs (gs.length : Int) (i : Int) ac ps gs ks now x) (x ++ encs ((gs.drop i).flatMap sagL ++ t3 ks))
  | 0, i, x, hi, hx => by
    have hk : -9223372036854775808 ≤ (ks.length : Int) ∧ (ks.length : Int) ≤ 9223372036854775807 := ⟨by omega, by omega⟩
    have l1 := aG (ns := [(ks.length : Int)]) (by simpa [I64] using hk)
    simp only [NC, NL] at l1
    have := LD ks h3 hl3 ks.length 0 (x ++ encs [(ks.length : Int)]) (by omega) (by simp only [Ny]; omega)
    refine Ev2.step (fun k m => Cz k m gs (gs.length : Int) (i : Int) ac ps gs ks now x _ rfl _ rfl) (Ev2.negD (by omega) (Ev2.bind (vput hk (by omega)) (Ev1.drop ?_)))
    rw [Oi (by omega)]
    unfold t3
    rw [show ([] : List aZ).flatMap sagL ++ (ks.length : Int) :: ks.flatMap knL = [(ks.length : Int)] ++ ks.flatMap knL from rfl, aJ, ← N7]
    exact this.diag
  | d + 1, i, x, hi, hx => by
    have hlt : i < gs.length := by omega
    have hk := p9 sagL h hlt
    unfold sagL at hk
    obtain ⟨h1, h2⟩ := cN.1 hk
    have l1 := aG h1
    have l2 := aG h2
    simp only [rqL, NC, NL] at l1 l2
    refine Ev2.step (fun k m => Cz k m gs (gs.length : Int) (i : Int) ac ps gs ks now x _ rfl gs[i] (gG gs i hlt).symm) (Ev2.posD (by omega) (Ev2.pos (aj (by omega) (by omega)) (Ev2.bind (qE gs[i].1 h1) (Ev2.posD (by simp only [rqL]; omega)
      (Ev2.bind (jo _ h2 (by simp)) (Ev2.posD (by simp only [rqL, Ny]; omega) ?_))))))
    rw [wnat (by omega)]
    have := LF ac ps gs ks now h hl h3 hl3 d (i + 1) ((x ++ encs (rqL gs[i].1)) ++ encs [gs[i].2.1, gs[i].2.2.1, gs[i].2.2.2.1, gs[i].2.2.2.2]) (by omega) (by simp only [rqL, Ny]; omega)
    rw [wk sagL gs hlt, show sagL gs[i] = rqL gs[i].1 ++ [gs[i].2.1, gs[i].2.2.1, gs[i].2.2.2.1, gs[i].2.2.2.2] from rfl]
    simpa only [aJ, N7] using this
theorem LG (ac:List bu)(ps:List ag)(gs:List aZ)(ks:List aI)(now:Int)(h:I64 (ps.flatMap payL))(hl:ps.length<=1000)(h2:I64 (gs.flatMap sagL))(hl2:gs.length<=1000)(h3:I64 (ks.flatMap knL))(hl3:ks.length<=1000):∀(d i:Nat)(x:List Int),i+d=ps.length->x.length+80*d+230000<=1000000 ->
  Ev2 (λk m=>CC k m ps (ps.length:Int) (i:Int) ac ps gs ks now x) (x++encs ((ps.drop i).flatMap payL++t2 gs ks))
 |0,i,x,hi,hx=>by
  have hk:-9223372036854775808<=(gs.length:Int)/\(gs.length:Int)<=9223372036854775807:=⟨by omega,by omega⟩
  have l1:=aG (ns:=[(gs.length:Int)]) (by simpa[I64]using hk);simp only[NC,NL]at l1;have:=LF ac ps gs ks now h2 hl2 h3 hl3 gs.length 0 (x++encs [(gs.length:Int)]) (by omega) (by simp only[Ny];omega);refine Ev2.step (λk m=>CB k m ps (ps.length:Int) (i:Int) ac ps gs ks now x _ rfl _ rfl) (Ev2.negD (by omega) (Ev2.bind (vput hk (by omega)) (Ev1.drop ?_)));rw[Oi (by omega)];unfold t2;rw[show([]:List ag).flatMap payL++(gs.length:Int)::(gs.flatMap sagL++t3 ks)=[(gs.length:Int)]++(gs.flatMap sagL++t3 ks) from rfl,aJ,<- N7];exact this.diag
 |d+1,i,x,hi,hx=>by
  have hlt:i<ps.length:=by omega
  have hk:=p9 payL h hlt;have l1:=aG hk;simp only[payL,NC,NL]at l1;refine Ev2.step (λk m=>CB k m ps (ps.length:Int) (i:Int) ac ps gs ks now x _ rfl ps[i] (gP ps i hlt).symm) (Ev2.posD (by omega) (Ev2.pos (aj (by omega) (by omega)) (Ev2.bind (jo _ hk (by simp[payL])) (Ev2.posD (by simp only[payL];omega) ?_))));rw[wnat (by omega)];have:=LG ac ps gs ks now h hl h2 hl2 h3 hl3 d (i+1) (x++encs (payL ps[i])) (by omega) (by simp only[payL,Ny];omega);rw[wk payL ps hlt,N7,aJ];simpa only[N7]using this
theorem LH (ac:List bu)(ps:List ag)(gs:List aZ)(ks:List aI)(now:Int)(h0:I64 (ac.flatMap acL))(hl0:ac.length<=1000)(h:I64 (ps.flatMap payL))(hl:ps.length<=1000)(h2:I64 (gs.flatMap sagL))(hl2:gs.length<=1000)(h3:I64 (ks.flatMap knL))(hl3:ks.length<=1000):∀(d i:Nat)(x:List Int),i+d=ac.length->x.length+30*d+330000<=1000000 ->
  Ev2 (λk m=>h_cS k m ac (ac.length:Int) (i:Int) ac ps gs ks now x) (x++encs ((ac.drop i).flatMap acL++t1 ps gs ks))
 |0,i,x,hi,hx=>by
  have hk:-9223372036854775808<=(ps.length:Int)/\(ps.length:Int)<=9223372036854775807:=⟨by omega,by omega⟩
  have l1:=aG (ns:=[(ps.length:Int)]) (by simpa[I64]using hk);simp only[NC,NL]at l1;have:=LG ac ps gs ks now h hl h2 hl2 h3 hl3 ps.length 0 (x++encs [(ps.length:Int)]) (by omega) (by simp only[Ny];omega);refine Ev2.step (λk m=>JF k m ac (ac.length:Int) (i:Int) ac ps gs ks now x _ rfl _ rfl) (Ev2.negD (by omega) (Ev2.bind (vput hk (by omega)) (Ev1.drop ?_)));rw[Oi (by omega)];unfold t1;rw[show([]:List bu).flatMap acL++(ps.length:Int)::(ps.flatMap payL++t2 gs ks)=[(ps.length:Int)]++(ps.flatMap payL++t2 gs ks) from rfl,aJ,<- N7];exact this.diag
 |d+1,i,x,hi,hx=>by
  have hlt:i<ac.length:=by omega
  have hk:=p9 acL h0 hlt;have l1:=aG hk;simp only[acL,NC,NL]at l1;refine Ev2.step (λk m=>JF k m ac (ac.length:Int) (i:Int) ac ps gs ks now x _ rfl ac[i] (gA ac i hlt).symm) (Ev2.posD (by omega) (Ev2.pos (aj (by omega) (by omega)) (Ev2.bind (jo _ hk (by simp[acL])) (Ev2.posD (by simp only[acL];omega) ?_))));rw[wnat (by omega)];have:=LH ac ps gs ks now h0 hl0 h hl h2 hl2 h3 hl3 d (i+1) (x++encs (acL ac[i])) (by omega) (by simp only[acL,Ny];omega);rw[wk acL ac hlt,N7,aJ];simpa only[N7]using this
structure StOk (s:ab):Prop where
 now:-9223372036854775808<=s.2.2.2.2/\s.2.2.2.2<=9223372036854775807
 ac:I64 (s.1.flatMap acL)
 acl:s.1.length<=1000
 ps:I64 (s.2.1.flatMap payL)
 psl:s.2.1.length<=1000
 gs:I64 (s.2.2.1.flatMap sagL)
 gsl:s.2.2.1.length<=1000
 ks:I64 (s.2.2.2.1.flatMap knL)
 ksl:s.2.2.2.1.length<=1000
theorem ju (s:ab)(h:StOk s):Ev1 (λk=>CF k g_cS n_cS [inj aD s]) (encs (stL s)):=by
 have hl:=h.acl;have hk:I64 [s.2.2.2.2,(s.1.length:Int)]:=aY.2 ⟨h.now,aY.2 ⟨⟨by omega,by omega⟩,by simp[I64]⟩⟩;have l1:=aG hk;simp only[NC,NL]at l1;have:=LH s.1 s.2.1 s.2.2.1 s.2.2.2.1 s.2.2.2.2 h.ac h.acl h.ps h.psl h.gs h.gsl h.ks h.ksl s.1.length 0 (encs [s.2.2.2.2,(s.1.length:Int)]) (by omega) (by omega);refine Ev1.step (λk=>f_cS k s _ rfl) (Ev1.bind (jo _ hk (by simp)) ?_);unfold stL;rw[show s.2.2.2.2::(s.1.length:Int)::(s.1.flatMap acL++t1 s.2.1 s.2.2.1 s.2.2.2.1)=[s.2.2.2.2,(s.1.length:Int)]++(s.1.flatMap acL++t1 s.2.1 s.2.2.1 s.2.2.2.1) from rfl,aJ];exact this.diag
theorem nP {s:ab}(h:StOk s):I64 (stL s):=by
 have h1:=h.acl;have h2:=h.psl;have h3:=h.gsl;have h4:=h.ksl;have e4:I64 (t3 s.2.2.2.1):=aY.2 ⟨⟨by omega,by omega⟩,h.ks⟩;have e3:I64 (t2 s.2.2.1 s.2.2.2.1):=aY.2 ⟨⟨by omega,by omega⟩,cN.2 ⟨h.gs,e4⟩⟩;have e2:I64 (t1 s.2.1 s.2.2.1 s.2.2.2.1):=aY.2 ⟨⟨by omega,by omega⟩,cN.2 ⟨h.ps,e3⟩⟩;exact aY.2 ⟨h.now,aY.2 ⟨⟨by omega,by omega⟩,cN.2 ⟨h.ac,e2⟩⟩⟩
theorem su:∀{a b:List Int},I64 a->I64 b->encs a=encs b->a=b
 |[],[],_,_,_=>rfl
 |[],n::b,_,_,h=>by
  have:=yP (zig n);simp[encs]at h;exact(this h.1).elim
 |n::a,[],_,_,h=>by
  have:=yP (zig n);simp[encs]at h;exact(this h.1).elim
 |n::a,m::b,ha,hb,h=>by
  obtain⟨h1,h2⟩:=aY.1 ha;obtain⟨h3,h4⟩:=aY.1 hb;have e:enc (zig n)++encs a=enc (zig m)++encs b:=h;obtain⟨q1,q2⟩:=DV (tH h1) (tH h3) e;have:n=m:=by rw[<- qk n,<- qk m,q1]
  rw[this,su h2 h4 q2]
theorem cJ {α:Type}(f:α->List Int)(n:Nat)(hf:∀x,(f x).length=n):∀l:List α,(l.flatMap f).length=n*l.length
 |[]=>by simp
 |x::l=>by rw[OP,Ny,hf,cJ f n hf l,NC,Nat.mul_add];omega
theorem yp {α:Type}(f:α->List Int)(hf:∀x y (r s:List Int),f x++r=f y++s->x=y/\r=s):∀{l m:List α} {r s:List Int},l.length=m.length->l.flatMap f++r=m.flatMap f++s->l=m/\r=s
 |[],[],_,_,_,h=>⟨rfl,h⟩
 |[],_::_,_,_,hl,_=>by simp at hl
 |_::_,[],_,_,hl,_=>by simp at hl
 |x::l,y::m,r,s,hl,h=>by
  rw[OP,OP,N7,N7]at h;obtain⟨h1,h2⟩:=hf x y _ _ h;obtain⟨h3,h4⟩:=yp f hf (by simpa using hl) h2;exact⟨by rw[h1,h3],h4⟩
theorem LJ {a b:ae}(h1:a.1=b.1)(h2:a.2.1=b.2.1)(h3:a.2.2.1=b.2.2.1)(h4:a.2.2.2.1=b.2.2.2.1)(h5:a.2.2.2.2.1=b.2.2.2.2.1)(h6:a.2.2.2.2.2.1=b.2.2.2.2.2.1)(h7:a.2.2.2.2.2.2=b.2.2.2.2.2.2):a=b:=
 OU h1 (OU h2 (OU h3 (OU h4 (OU h5 (OU h6 h7)))))
theorem Lt (x y:bu)(r s:List Int)(h:acL x++r=acL y++s):x=y/\r=s:=by
 simp only[acL,N4,OJ,NY]at h;obtain⟨h1,h2,h3,h4⟩:=h;exact⟨OU h1 (OU h2 h3),h4⟩
theorem H3 (x y:ag)(r s:List Int)(h:payL x++r=payL y++s):x=y/\r=s:=by
 simp only[payL,N4,OJ,NY]at h;obtain⟨h1,h2,h3,h4,h5,h6,h7,h8,h9⟩:=h;exact⟨OU h1 (OU h2 (OU h3 (OU h4 (OU h5 (OU h6 (OU h7 h8)))))),h9⟩
theorem HJ (x y:aZ)(r s:List Int)(h:sagL x++r=sagL y++s):x=y/\r=s:=by
 simp only[sagL,rqL,N4,OJ,NY]at h;obtain⟨h1,h2,h3,h4,h5,h6,h7,g1,g2,g3,g4,h8⟩:=h;exact⟨OU (LJ h1 h2 h3 h4 h5 h6 h7) (OU g1 (OU g2 (OU g3 g4))),h8⟩
theorem IH {a b:Bool}(h:(if a=true then(1:Int)else 0)=(if b=true then 1 else 0)):a=b:=by
 cases a<;>cases b<;>first|rfl|(simp at h)
theorem KY (x y:aI)(r s:List Int)(h:knL x++r=knL y++s):x=y/\r=s:=by
 simp only[knL,rqL,N4,OJ,NY]at h;obtain⟨h1,h2,h3,h4,h5,h6,h7,g1,g2,g3,h8⟩:=h;exact⟨OU (LJ h1 h2 h3 h4 h5 h6 h7) (OU (OU g1 g2) (IH g3)),h8⟩
theorem Ey {s t:ab}(h:stL s=stL t):s=t:=by
 simp only[stL,t1,t2,t3,NY,Qc]at h;obtain⟨h1,h2,h3⟩:=h;obtain⟨a1,h4⟩:=yp acL Lt h2 h3;simp only[NY,Qc]at h4;obtain⟨h5,h6⟩:=h4;obtain⟨a2,h7⟩:=yp payL H3 h5 h6;simp only[NY,Qc]at h7;obtain⟨h8,h9⟩:=h7;obtain⟨a3,h10⟩:=yp sagL HJ h8 h9;simp only[NY,Qc]at h10;obtain⟨h11,h12⟩:=h10;obtain⟨a4,_⟩:=yp knL KY (r:=[]) (s:=[]) h11 (by simpa using h12);exact OU a1 (OU a2 (OU a3 (OU a4 h1)))
theorem EE (s t:ab)(hs:StOk s)(ht:StOk t):Ev1 (λk=>CF k ⟨[(false,.bool)],[]⟩ n_ds [inj aD s,inj aD t]) (decide (stL s=stL t)):=by
 refine Ev1.step (λk=>f_ds k s t) (Ev1.bind (ju s hs) (Ev1.bind (ju t ht) (Ev1.const ?_)));congr 1;exact Pq.2 ⟨λh=>su (nP hs) (nP ht) h,λh=>by rw[h]⟩
end Go.Eng.Top
namespace Go.Eng.Top
open Go.RowKit Go.Eng Go.Eng.LVar Go.Eng.LChart Go.Eng.LEnt
set_option maxRecDepth 100000
abbrev zP:ag:=(0,0,0,0,0,0,0,0)
abbrev zG:aZ:=((0,0,0,0,0,0,0),0,0,0,0)
abbrev cli (s:ab)(n:Int):Prop:=9<=n/\n<(s.1.length:Int)
abbrev Out:Type:=ab×ah
def va (s:ab)(w:List Acc×Option Int)(id:Int):Out:=match w.2 with|some c=>(s,(c,0))|none=>((w.1,s.2),(0,id))
def zJ (s:ab)(r:ae):Out:=if 64<=(s.1.length:Int)then(s,(7,0))else((s.1++[(r.2.2.1,0,0)],s.2),(0,(s.1.length:Int)))
def vu (s:ab)(f t n:Int):Out:=match(bJ s.1 f t n).2 with|some c=>(s,(c,0))|none=>va s (gm s.1 (bJ s.1 f t n).1) 0
def depF (s:ab)(r:ae):Out:=if cli s r.2.2.1 then vu s (numV 0 (acAt s.1 r.2.2.1).1) r.2.2.1 r.2.2.2.2.1 else(s,(2,0))
def trF (s:ab)(r:ae):Out:=if cli s r.2.2.1/\cli s r.2.2.2.1 then vu s r.2.2.1 r.2.2.2.1 r.2.2.2.2.1 else(s,(2,0))
def A4 (s:ab)(r:ae):Out:=
 if cli s r.2.2.1/\cli s r.2.2.2.1 then
  (if r.2.2.1=r.2.2.2.1\/r.2.2.2.2.2.2<=s.2.2.2.2 then(s,(1,0))
   else if 64<=(s.2.1.length:Int)then(s,(7,0))
   else match(fM s.1 r.2.2.1 r.2.2.2.2.1).2 with
    |some c=>(s,(c,0))
    |none=>(((fM s.1 r.2.2.1 r.2.2.2.2.1).1,s.2.1++[(r.2.2.1,r.2.2.2.1,r.2.2.2.2.1,0,0,0,r.2.2.2.2.2.2,0)],s.2.2),(0,(s.2.1.length:Int))))
 else(s,(2,0))
def zU (p:ag):Int:=if p.2.2.2.2.2.2.2=0 then w64 (p.2.2.1-p.2.2.2.1)else 0
def Af (p:ag):Int:=w64 (w64 (p.2.2.2.1-p.2.2.2.2.1)-p.2.2.2.2.2.1)
def dW (op:Int)(p:ag)(n:Int):ag×Bool:=
 if op=4 then((if w64 (p.2.2.2.1+n)=p.2.2.1 then(p.1,p.2.1,p.2.2.1,w64 (p.2.2.2.1+n),p.2.2.2.2.1,p.2.2.2.2.2.1,p.2.2.2.2.2.2.1,1)else(p.1,p.2.1,p.2.2.1,w64 (p.2.2.2.1+n),p.2.2.2.2)),decide (n<=zU p))
 else if op=6 then((p.1,p.2.1,p.2.2.1,p.2.2.2.1,w64 (p.2.2.2.2.1+n),p.2.2.2.2.2),decide (n<=Af p))
 else if op=7 then((p.1,p.2.1,p.2.2.1,p.2.2.2.1,p.2.2.2.2.1,w64 (p.2.2.2.2.2.1+n),p.2.2.2.2.2.2),decide (n<=Af p))
 else((p.1,p.2.1,p.2.2.1,p.2.2.2.1,p.2.2.2.2.1,p.2.2.2.2.2.1,p.2.2.2.2.2.2.1,1),decide (p.2.2.2.2.2.2.2=0))
def lP (op:Int)(p:ag)(n:Int):ag×Option Int:=
 if op≠5/\n<1 then(zP,some 1)else if(dW op p n).2=true then((dW op p n).1,none)else(zP,some 6)
def pAt (s:ab)(i:Int):ag:=s.2.1.getD (Int.toNat i) zP
def bM (s:ab)(op:Int)(r:ae):ag×ag×Option Int:=
 if r.2.2.1<0\/(s.2.1.length:Int)<=r.2.2.1 then(zP,zP,some 2)
 else(pAt s r.2.2.1,(lP op (pAt s r.2.2.1) r.2.2.2.2.1).1,(lP op (pAt s r.2.2.1) r.2.2.2.2.1).2)
def payF (s:ab)(i:Int)(q:ag)(w:List Acc×Option Int):Out:=match w.2 with|some c=>(s,(c,0))|none=>((w.1,s.2.1.set (Int.toNat i) q,s.2.2),(0,0))
def capF (s:ab)(r:ae):Out:=
 match(bM s 4 r).2.2 with
 |some c=>(s,(c,0))
 |none=>match(bJ s.1 (bM s 4 r).1.1 (bM s 4 r).1.2.1 r.2.2.2.2.1).2 with
  |some c=>(s,(c,0))
  |none=>payF s r.2.2.1 (bM s 4 r).2.1 (eG s.1 r.2.2.2.2.1 (bJ s.1 (bM s 4 r).1.1 (bM s 4 r).1.2.1 r.2.2.2.2.1).1)
def zf (s:ab)(r:ae):Out:=
 match(bM s 5 r).2.2 with
 |some c=>(s,(c,0))
 |none=>payF s r.2.2.1 (bM s 5 r).2.1 (relF s.1 (bM s 5 r).1.1 (zU (bM s 5 r).1))
def oS (s:ab)(p:ag)(n:Int):List En×Option Int:=(back (bJ s.1 p.1 p.2.1 n).1,(bJ s.1 p.1 p.2.1 n).2)
def refF (s:ab)(r:ae):Out:=
 match(bM s 6 r).2.2 with
 |some c=>(s,(c,0))
 |none=>match(oS s (bM s 6 r).1 r.2.2.2.2.1).2 with
  |some c=>(s,(c,0))
  |none=>payF s r.2.2.1 (bM s 6 r).2.1 (gm s.1 (oS s (bM s 6 r).1 r.2.2.2.2.1).1)
def chgE (s:ab)(p:ag)(es:List En):List En:=
 if 0<w64 (w64 (0-(es.getD 0 (0,0)).2)-w64 ((acAt s.1 p.2.1).2.1-(acAt s.1 p.2.1).2.2))then
  es.set 0 ((es.getD 0 (0,0)).1,w64 ((es.getD 0 (0,0)).2+w64 (w64 (0-(es.getD 0 (0,0)).2)-w64 ((acAt s.1 p.2.1).2.1-(acAt s.1 p.2.1).2.2)))) ++
   [(numV 2 (acAt s.1 p.2.1).1,w64 (0-w64 (w64 (0-(es.getD 0 (0,0)).2)-w64 ((acAt s.1 p.2.1).2.1-(acAt s.1 p.2.1).2.2))))]
 else es
def chgF (s:ab)(r:ae):Out:=
 match(bM s 7 r).2.2 with
 |some c=>(s,(c,0))
 |none=>match(oS s (bM s 7 r).1 r.2.2.2.2.1).2 with
  |some c=>(s,(c,0))
  |none=>payF s r.2.2.1 (bM s 7 r).2.1 (gm s.1 (chgE s (bM s 7 r).1 (oS s (bM s 7 r).1 r.2.2.2.2.1).1))
def opsF (s:ab)(r:ae):Out:=
 if r.2.1=0 then zJ s r else if r.2.1=1 then depF s r else if r.2.1=2 then trF s r else if r.2.1=3 then A4 s r
 else if r.2.1=4 then capF s r else if r.2.1=5 then zf s r else if r.2.1=6 then refF s r else if r.2.1=7 then chgF s r else(s,(1,0))
abbrev Oute:Type:=ab×Option Int
def mB (s:ab)(w:List Acc×Option Int):Oute:=match w.2 with|some c=>(s,some c)|none=>((w.1,s.2),none)
def resF (s:ab)(r:ae):Oute:=
 if cli s r.2.2.1/\cli s r.2.2.2.1 then(match(bJ s.1 r.2.2.1 r.2.2.2.1 r.2.2.2.2.1).2 with
  |some c=>(s,some c)
  |none=>mB s (fM s.1 r.2.2.1 r.2.2.2.2.1))
 else(s,some 2)
def nQ (s:ab)(r:ae):Oute:=match(bJ s.1 r.2.2.1 r.2.2.2.1 r.2.2.2.2.1).2 with
  |some c=>(s,some c)
  |none=>mB s (eG s.1 r.2.2.2.2.1 (bJ s.1 r.2.2.1 r.2.2.2.1 r.2.2.2.2.1).1)
def C8 (s:ab)(r:ae):Oute:=mB s (relF s.1 r.2.2.1 r.2.2.2.2.1)
def sR:List Int->ab->ab
 |[],s=>s
 |k::l,s=>sR l (opsF s (0,5,k,0,0,0,0)).1
def nA (ps:List ag)(now:Int):List Int:=(fG ps).takeWhile λk=>!decide (now<(ps.getD (Int.toNat k) zP).2.2.2.2.2.2.1)
def sT (s:ab):ab:=if 1073741824<=s.2.2.2.2 then s else sR (nA s.2.1 (w64 (s.2.2.2.2+1))) (s.1,s.2.1,s.2.2.1,s.2.2.2.1,w64 (s.2.2.2.2+1))
def amtB (n:Int):Bool:=decide (1<=n/\n<=1099511627776)
def mayB (r:ae):Bool:=
 if r.1<0\/1073741824<=r.1\/r.2.2.2.2.2.1<0\/4<r.2.2.2.2.2.1\/r.2.2.2.2.2.2<0\/1073741824<r.2.2.2.2.2.2 then false
 else if 0<r.2.2.2.2.2.1/\r.2.1≠2 then false
 else if r.2.1=0 then decide (0<=r.2.2.1/\r.2.2.1<3)
 else if r.2.1=5 then true
 else if r.2.1=1\/r.2.1=2\/r.2.1=3\/r.2.1=4\/r.2.1=6\/r.2.1=7 then amtB r.2.2.2.2.1 else false
abbrev long (r:ae):Prop:=0<r.2.2.2.2.2.1/\r.2.1=2
def subF (s:ab)(r:ae):Out:=
 if mayB r=false then(s,(1,0))
 else if(askF s.2.2.2.1 r).2=true then(s,(askF s.2.2.2.1 r).1)
 else if long r/\16<=(s.2.2.1.length:Int)then(s,(7,0))
 else match(putF s.2.2.2.1 r).2 with
  |some c=>(s,(c,0))
  |none=>
   if long r then(match(resF s r).2 with
    |some c=>((s.1,s.2.1,s.2.2.1,(qm (putF s.2.2.2.1 r).1 r.1 (c,0)).1,s.2.2.2.2),(c,0))
    |none=>(((resF s r).1.1,(resF s r).1.2.1,(resF s r).1.2.2.1++[(r,0,0,0,0)],(putF s.2.2.2.1 r).1,(resF s r).1.2.2.2.2),(10,0)))
   else(((opsF s r).1.1,(opsF s r).1.2.1,(opsF s r).1.2.2.1,(qm (putF s.2.2.2.1 r).1 r.1 (opsF s r).2).1,(opsF s r).1.2.2.2.2),(opsF s r).2)
def fndG (key:Int)(gs:List aZ):Option Nat:=fndI key (gs.map λg=>g.1.1)
def endF (s:ab)(i:Nat)(o:ah):Out:=((s.1,s.2.1,s.2.2.1.take i++s.2.2.1.drop (i+1),(qm s.2.2.2.1 (s.2.2.1.getD i zG).1.1 o).1,s.2.2.2.2),o)
def legF (g:aZ)(ok:Bool):aZ:=
 if g.2.1=0/\¬ (g.1.2.2.2.2.2.1<=g.2.2.1)then
  (if ok=true then(g.1,g.2.1,w64 (g.2.2.1+1),0,g.2.2.2.2)
   else if 3<w64 (g.2.2.2.1+1)then(g.1,1,g.2.2.1,w64 (g.2.2.2.1+1),9)else(g.1,g.2.1,g.2.2.1,w64 (g.2.2.2.1+1),g.2.2.2.2))
 else g
def sS (g:aZ)(c:Int):aZ:=if g.2.1=0 then(g.1,1,g.2.2.1,g.2.2.2.1,c)else g
def putG (s:ab)(i:Nat)(g:aZ):Out:=((s.1,s.2.1,s.2.2.1.set i g,s.2.2.2),(10,0))
def qo (s:ab)(key:Int)(ok:Bool):Out:=
 match fndG key s.2.2.1 with
 |none=>(s,(2,0))
 |some i=>
  if(s.2.2.1.getD i zG).2.1=1 then endF (C8 s (s.2.2.1.getD i zG).1).1 i ((s.2.2.1.getD i zG).2.2.2.2,0)
  else if(s.2.2.1.getD i zG).2.1=0/\(s.2.2.1.getD i zG).1.2.2.2.2.2.1<=(s.2.2.1.getD i zG).2.2.1 then
   (match(nQ s (s.2.2.1.getD i zG).1).2 with
    |none=>endF (nQ s (s.2.2.1.getD i zG).1).1 i (0,0)
    |some c=>putG s i (sS (s.2.2.1.getD i zG) c))
  else putG s i (legF (s.2.2.1.getD i zG) ok)
def doF (s:ab)(e:au):Out:=
 if e.1=0 then subF s e.2.1 else if e.1=1 then qo s e.2.2.1 e.2.2.2 else if e.1=2 then(sT s,(0,0))else(s,(1,0))
def code (e:Option Int):Prop:=∀c,e=some c->1<=c/\c<=13/\c≠8/\c≠12
theorem gW:code none:=λc h=>by cases h
theorem bX {n:Int}(h:1<=n/\n<=13/\n≠8/\n≠12):code (some n):=λc e=>by cases e;exact h
theorem eB (ac:List Acc)(f t n:Int):code (bJ ac f t n).2:=by
 unfold bJ;split
 ·split
  ·exact bX (by omega)
  ·split
   ·exact gW
   ·split
    ·exact bX (by omega)
    ·split
     ·exact bX (by omega)
     ·exact gW
 ·exact bX (by omega)
theorem sD (ac:List Acc)(n a:Int):code (fM ac n a).2:=by
 unfold fM;split
 ·split
  ·split
   ·exact bX (by omega)
   ·exact gW
  ·exact bX (by omega)
 ·exact bX (by omega)
theorem qg (ac:List Acc)(n a:Int):code (relF ac n a).2:=by
 unfold relF;split
 ·split
  ·split
   ·exact bX (by omega)
   ·exact gW
  ·exact bX (by omega)
 ·exact bX (by omega)
theorem jl (ac:List Acc)(es:List En):code (gm ac es).2:=by
 rw[qJ];cases balF ac es (0,0,0)with
 |false=>exact bX (by omega)
 |true=>
  show code (finP (runF ac es)).2;cases runF ac es with
  |none=>exact bX (by omega)
  |some o=>
   unfold finP;dsimp only;cases ym (o.drop 9)with
   |true=>exact gW
   |false=>exact bX (by omega)
theorem oR (ac:List Acc)(a:Int)(es:List En):code (eG ac a es).2:=by
 unfold eG;cases es with
 |nil=>exact bX (by omega)
 |cons e r=>
  dsimp only;have hc:=qg ac e.1 a;generalize relF ac e.1 a=w at hc;obtain⟨o,g⟩:=w;cases g with
  |none=>exact jl o (e::r)
  |some c=>exact hc
theorem w9 {ac:List Acc}(h:Rt ac){a:Int}{es:List En}(hn:(eG ac a es).2=none):Rt (eG ac a es).1/\(eG ac a es).1.length=ac.length:=by
 unfold eG at hn ⊢;cases es with
 |nil=>cases hn
 |cons e r=>
  dsimp only at hn ⊢;have hr:=qC h (n:=e.1) (a:=a);generalize relF ac e.1 a=w at hr hn;obtain⟨o,g⟩:=w;cases g with
  |some c=>cases hn
  |none=>
   have h1:=hr rfl;have h2:=mM h1.1 hn;exact⟨h2.2.2.1,h2.2.2.2.trans h1.2⟩
def payR (p:ag):Prop:=(1<=p.2.2.1/\p.2.2.1<=1099511627776)/\(0<=p.2.2.2.1/\p.2.2.2.1<=p.2.2.1)/\0<=p.2.2.2.2.1/\0<=p.2.2.2.2.2.1/\p.2.2.2.2.1+p.2.2.2.2.2.1<=p.2.2.2.1/\(0<=p.2.2.2.2.2.2.1/\p.2.2.2.2.2.2.1<=1073741824)/\(p.2.2.2.2.2.2.2=0\/p.2.2.2.2.2.2.2=1)
structure sQ (n:Nat)(p:ag):Prop where
 from_:9<=p.1/\p.1<(n:Int)
 to_:9<=p.2.1/\p.2.1<(n:Int)
 i64:I64 (payL p)
 right:payR p
structure Op (s t:ab):Prop where
 rest:t.2.2=s.2.2
 rt:Rt t.1
 pl:t.2.1.length<=64
 ps:∀p∈t.2.1,sQ t.1.length p
 ac:s.1.length<=t.1.length
def okO (o:ah):Prop:=(0<=o.1/\o.1<=13)/\(0<=o.2/\o.2<=64)/\o.1≠8/\o.1≠12
theorem mO {n:Int}(h:0<=n/\n<=64):okO (0,n):=⟨⟨Qv _,by show(0:Int)<=13;omega⟩,h,by show(0:Int)≠8;omega,by show(0:Int)≠12;omega⟩
theorem lK {c:Int}(h:1<=c/\c<=13/\c≠8/\c≠12):okO (c,0):=⟨⟨by show 0<=c;omega,h.2.1⟩,⟨by show(0:Int)<=0;omega,by show(0:Int)<=64;omega⟩,h.2.2⟩
theorem sQ.mono {n m:Nat}{p:ag}(h:sQ n p)(hm:n<=m):sQ m p:=⟨⟨h.from_.1,by have:=h.from_.2;omega⟩,⟨h.to_.1,by have:=h.to_.2;omega⟩,h.i64,h.right⟩
theorem gp {s:ab}(h:Op s s){e:Option Int}(hc:code e){c:Int}(he:e=some c):Op s s/\okO (c,0):=⟨h,lK (hc c he)⟩
theorem qL {s:ab}(h:Op s s){c:Int}(hc:1<=c/\c<=13/\c≠8/\c≠12):Op s s/\okO (c,0):=⟨h,lK hc⟩
theorem Fa {s:ab}(h:Op s s){ac:List Acc}(hr:Rt ac)(hl:s.1.length<=ac.length):Op s (ac,s.2):=
 ⟨rfl,hr,h.pl,λp hp=>(h.ps p hp).mono hl,hl⟩
theorem J8 {s:ab}(h:Op s s){w:List Acc×Option Int}(hw:w.2=none->Rt w.1/\w.1.length=s.1.length)(hc:code w.2){id:Int}(hid:0<=id/\id<=64):Op s (va s w id).1/\okO (va s w id).2:=by
 unfold va;obtain⟨ac,e⟩:=w;cases e with
 |some c=>exact gp h hc rfl
 |none=>exact⟨Fa h (hw rfl).1 (by rw[(hw rfl).2];exact NG _),mO hid⟩
theorem Kl {ac:List Acc}(h:Rt ac)(hl:ac.length<64){c:Int}(hc:0<=c/\c<=2):Rt (ac++[(c,0,0)]):=by
 have lo:=h.lo;refine⟨by rw[Ny];omega,by rw[Ny];simp;omega,λk hk=>?_,λd=>?_⟩
 ·rw[List.getElem_append];split
  ·rename_i h1;exact h.ok k h1
  ·rename_i h1;simp only[List.getElem_singleton];refine⟨hc.1,hc.2,by simp,by simp,λh9=>by omega,λ_=>by simp⟩
 ·rw[zm,h.sum d];simp[sums,cur]
theorem KE {s:ab}(h:Op s s)(r:ae)(hr:0<=r.2.2.1/\r.2.2.1<=2):Op s (zJ s r).1/\okO (zJ s r).2:=by
 unfold zJ;split
 ·exact qL h (by omega)
 ·rename_i h1;exact⟨Fa h (Kl h.rt (by omega) hr) (by rw[Ny];omega),mO (by omega)⟩
theorem E4 {s:ab}(h:Op s s)(f t n:Int):Op s (vu s f t n).1/\okO (vu s f t n).2:=by
 unfold vu;have hc:=eB s.1 f t n;cases hm:(bJ s.1 f t n).2 with
 |some c=>exact gp h hc hm
 |none=>exact J8 h (λhn=>(mM h.rt hn).2.2) (jl _ _) ⟨by omega,by omega⟩
theorem Mt {s:ab}(h:Op s s)(r:ae):Op s (depF s r).1/\okO (depF s r).2:=by
 unfold depF;split
 ·exact E4 h _ _ _
 ·exact qL h (by omega)
theorem M7 {s:ab}(h:Op s s)(r:ae):Op s (trF s r).1/\okO (trF s r).2:=by
 unfold trF;split
 ·exact E4 h _ _ _
 ·exact qL h (by omega)
theorem Lo {s:ab}(h:Op s s)(r:ae)(hr:I64 (rqL r))(ha:(1<=r.2.2.2.2.1/\r.2.2.2.2.1<=1099511627776)/\0<=r.2.2.2.2.2.2/\r.2.2.2.2.2.2<=1073741824):Op s (A4 s r).1/\okO (A4 s r).2:=by
 unfold A4;split
 ·rename_i h1;split
  ·exact qL h (by omega)
  ·split
   ·exact qL h (by omega)
   ·rename_i h3;have hc:=sD s.1 r.2.2.1 r.2.2.2.2.1;have hrt:=B5 h.rt (n:=r.2.2.1) (a:=r.2.2.2.2.1);cases hh:(fM s.1 r.2.2.1 r.2.2.2.2.1).2 with
    |some c=>exact gp h hc hh
    |none=>
     obtain⟨q1,q2⟩:=hrt hh;refine⟨⟨rfl,q1,?_,λp hp=>?_,by dsimp only;rw[q2];exact NG _⟩,mO (by omega)⟩
     ·dsimp only;rw[Ny];simp only[NC,NL];omega
     ·dsimp only at hp ⊢;rw[q2];rcases NU.1 hp with hp|hp
      ·exact h.ps p hp
      ·rw[N5]at hp;subst hp;refine⟨h1.1,h1.2,?_,⟨ha.1,⟨by simp,by show(0:Int)<=r.2.2.2.2.1;omega⟩,by simp,by simp,by simp,ha.2,.inl rfl⟩⟩;simp only[rqL,I64,NO,Oc,ON,OF,Pg]at hr;simp only[payL,I64,NO,Oc,ON,OF,Pg];omega
 ·exact qL h (by omega)
theorem Ei (n:Int):-9223372036854775808<=w64 n/\w64 n<=9223372036854775807:=by
 obtain⟨q,_,h1,h2⟩:=jq n;omega
theorem HZ {n:Nat}{p:ag}(h:sQ n p)(op a:Int)(hn:op≠5->1<=a)(ht:(dW op p a).2=true):sQ n (dW op p a).1:=by
 have hi:=h.i64;have hr:=h.right;unfold payR at hr;simp only[payL,I64,NO,Oc,ON,OF,Pg]at hi;unfold dW at ht ⊢;split
 ·rename_i h4;rw[NI h4]at ht;have ht:=PT ht;unfold zU at ht;have ha:=hn (by omega);split at ht
  ·rename_i h0;rw[aL (by omega)]at ht;have e:w64 (p.2.2.2.1+a)=p.2.2.2.1+a:=aL (by omega);rw[e];dsimp only;split
   ·refine⟨h.from_,h.to_,?_,?_⟩
    ·simp only[payL,I64,NO,Oc,ON,OF,Pg];omega
    ·unfold payR;dsimp only;omega
   ·refine⟨h.from_,h.to_,?_,?_⟩
    ·simp only[payL,I64,NO,Oc,ON,OF,Pg];omega
    ·unfold payR;dsimp only;omega
  ·omega
 ·rename_i h4;rw[ND h4]at ht;have hg:Af p=p.2.2.2.1-p.2.2.2.2.1-p.2.2.2.2.2.1:=by
   unfold Af;rw[aL (x:=p.2.2.2.1-p.2.2.2.2.1) (by omega),aL (by omega)]
  split
  ·rename_i h6;rw[NI h6]at ht;have ht:=PT ht;have ha:=hn (by omega);rw[hg]at ht;have e:w64 (p.2.2.2.2.1+a)=p.2.2.2.2.1+a:=aL (by omega);rw[e];refine⟨h.from_,h.to_,?_,?_⟩
   ·simp only[payL,I64,NO,Oc,ON,OF,Pg];omega
   ·unfold payR;dsimp only;omega
  ·rename_i h6;rw[ND h6]at ht;split
   ·rename_i h7;rw[NI h7]at ht;have ht:=PT ht;have ha:=hn (by omega);rw[hg]at ht;have e:w64 (p.2.2.2.2.2.1+a)=p.2.2.2.2.2.1+a:=aL (by omega);rw[e];refine⟨h.from_,h.to_,?_,?_⟩
    ·simp only[payL,I64,NO,Oc,ON,OF,Pg];omega
    ·unfold payR;dsimp only;omega
   ·refine⟨h.from_,h.to_,?_,?_⟩
    ·simp only[payL,I64,NO,Oc,ON,OF,Pg];omega
    ·unfold payR;dsimp only;omega
theorem D6 (op:Int)(p:ag)(n:Int):code (lP op p n).2:=by
 unfold lP;split
 ·exact bX (by omega)
 ·split
  ·exact gW
  ·exact bX (by omega)
theorem KD {s:ab}{i:Int}(h:¬ (i<0\/(s.2.1.length:Int)<=i)):pAt s i∈s.2.1:=by
 obtain⟨n,rfl⟩:=Oj (show 0<=i by omega);unfold pAt;rw[NQ,bc s.2.1 n _ (by omega)];exact N8 _
theorem kZ {s:ab}(h:Op s s)(op:Int)(r:ae):code (bM s op r).2.2/\((bM s op r).2.2=none->sQ s.1.length (bM s op r).1/\sQ s.1.length (bM s op r).2.1):=by
 unfold bM;split
 ·exact⟨bX (by omega),λhn=>by cases hn⟩
 ·rename_i h1;refine⟨D6 _ _ _,λhn=>?_⟩;have hp:=h.ps _ (KD h1);refine⟨hp,?_⟩;dsimp only at hn ⊢;unfold lP at hn ⊢;split at hn
  ·cases hn
  ·rename_i h2;split at hn
   ·rename_i h3;rw[ND h2,NI h3];exact HZ hp _ _ (λh5=>by omega) h3
   ·cases hn
theorem BF {s:ab}(h:Op s s)(i:Int){q:ag}(hq:sQ s.1.length q){w:List Acc×Option Int}(hw:w.2=none->Rt w.1/\w.1.length=s.1.length)(hc:code w.2):Op s (payF s i q w).1/\okO (payF s i q w).2:=by
 unfold payF;obtain⟨ac,e⟩:=w;cases e with
 |some c=>exact gp h hc rfl
 |none=>
  obtain⟨q1,q2⟩:=hw rfl;dsimp only at q1 q2 ⊢;refine⟨⟨rfl,q1,by dsimp only;rw[NA];exact h.pl,λp hp=>?_,by dsimp only;rw[q2];exact NG _⟩,mO (by omega)⟩;dsimp only at hp ⊢;rw[q2];rcases OD hp with hp|hp
  ·exact h.ps p hp
  ·rw[hp];exact hq
theorem ME {s:ab}(h:Op s s)(r:ae):Op s (capF s r).1/\okO (capF s r).2:=by
 unfold capF;obtain⟨hc,hb⟩:=kZ h 4 r;cases hn:(bM s 4 r).2.2 with
 |some c=>exact gp h hc hn
 |none=>
  have hm:=eB s.1 (bM s 4 r).1.1 (bM s 4 r).1.2.1 r.2.2.2.2.1;dsimp only;split
  ·rename_i c he;exact gp h hm he
  ·exact BF h _ (hb hn).2 (λhn=>w9 h.rt hn) (oR _ _ _)
theorem JZ {s:ab}(h:Op s s)(r:ae):Op s (zf s r).1/\okO (zf s r).2:=by
 unfold zf;obtain⟨hc,hb⟩:=kZ h 5 r;cases hn:(bM s 5 r).2.2 with
 |some c=>exact gp h hc hn
 |none=>exact BF h _ (hb hn).2 (λhn=>qC h.rt hn) (qg _ _ _)
theorem LN {s:ab}(h:Op s s)(r:ae):Op s (refF s r).1/\okO (refF s r).2:=by
 unfold refF;obtain⟨hc,hb⟩:=kZ h 6 r;cases hn:(bM s 6 r).2.2 with
 |some c=>exact gp h hc hn
 |none=>
  have hm:=eB s.1 (bM s 6 r).1.1 (bM s 6 r).1.2.1 r.2.2.2.2.1;dsimp only;split
  ·rename_i c he;exact gp h hm he
  ·exact BF h _ (hb hn).2 (λhn=>(mM h.rt hn).2.2) (jl _ _)
theorem MC {s:ab}(h:Op s s)(r:ae):Op s (chgF s r).1/\okO (chgF s r).2:=by
 unfold chgF;obtain⟨hc,hb⟩:=kZ h 7 r;cases hn:(bM s 7 r).2.2 with
 |some c=>exact gp h hc hn
 |none=>
  have hm:=eB s.1 (bM s 7 r).1.1 (bM s 7 r).1.2.1 r.2.2.2.2.1;dsimp only;split
  ·rename_i c he;exact gp h hm he
  ·exact BF h _ (hb hn).2 (λhn=>(mM h.rt hn).2.2) (jl _ _)
theorem tX {s:ab}(h:Op s s)(r:ae)(hi:r.2.1=3->I64 (rqL r)/\(1<=r.2.2.2.2.1/\r.2.2.2.2.1<=1099511627776)/\0<=r.2.2.2.2.2.2/\r.2.2.2.2.2.2<=1073741824)(hr:r.2.1=0->0<=r.2.2.1/\r.2.2.1<=2):Op s (opsF s r).1/\okO (opsF s r).2:=by
 unfold opsF;split
 ·rename_i h0;exact KE h r (hr h0)
 split
 ·exact Mt h r
 split
 ·exact M7 h r
 split
 ·rename_i h3;exact Lo h r (hi h3).1 (hi h3).2
 split
 ·exact ME h r
 split
 ·exact JZ h r
 split
 ·exact LN h r
 split
 ·exact MC h r
 ·exact qL h (by omega)
theorem ze {s:ab}(h:Op s s){w:List Acc×Option Int}(hw:w.2=none->Rt w.1/\w.1.length=s.1.length)(hc:code w.2):Op s (mB s w).1/\code (mB s w).2/\((mB s w).2≠none->(mB s w).1=s):=by
 unfold mB;obtain⟨ac,e⟩:=w;cases e with
 |some c=>exact⟨h,hc,λ_=>rfl⟩
 |none=>exact⟨Fa h (hw rfl).1 (by rw[(hw rfl).2];exact NG _),gW,λhn=>(hn rfl).elim⟩
theorem Bv {s:ab}(h:Op s s)(r:ae):Op s (resF s r).1/\code (resF s r).2:=by
 unfold resF;split
 ·split
  ·rename_i c he;exact⟨h,by have:=eB s.1 r.2.2.1 r.2.2.2.1 r.2.2.2.2.1;rw[he]at this;exact this⟩
  ·have:=ze h (w:=fM s.1 r.2.2.1 r.2.2.2.2.1) (λhn=>B5 h.rt hn) (sD _ _ _);exact⟨this.1,this.2.1⟩
 ·exact⟨h,bX (by omega)⟩
theorem qp {s:ab}(h:Op s s)(r:ae):Op s (nQ s r).1/\code (nQ s r).2:=by
 unfold nQ;split
 ·rename_i c he;exact⟨h,by have:=eB s.1 r.2.2.1 r.2.2.2.1 r.2.2.2.2.1;rw[he]at this;exact this⟩
 ·have:=ze h (w:=eG s.1 r.2.2.2.2.1 (bJ s.1 r.2.2.1 r.2.2.2.1 r.2.2.2.2.1).1) (λhn=>w9 h.rt hn) (oR _ _ _);exact⟨this.1,this.2.1⟩
theorem u4 {s:ab}(h:Op s s)(r:ae):Op s (C8 s r).1/\code (C8 s r).2:=by
 have:=ze h (w:=relF s.1 r.2.2.1 r.2.2.2.2.1) (λhn=>qC h.rt hn) (qg _ _ _);exact⟨this.1,this.2.1⟩
end Go.Eng.Top
namespace Go.Eng.Top
open Go.RowKit Go.Eng Go.Eng.LVar Go.Eng.LChart Go.Eng.LEnt
set_option maxRecDepth 100000
theorem Op.self {s t:ab}(h:Op s t):Op t t:=⟨rfl,h.rt,h.pl,h.ps,NG _⟩
theorem Op.trans {s t u:ab}(h:Op s t)(k:Op t u):Op s u:=⟨k.rest.trans h.rest,k.rt,k.pl,k.ps,Oa h.ac k.ac⟩
def sagR (g:aZ):Prop:=(0<=g.2.2.1/\g.2.2.1<=g.1.2.2.2.2.2.1)/\(0<=g.2.2.2.1/\g.2.2.2.1<=4)/\((g.2.1=0/\g.2.2.2.2=0/\g.2.2.2.1<=3/\(g.2.2.2.1=0\/g.2.2.1<g.1.2.2.2.2.2.1))\/(g.2.1=1/\1<=g.2.2.2.2/\g.2.2.2.2<=13/\g.2.2.2.2≠8/\g.2.2.2.2≠12))
structure Inv (s:ab):Prop where
 op:Op s s
 gl:s.2.2.1.length<=16
 gs:∀g∈s.2.2.1,I64 (sagL g)
 kl:s.2.2.2.1.length<=256
 ks:∀k∈s.2.2.2.1,I64 (knL k)
 now:0<=s.2.2.2.2/\s.2.2.2.2<=1073741824
 gk:∀g∈s.2.2.1,∃i,fnd g.1.1 s.2.2.2.1=some i/\(s.2.2.2.1.getD i d0).2.2=false
 gd:(s.2.2.1.map λg=>g.1.1).Nodup
 gr:∀g∈s.2.2.1,mayB g.1=true/\sagR g
 kr:∀k∈s.2.2.2.1,mayB k.1=true/\okO k.2.1
theorem fp {α:Type}{f:α->List Int}{l:List α}(h:∀x∈l,I64 (f x)):I64 (l.flatMap f):=by
 intro x hx;obtain⟨a,ha,hx⟩:=Oe.1 hx;exact h a ha x hx
theorem Js {ac:List Acc}(h:Rt ac):∀a∈ac,I64 (acL a):=by
 intro a ha;obtain⟨k,hk,rfl⟩:=Qr ha;obtain⟨h1,h2,h3,h4,h5,h6⟩:=h.ok k hk;simp only[acL,I64,NO,Oc,ON,OF,Pg];by_cases h9:k<9
 ·have:=h5 h9;omega
 ·have:=h6 (by omega);omega
theorem Inv.st {s:ab}(h:Inv s):StOk s where
 now:=by have:=h.now;omega
 ac:=fp (Js h.op.rt)
 acl:=by have:=h.op.rt.hi;omega
 ps:=fp λp hp=>(h.op.ps p hp).i64
 psl:=by have:=h.op.pl;omega
 gs:=fp h.gs
 gsl:=by have:=h.gl;omega
 ks:=fp h.ks
 ksl:=by have:=h.kl;omega
theorem wP (ks:List aI)(r:ae):(askF ks r).2=(fnd r.1 ks).isSome:=by
 unfold askF;cases fnd r.1 ks with
 |none=>rfl
 |some i=>
  dsimp only;split
  ·split<;>rfl
  ·rfl
theorem vo {ks:List aI}{r:ae}(hf:fnd r.1 ks=none):putF ks r=if 256<=ks.length then([],some 7)else(ks++[(r,(0,0),false)],none):=by
 unfold putF;rw[hf]
theorem iN {ks:List aI}{r:ae}(hf:fnd r.1 ks=none)(o:ah):qm (ks++[(r,(0,0),false)]) r.1 o=(ks++[(r,o,true)],none):=by
 unfold qm;rw[kU,hf];simp only[O8];rw[nt];simp only[Od,OE];rw[HE]
theorem u7 {ks:List aI}{key:Int}{i:Nat}(hf:fnd key ks=some i)(ht:(ks.getD i d0).2.2=false)(o:ah):qm ks key o=(ks.set i ((ks.getD i d0).1,o,true),none):=by
 unfold qm;rw[hf];dsimp only;rw[ht,ND (by simp)]
def EB (s:ab)(r:ae):Prop:=mayB r=false\/(fnd r.1 s.2.2.2.1).isSome=true
theorem B3 {r:ae}{o:ah}{b:Bool}(hr:I64 (rqL r))(h1:-9223372036854775808<=o.1/\o.1<=9223372036854775807)(h2:-9223372036854775808<=o.2/\o.2<=9223372036854775807):I64 (knL (r,o,b)):=by
 unfold knL;refine cN.2 ⟨hr,cN.2 ⟨aY.2 ⟨h1,aY.2 ⟨h2,by simp[I64]⟩⟩,?_⟩⟩;cases b<;>simp[I64]
def xU (s t:ab):Prop:=∃l,cg t.2.2.2.1=cg s.2.2.2.1++l
theorem dS (s:ab):xU s s:=⟨[],(Oq _).symm⟩
theorem JH {gs:List aZ}{ks:List aI}(kn:aI)(h:∀g∈gs,∃i,fnd g.1.1 ks=some i/\(ks.getD i d0).2.2=false):∀g∈gs,∃i,fnd g.1.1 (ks++[kn])=some i/\((ks++[kn]).getD i d0).2.2=false:=by
 intro g hg;obtain⟨i,h1,h2⟩:=h g hg;obtain⟨h3,_⟩:=eu h1;exact⟨i,by rw[kU,h1],by rw[bN _ _ _ h3];exact h2⟩
theorem FI {s t:ab}(h:Inv s)(ht:Op s t)(kn:aI)(hk:I64 (knL kn))(hkr:mayB kn.1=true/\okO kn.2.1)(hl:¬ 256<=s.2.2.2.1.length):Inv (t.1,t.2.1,s.2.2.1,s.2.2.2.1++[kn],s.2.2.2.2) where
 op:=⟨rfl,ht.rt,ht.pl,ht.ps,NG _⟩
 gl:=h.gl
 gs:=h.gs
 kl:=by dsimp only;rw[Ny];simp only[NC,NL];omega
 ks:=λk hk2=>by
  dsimp only at hk2;rcases NU.1 hk2 with hk2|hk2
  ·exact h.ks k hk2
  ·rw[N5]at hk2;rw[hk2];exact hk
 now:=h.now
 gk:=JH kn h.gk
 gd:=h.gd
 gr:=h.gr
 kr:=λk hk2=>by
  dsimp only at hk2;rcases NU.1 hk2 with hk2|hk2
  ·exact h.kr k hk2
  ·rw[N5]at hk2;rw[hk2];exact hkr
theorem Io {r:ae}(hr:I64 (rqL r)):I64 (sagL (r,0,0,0,0)):=by
 unfold sagL;exact cN.2 ⟨hr,by simp[I64]⟩
theorem BP {r:ae}(h:mayB r=true):0<=r.2.2.2.2.2.1/\r.2.2.2.2.2.1<=4:=by
 unfold mayB at h;split at h
 ·cases h
 ·omega
theorem Il {s t:ab}(h:Inv s)(ht:Op s t)(r:ae)(hm:mayB r=true)(hr:I64 (rqL r))(hl:¬ 256<=s.2.2.2.1.length)(hg:¬ 16<=s.2.2.1.length)(hf:fnd r.1 s.2.2.2.1=none):Inv (t.1,t.2.1,s.2.2.1++[(r,0,0,0,0)],s.2.2.2.1++[(r,(0,0),false)],s.2.2.2.2) where
 op:=⟨rfl,ht.rt,ht.pl,ht.ps,NG _⟩
 gl:=by dsimp only;rw[Ny];simp only[NC,NL];omega
 gs:=λg hg2=>by
  dsimp only at hg2;rcases NU.1 hg2 with hg2|hg2
  ·exact h.gs g hg2
  ·rw[N5]at hg2;rw[hg2];exact Io hr
 kl:=by dsimp only;rw[Ny];simp only[NC,NL];omega
 ks:=λk hk2=>by
  dsimp only at hk2;rcases NU.1 hk2 with hk2|hk2
  ·exact h.ks k hk2
  ·rw[N5]at hk2;rw[hk2];exact B3 hr (by simp) (by simp)
 now:=h.now
 gk:=λg hg2=>by
  dsimp only at hg2 ⊢;rcases NU.1 hg2 with hg2|hg2
  ·exact JH _ h.gk g hg2
  ·rw[N5]at hg2;subst hg2;refine⟨s.2.2.2.1.length,?_,by rw[nt]⟩;rw[kU];dsimp only;rw[hf];simp
 gd:=by
  dsimp only;rw[Po,PS];refine⟨h.gd,by simp,?_⟩;intro a ha b hb;simp only[NV,OY,N5]at hb;obtain⟨g,hg3,rfl⟩:=N9.1 ha;obtain⟨i,h1,_⟩:=h.gk g hg3;intro e;rw[e,hb,hf]at h1;cases h1
 gr:=λg hg2=>by
  dsimp only at hg2;rcases NU.1 hg2 with hg2|hg2
  ·exact h.gr g hg2
  ·rw[N5]at hg2;subst hg2;have:=BP hm;exact⟨hm,⟨by simp,this.1⟩,⟨by simp,by simp⟩,.inl ⟨rfl,rfl,by simp,.inl rfl⟩⟩
 kr:=λk hk2=>by
  dsimp only at hk2;rcases NU.1 hk2 with hk2|hk2
  ·exact h.kr k hk2
  ·rw[N5]at hk2;rw[hk2];exact⟨hm,mO (by omega)⟩
theorem ou {r:ae}(h:mayB r=true):(0<=r.2.2.2.2.2.2/\r.2.2.2.2.2.2<=1073741824)/\(r.2.1=3->1<=r.2.2.2.2.1/\r.2.2.2.2.1<=1099511627776):=by
 unfold mayB at h;split at h
 ·cases h
 ·rename_i h0;refine⟨by omega,λh3=>?_⟩;split at h
  ·cases h
  ·rw[ND (by omega),ND (by omega),NI (by omega)]at h;exact PT h
theorem zO {r:ae}(h:mayB r≠false)(h0:r.2.1=0):0<=r.2.2.1/\r.2.2.1<=2:=by
 unfold mayB at h;split at h
 ·exact(h rfl).elim
 ·split at h
  ·exact(h rfl).elim
  ·have:=PT (by simpa using h:decide (0<=r.2.2.1/\r.2.2.1<3)=true);omega
theorem Kc {s:ab}(h:Inv s)(r:ae)(hr:I64 (rqL r)):Inv (subF s r).1/\xU s (subF s r).1/\((subF s r).2.1=7\/EB (subF s r).1 r):=by
 unfold subF;by_cases hm:mayB r=false
 ·rw[NI hm];exact⟨h,dS s,.inr (.inl hm)⟩
 rw[ND hm];have hmt:mayB r=true:=by cases hq:mayB r with|true=>rfl|false=>exact(hm hq).elim
 by_cases hk:(askF s.2.2.2.1 r).2=true
 ·rw[NI hk];rw[wP]at hk;exact⟨h,dS s,.inr (.inr hk)⟩
 rw[ND hk];have hf:fnd r.1 s.2.2.2.1=none:=by
  rw[wP]at hk;cases hf:fnd r.1 s.2.2.2.1 with
  |none=>rfl
  |some i=>rw[hf]at hk;simp at hk
 by_cases hl:long r/\16<=(s.2.2.1.length:Int)
 ·rw[NI hl];exact⟨h,dS s,.inl rfl⟩
 rw[ND hl,vo hf];by_cases h256:256<=s.2.2.2.1.length
 ·rw[NI h256];exact⟨h,dS s,.inl rfl⟩
 rw[ND h256];dsimp only;have hgr:∀(a:List Acc) (b:List ag) (c:List aZ) (d:Int) (kn:aI),xU s (a,b,c,s.2.2.2.1++[kn],d):=λa b c d kn=>⟨[kn.1.1],by unfold cg;simp⟩
 have hset:∀(a:List Acc) (b:List ag) (c:List aZ) (d:Int) (o:ah) (x:Bool),EB (a,b,c,s.2.2.2.1++[(r,o,x)],d) r:=λa b c d o x=>by
  refine .inr ?_;dsimp only;rw[kU,hf];simp
 by_cases hlo:long r
 ·rw[NI hlo];obtain⟨q1,q2⟩:=Bv h.op r;cases hc:(resF s r).2 with
  |some c=>
   dsimp only;rw[iN hf];have:=q2 c hc;exact⟨FI h h.op _ (B3 hr (by dsimp only;omega) (by dsimp only;omega)) ⟨hmt,lK this⟩ h256,hgr _ _ _ _ _,.inr (hset _ _ _ _ _ _)⟩
  |none=>
   dsimp only;have e1:(resF s r).1.2.2.1=s.2.2.1:=by rw[q1.rest]
   have e2:(resF s r).1.2.2.2.2=s.2.2.2.2:=by rw[q1.rest]
   rw[e1,e2];exact⟨Il h q1 r hmt hr h256 (by omega) hf,hgr _ _ _ _ _,.inr (hset _ _ _ _ _ _)⟩
 ·rw[ND hlo];obtain⟨q1,q2⟩:=tX h.op r (λh3=>⟨hr,(ou hmt).2 h3,(ou hmt).1⟩) (zO hm);have e1:(opsF s r).1.2.2.1=s.2.2.1:=by rw[q1.rest]
  have e2:(opsF s r).1.2.2.2.2=s.2.2.2.2:=by rw[q1.rest]
  rw[iN hf,e1,e2];obtain⟨⟨o1,o2⟩,⟨o3,o4⟩,o5⟩:=id q2;exact⟨FI h q1 _ (B3 hr (by omega) (by omega)) ⟨hmt,q2⟩ h256,hgr _ _ _ _ _,.inr (hset _ _ _ _ _ _)⟩
theorem HC {α:Type}(l:List α)(i:Nat)(h:i<l.length):l=l.take i++l[i]::l.drop (i+1):=by
 rw[<- Ob h,Qg]
theorem FJ {s t:ab}(h:Inv s)(ht:Op s t)(i:Nat)(hi:i<s.2.2.1.length)(o:ah)(ho:okO o):Inv (endF t i o).1/\xU s (endF t i o).1:=by
 obtain⟨tr⟩:=ht;rename_i hrt hpl hps hac;have h1:-9223372036854775808<=o.1/\o.1<=9223372036854775807:=by have:=ho.1;omega
 have h2:-9223372036854775808<=o.2/\o.2<=9223372036854775807:=by have:=ho.2.1;omega
 unfold endF;dsimp only;have e1:t.2.2.1=s.2.2.1:=by rw[tr]
 have e2:t.2.2.2.1=s.2.2.2.1:=by rw[tr]
 have e3:t.2.2.2.2=s.2.2.2.2:=by rw[tr]
 rw[e1,e2,e3,bc s.2.2.1 i zG hi];have hsp:=HC s.2.2.1 i hi;have hmem:∀g,g∈s.2.2.1.take i++s.2.2.1.drop (i+1)->g∈s.2.2.1:=by
  intro g hg;rcases NU.1 hg with hg|hg
  ·exact Pa hg
  ·exact Ql hg
 obtain⟨j,f1,f2⟩:=h.gk _ (N8 hi);obtain⟨hj,hjk⟩:=eu f1;rw[u7 f1 f2];have hnd:=h.gd;rw[hsp,Po,NV,PS]at hnd;obtain⟨n1,n2,n3⟩:=hnd;rw[Pn]at n2;have hne:∀g,g∈s.2.2.1.take i++s.2.2.1.drop (i+1)->g.1.1≠(s.2.2.1[i]).1.1:=by
  intro g hg e;rcases NU.1 hg with hg|hg
  ·exact n3 _ (N9.2 ⟨g,hg,rfl⟩) _ (Om ..) e
  ·exact n2.1 (e ▸ N9.2 ⟨g,hg,rfl⟩)
 have hko:cg (s.2.2.2.1.set j ((s.2.2.2.1.getD j d0).1,o,true))=cg s.2.2.2.1:=oA _ _ _ hj (by rw[bc _ _ _ hj]);refine⟨⟨⟨rfl,hrt,hpl,hps,NG _⟩,?_,λg hg=>h.gs g (hmem g hg),?_,?_,h.now,?_,?_,λg hg=>h.gr g (hmem g hg),λk hk=>?_⟩,⟨[],by dsimp only;rw[hko,Oq]⟩⟩
 ·dsimp only;have:=h.gl;rw[Ny,OA,OT];omega
 ·dsimp only;rw[NA];exact h.kl
 ·intro k hk;dsimp only at hk;rcases OD hk with hk|hk
  ·exact h.ks k hk
  ·subst hk;have:=h.ks _ (N8 hj);unfold knL at this;rw[bc _ _ _ hj];exact B3 (cN.1 this).1 h1 h2
 ·intro g hg;dsimp only at hg ⊢;obtain⟨j2,g1,g2⟩:=h.gk g (hmem g hg);have hjj:j≠j2:=by
   intro e;subst e;obtain⟨_,hk2⟩:=eu g1;exact hne g hg (hk2.symm.trans hjk)
  refine⟨j2,?_,by rw[getD_set_ne _ _ _ hjj];exact g2⟩;unfold fnd at g1 ⊢;rw[hko];exact g1
 ·dsimp only;rw[Po,PS];exact⟨n1,n2.2,λa ha b hb=>n3 a ha b (NW _ hb)⟩
 ·dsimp only at hk;rcases OD hk with hk|hk
  ·exact h.kr k hk
  ·subst hk;rw[bc _ _ _ hj];exact⟨(h.kr _ (N8 hj)).1,ho⟩
theorem B1 {s:ab}(h:Inv s)(i:Nat)(hi:i<s.2.2.1.length)(g:aZ)(hg:I64 (sagL g))(hk:g.1=(s.2.2.1[i]).1)(hgr:sagR g):Inv (putG s i g).1/\xU s (putG s i g).1:=by
 have hm:(s.2.2.1.set i g).map (λg=>g.1.1)=s.2.2.1.map λg=>g.1.1:=by
  rw[Rh,hk];have:(s.2.2.1[i]).1.1=(s.2.2.1.map λg=>g.1.1)[i]'(by rw[OC];exact hi):=by rw[QN]
  rw[this,PA]
 refine⟨⟨⟨rfl,h.op.rt,h.op.pl,h.op.ps,NG _⟩,by show(s.2.2.1.set i g).length<=16;rw[NA];exact h.gl,?_,h.kl,h.ks,h.now,?_,by show((s.2.2.1.set i g).map _).Nodup;rw[hm];exact h.gd,?_,h.kr⟩,dS s⟩
 ·intro x hx;rcases OD (show x∈s.2.2.1.set i g from hx)with hx|hx
  ·exact h.gs x hx
  ·rw[hx];exact hg
 ·intro x hx;rcases OD (show x∈s.2.2.1.set i g from hx)with hx|hx
  ·exact h.gk x hx
  ·subst hx;rw[hk];exact h.gk _ (N8 hi)
 ·intro x hx;rcases OD (show x∈s.2.2.1.set i g from hx)with hx|hx
  ·exact h.gr x hx
  ·subst hx;exact⟨by rw[hk];exact(h.gr _ (N8 hi)).1,hgr⟩
theorem Bp {g:aZ}(h:I64 (sagL g)){a b c d:Int}(hb:∀x∈[a,b,c,d],-9223372036854775808<=x/\x<=9223372036854775807):I64 (sagL (g.1,a,b,c,d)):=by
 unfold sagL at h ⊢;exact cN.2 ⟨(cN.1 h).1,hb⟩
theorem zt {g:aZ}(h:I64 (sagL g)):∀x∈[g.2.1,g.2.2.1,g.2.2.2.1,g.2.2.2.2],-9223372036854775808<=x/\x<=9223372036854775807:=by
 unfold sagL at h;exact(cN.1 h).2
theorem Ma {g:aZ}(h:I64 (sagL g))(ok:Bool):I64 (sagL (legF g ok))/\(legF g ok).1=g.1:=by
 have hg:=zt h;have w1:=Ei (g.2.2.1+1);have w2:=Ei (g.2.2.2.1+1);simp only[NO,Oc,ON,OF,Pg]at hg;unfold legF;split
 ·split
  ·exact⟨Bp h (by simp only[NO,Oc,ON,OF,Pg];omega),rfl⟩
  ·split
   ·exact⟨Bp h (by simp only[NO,Oc,ON,OF,Pg];omega),rfl⟩
   ·exact⟨Bp h (by simp only[NO,Oc,ON,OF,Pg];omega),rfl⟩
 ·exact⟨h,rfl⟩
theorem Ng {g:aZ}(h:sagR g)(hl:g.1.2.2.2.2.2.1<=4)(ok:Bool):sagR (legF g ok):=by
 unfold legF;unfold sagR at h;split
 ·rename_i h0;have e1:w64 (g.2.2.1+1)=g.2.2.1+1:=aL (by omega);have e2:w64 (g.2.2.2.1+1)=g.2.2.2.1+1:=aL (by omega);rw[e1,e2];split
  ·unfold sagR;dsimp only;omega
  ·split
   ·unfold sagR;dsimp only;omega
   ·unfold sagR;dsimp only;omega
 ·exact h
theorem LB {g:aZ}(h:sagR g){c:Int}(hc:1<=c/\c<=13/\c≠8/\c≠12):sagR (sS g c):=by
 unfold sS;unfold sagR at h;split
 ·unfold sagR;dsimp only;omega
 ·exact h
theorem J5 {g:aZ}(h:I64 (sagL g)){c:Int}(hc:1<=c/\c<=13/\c≠8/\c≠12):I64 (sagL (sS g c))/\(sS g c).1=g.1:=by
 have hg:=zt h;simp only[NO,Oc,ON,OF,Pg]at hg;unfold sS;split
 ·exact⟨Bp h (by simp only[NO,Oc,ON,OF,Pg];omega),rfl⟩
 ·exact⟨h,rfl⟩
theorem oH {key:Int}{gs:List aZ}{i:Nat}(h:fndG key gs=some i):i<gs.length:=by
 obtain⟨h1,_⟩:=r8 h;rw[OC]at h1;exact h1
theorem HA {s:ab}(h:Inv s)(key:Int)(ok:Bool):Inv (qo s key ok).1/\xU s (qo s key ok).1:=by
 unfold qo;cases hf:fndG key s.2.2.1 with
 |none=>exact⟨h,dS s⟩
 |some i=>
  have hi:=oH hf;dsimp only;rw[bc s.2.2.1 i zG hi];have hg:=h.gs _ (N8 hi);have hgg:=zt hg;simp only[NO,Oc,ON,OF,Pg]at hgg;have hrr:=h.gr _ (N8 hi);generalize he:s.2.2.1[i]=g at hg hgg hrr ⊢;split
  ·rename_i h1;exact FJ h (u4 h.op g.1).1 i hi _ (lK (by have:=hrr.2;unfold sagR at this;omega))
  ·split
   ·have hs:=qp h.op g.1;cases hc:(nQ s g.1).2 with
    |none=>exact FJ h hs.1 i hi _ (mO (by omega))
    |some c=>
     obtain⟨q1,q2⟩:=J5 hg (hs.2 c hc);exact B1 h i hi _ q1 (by rw[q2,he]) (LB hrr.2 (hs.2 c hc))
   ·obtain⟨q1,q2⟩:=Ma hg ok;exact B1 h i hi _ q1 (by rw[q2,he]) (Ng hrr.2 (BP hrr.1).2 ok)
theorem mC:∀(l:List Int)(s:ab),Op s s->Op s (sR l s)
 |[],s,h=>h
 |k::l,s,h=>by
  have h1:=(tX h (0,5,k,0,0,0,0) (λe=>by simp at e) (λe=>by simp at e)).1;exact h1.trans (mC l _ h1.self)
theorem Hx {s:ab}(h:Inv s):Inv (sT s)/\xU s (sT s):=by
 unfold sT;split
 ·exact⟨h,dS s⟩
 ·rename_i hn;have hnow:=h.now;have e:w64 (s.2.2.2.2+1)=s.2.2.2.2+1:=aL (by omega);rw[e];have h0:Op (s.1,s.2.1,s.2.2.1,s.2.2.2.1,s.2.2.2.2+1) (s.1,s.2.1,s.2.2.1,s.2.2.2.1,s.2.2.2.2+1):=⟨rfl,h.op.rt,h.op.pl,h.op.ps,NG _⟩
  have h1:=mC (nA s.2.1 (s.2.2.2.2+1)) _ h0;generalize sR (nA s.2.1 (s.2.2.2.2+1)) (s.1,s.2.1,s.2.2.1,s.2.2.2.1,s.2.2.2.2+1)=t at h1;have e1:t.2.2.1=s.2.2.1:=by rw[h1.rest]
  have e2:t.2.2.2.1=s.2.2.2.1:=by rw[h1.rest]
  have e3:t.2.2.2.2=s.2.2.2.2+1:=by rw[h1.rest]
  exact⟨⟨h1.self,by rw[e1];exact h.gl,by rw[e1];exact h.gs,by rw[e2];exact h.kl,by rw[e2];exact h.ks,by rw[e3];omega,by rw[e1,e2];exact h.gk,by rw[e1];exact h.gd,by rw[e1];exact h.gr,by rw[e2];exact h.kr⟩,⟨[],by rw[e2,Oq]⟩⟩
theorem sA {s:ab}(h:Inv s)(e:au)(hr:I64 (rqL e.2.1)):Inv (doF s e).1/\xU s (doF s e).1:=by
 unfold doF;split
 ·have:=Kc h e.2.1 hr;exact⟨this.1,this.2.1⟩
 ·split
  ·exact HA h _ _
  ·split
   ·exact Hx h
   ·exact⟨h,dS s⟩
def s0:ab:=([(0,0,0),(0,0,0),(0,0,0),(1,0,0),(1,0,0),(1,0,0),(2,0,0),(2,0,0),(2,0,0)],[],[],[],0)
theorem inv0:Inv s0 where
 op:=by
  refine⟨rfl,⟨by decide,by decide,λk hk=>?_,λc=>?_⟩,by decide,λp hp=>(by cases hp),NG _⟩
  ·have hk9:k<9:=hk;have:=(tY s0.1 0).1 (by decide) k hk;rw[Ox]at this;exact this
  ·unfold sums cur s0;simp
 gl:=by decide
 gs:=λg hg=>by cases hg
 kl:=by decide
 ks:=λg hg=>by cases hg
 now:=by decide
 gk:=λg hg=>by cases hg
 gd:=P7
 gr:=λg hg=>by cases hg
 kr:=λg hg=>by cases hg
end Go.Eng.Top
