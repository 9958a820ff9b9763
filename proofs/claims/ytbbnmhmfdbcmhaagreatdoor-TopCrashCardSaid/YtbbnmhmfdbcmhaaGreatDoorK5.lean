/- Definitions and lemmas for the law TopCrash: what the program's functions come to. Conditions: as each lemma says. -/
import Derived.Test.YtbbnmhmfdbcmhaaGreatDoorK4
set_option linter.all false
set_option linter.unusedVariables false
set_option linter.unusedSimpArgs false
set_option linter.deprecated false
namespace Go.Eng.LFrm
open Go.Eng Go.Eng.LCrc
theorem Lh (a b : Nat) (ha : a < 256) (hb : b < 256) : bZ .i64 .or ((a * 256 : Nat) : Int) (b : Int) = ((a * 256 + b : Nat) : Int) := by
  show w64 ((BitVec.ofInt 64 ((a * 256 : Nat) : Int) ||| BitVec.ofInt 64 (b : Int)).toNat : Int) = _
  have e1 : (BitVec.ofInt 64 ((a * 256 : Nat) : Int)).toNat = a * 256 := by rw [OK]; omega
  have e2 : (BitVec.ofInt 64 (b : Int)).toNat = b := by rw [OK]; omega
  rw [PF, e1, e2, Qv a 256, show (256 : Nat) = 2 ^ 8 from rfl, ← Pc (show b < 2 ^ 8 by omega) a, aO (by omega)]
theorem Et (i p a b : Nat) (hp : p = 2 ^ i) (h : p * a + b < 4294967296) (hb : b < p) : bZ .u32 .or ((p * a : Nat) : Int) (b : Int) = ((p * a + b : Nat) : Int) := by
  show w32 ((BitVec.ofInt 32 ((p * a : Nat) : Int) ||| BitVec.ofInt 32 (b : Int)).toNat : Int) = _
  have e1 : (BitVec.ofInt 32 ((p * a : Nat) : Int)).toNat = p * a := by rw [OK]; omega
  have e2 : (BitVec.ofInt 32 (b : Int)).toNat = b := by rw [OK]; omega
  have e3 : p * a ||| b = p * a + b := by subst hp; exact (Pc hb a).symm
  rw [PF, e1, e2, e3, vZ (by omega) (by omega)]
theorem Lz (a b c d : Nat) (ha : a < 256) (hb : b < 256) (hc : c < 256) (hd : d < 256) :
    bZ .u32 .or (bZ .u32 .or (bZ .u32 .or (w32 (w32 (a : Int) * 16777216)) (w32 (w32 (b : Int) * 65536))) (w32 (w32 (c : Int) * 256))) (w32 (d : Int)) = ((a * 16777216 + b * 65536 + c * 256 + d : Nat) : Int) := by
  have w : ∀ x : Nat, x < 256 → w32 (x : Int) = (x : Int) := fun x hx => vZ (by omega) (by omega)
  rw [w a ha, w b hb, w c hc, w d hd]
  have e1 : w32 ((a : Int) * 16777216) = ((16777216 * a : Nat) : Int) := by rw [vZ (by omega) (by omega)]; omega
  have e2 : w32 ((b : Int) * 65536) = ((b * 65536 : Nat) : Int) := by rw [vZ (by omega) (by omega)]; omega
  have e3 : w32 ((c : Int) * 256) = ((c * 256 : Nat) : Int) := by rw [vZ (by omega) (by omega)]; omega
  rw [e1, e2, e3, Et 24 16777216 a (b * 65536) rfl (by omega) (by omega)]
  rw [show 16777216 * a + b * 65536 = 65536 * (256 * a + b) by omega, Et 16 65536 (256 * a + b) (c * 256) rfl (by omega) (by omega)]
  rw [show 65536 * (256 * a + b) + c * 256 = 256 * (256 * (256 * a + b) + c) by omega, Et 8 256 (256 * (256 * a + b) + c) d rfl (by omega) (by omega)]
  congr 1
  omega
def head (n s:Int):List Int:=[n/256%256,n%256,s/16777216%256,s/65536%256,s/256%256,s%256]
def fr (x:List Int):List Int:=head (x.length:Int) (oP x)++x
theorem iN (x:List Int):(fr x).length=6+x.length:=by simp[fr,head];omega
theorem HF (n s:Int):Byt (head n s):=by
 intro y hy;simp only[head,M5,Nu,N6]at hy;omega
theorem BH {x:List Int}(h:Byt x):Byt (fr x):=Byt.append (HF _ _) h
def lenOf (b:List Int):Int:=b.getD 0 0*256+b.getD 1 0
def smOf (b:List Int):Int:=b.getD 2 0*16777216+b.getD 3 0*65536+b.getD 4 0*256+b.getD 5 0
def rec1 (b:List Int):Option (List Int):=
 if b.length<6\/16384<lenOf b\/(b.length:Int)<6+lenOf b then none else if oP ((b.drop 6).take (lenOf b).toNat)=smOf b then some ((b.drop 6).take (lenOf b).toNat)else none
def ans1:Option (List Int)->List Int×Int×Bool
 |none=>([],0,false)
 |some x=>(x,6+(x.length:Int),true)
theorem byt_get {b:List Int}(h:Byt b)(i:Nat):0<=b.getD i 0/\b.getD i 0<=255:=by
 rw[M9];cases hq:b[i]? with
 |none=>simp
 |some y=>exact h y (Nd hq)
theorem Be {x r:List Int}(hx:x.length<=16384):lenOf (fr x++r)=(x.length:Int):=by
 show(x.length:Int)/256%256*256+(x.length:Int)%256=_;omega
theorem JA (x r:List Int):smOf (fr x++r)=oP x:=by
 show oP x/16777216%256*16777216+oP x/65536%256*65536+oP x/256%256*256+oP x%256=_;have:=AE x;omega
theorem Kv (x r:List Int):(fr x++r).drop 6=x++r:=by simp[fr,head]
theorem A7 (x r:List Int)(hx:x.length<=16384):rec1 (fr x++r)=some x:=by
 unfold rec1;rw[Be hx,JA,Kv,Na,List.take_left']
 ·rw[MV,MZ rfl];rw[MN,iN];omega
 ·rfl
theorem Ii (x:List Int)(hl:x.length<=16384)(q:Nat)(hq:q<6+x.length):rec1 ((fr x).take q)=none:=by
 have hfl:=iN x;have hlen:((fr x).take q).length=q:=by rw[NR];omega
 unfold rec1;by_cases h6:q<6
 ·rw[MZ (.inl (by omega))]
 ·have hlo:lenOf ((fr x).take q)=(x.length:Int):=by
   have:=Be (x:=x) (r:=[]) hl;rw[NJ]at this;rw[<- this];unfold lenOf;simp only[M9];rw[P6 (by omega),P6 (by omega)]
  rw[MZ (.inr (.inr (by rw[hlo,hlen];omega)))]
end Go.Eng.LFrm
namespace Go.Eng.Top
open Go.RowKit Go.Eng Go.Eng.LVar Go.Eng.LCrc Go.Eng.LFrm
set_option maxRecDepth 100000
theorem shr8 {n:Int}(h:0<=n)(d:Int)(hd:0<d):Int.fdiv n d=n/d:=OG _ (by omega)
theorem ER (x:List Int)(hl:x.length<=140737488351232):Ev1 (λk=>CF k xB gN [inj BB x]) (if 16384<x.length then([],false)else(fr x,true)):=by
 refine Ev1.step (λk=>yb k x _ rfl _ rfl) ?_;by_cases h:16384<x.length
 ·rw[MZ h];exact Ev1.posD (by omega) (Ev1.now _)
 ·rw[MV h];refine Ev1.negD (by omega) (Ev1.bind (IG x (by omega)) (Ev1.posD (by simp only[MR,M3];omega) (Ev1.const ?_)));have hs:=AE x;unfold fr head;rw[shr8 (by omega) _ (by omega),shr8 (by omega) _ (by omega),shr8 (by omega) _ (by omega),shr8 (by omega) _ (by omega),oi,oi,oi,oi,oi,oi]
theorem FK (b:Bool):Ev1 (λk=>CF k xH gQ [inj .bool b]) (if b=true then 1 else 0):=by
 refine Ev1.step (λk=>yg k b) ?_;cases b with
 |true=>exact Ev1.pos rfl (Ev1.now _)
 |false=>exact Ev1.neg rfl (Ev1.now _)
def rqL (r:ae):List Int:=[r.1,r.2.1,r.2.2.1,r.2.2.2.1,r.2.2.2.2.1,r.2.2.2.2.2.1,r.2.2.2.2.2.2]
theorem pW (r:ae)(h:I64 (rqL r)):Ev1 (λk=>CF k qW cQ [inj aq r]) (encs (rqL r)):=
 Ev1.step (λk=>rl k r) (Ev1.bind (Ev1.step (λk=>nS k r) (Ev1.now _)) (Ev1.bind (iS (rqL r) h (by simp[rqL])) (Ev1.now _)))
theorem D5 (r:ah)(h:I64 [r.1,r.2]):Ev1 (λk=>CF k qV fS [inj aK r]) (encs [r.1,r.2]):=
 Ev1.step (λk=>rk k r) (Ev1.bind (iS [r.1,r.2] h (by simp)) (Ev1.now _))
def evL (e:aD):List Int:=e.1::(if e.1=0 then rqL e.2.1 else if e.1=1 then[e.2.2.1,if e.2.2.2=true then 1 else 0]else[])
theorem aY {n:Int}{l:List Int}:I64 (n::l) ↔ (-9223372036854775808<=n/\n<=9223372036854775807)/\I64 l:=by simp[I64]
theorem Ic (e:aD)(h:I64 (evL e)):Ev1 (λk=>CF k vl jm [inj aH e]) (encs (evL e)):=by
 unfold evL at h;obtain⟨h0,h1⟩:=aY.1 h;refine Ev1.step (λk=>vE k e) (Ev1.bind (iS [e.1] (by simpa[I64]using h0) (by simp)) ?_);have hl:=aG (ns:=[e.1]) (by simpa[I64]using h0);unfold evL;by_cases c0:e.1=0
 ·rw[MZ c0]at h1 ⊢;have hl2:=aG h1;refine Ev1.posD c0 (Ev1.bind (pW e.2.1 h1) (Ev1.posD (by simp only[rqL,MR,M3]at hl hl2 ⊢;omega) (Ev1.const ?_)));rw[<- aI];rfl
 ·rw[MV c0]at h1 ⊢;refine Ev1.negD c0 ?_;by_cases c1:e.1=1
  ·rw[MZ c1]at h1 ⊢;have hl2:=aG h1;refine Ev1.posD c1 (Ev1.bind (FK e.2.2.2) (Ev1.bind (iS [e.2.2.1,if e.2.2.2=true then 1 else 0] h1 (by simp)) (Ev1.posD (by simp only[MR,M3]at hl hl2 ⊢;omega) (Ev1.const ?_))));rw[<- aI];rfl
  ·rw[MV c1];exact Ev1.negD c1 (Ev1.now _)
theorem F6 (e:aD)(h:I64 (evL e)):(encs (evL e)).length<=80:=by
 have:=aG h;have h2:(evL e).length<=8:=by unfold evL rqL;split<;>(try split)<;>simp
 omega
end Go.Eng.Top
namespace Go.Eng.Top
open Go.RowKit Go.Eng Go.Eng.LVar Go.Eng.LCrc Go.Eng.LFrm
set_option maxRecDepth 100000
def acL (a:bu):List Int:=[a.1,a.2.1,a.2.2]
def payL (p:ag):List Int:=[p.1,p.2.1,p.2.2.1,p.2.2.2.1,p.2.2.2.2.1,p.2.2.2.2.2.1,p.2.2.2.2.2.2.1,p.2.2.2.2.2.2.2]
def sagL (g:bk):List Int:=rqL g.1++[g.2.1,g.2.2.1,g.2.2.2.1,g.2.2.2.2]
def knL (k:aN):List Int:=rqL k.1++([k.2.1.1,k.2.1.2]++[if k.2.2=true then 1 else 0])
def t3 (ks:List aN):List Int:=(ks.length:Int)::ks.flatMap knL
def t2 (gs:List bk)(ks:List aN):List Int:=(gs.length:Int)::(gs.flatMap sagL++t3 ks)
def t1 (ps:List ag)(gs:List bk)(ks:List aN):List Int:=(ps.length:Int)::(ps.flatMap payL++t2 gs ks)
def stL (s:ab):List Int:=s.2.2.2.2::(s.1.length:Int)::(s.1.flatMap acL++t1 s.2.1 s.2.2.1 s.2.2.2.1)
theorem cL {a b:List Int}:I64 (a++b) ↔ I64 a/\I64 b:=by
 simp only[I64,Nb];exact⟨λh=>⟨λx hx=>h x (.inl hx),λx hx=>h x (.inr hx)⟩,λh x hx=>hx.elim (h.1 x) (h.2 x)⟩
theorem pw {α:Type}(f:α->List Int){l:List α}(h:I64 (l.flatMap f)){i:Nat}(hi:i<l.length):I64 (f l[i]):=λx hx=>h x (Nw.2 ⟨_,NF hi,hx⟩)
theorem vq {α:Type}(f:α->List Int)(l:List α){i:Nat}(hi:i<l.length):(l.drop i).flatMap f=f l[i]++(l.drop (i+1)).flatMap f:=by
 rw[Nr hi,N4]
theorem pC (n:Int):encs [n]=enc (zig n):=by simp[encs]
theorem vput {x:List Int}{n:Int}(hn:-9223372036854775808<=n/\n<=9223372036854775807)(hx:x.length+20<=211106232532992):Ev1 (λk=>CF k Kn jX [.val false [.mv (.int .u8) x],inj (.int .i64) n]) (x++encs [n]):=by
 rw[pC];exact DF x n hn hx
theorem gK (l:List aN)(i:Nat)(h:i<l.length):l.getD (Int.toNat (i:Int)) ((0,0,0,0,0,0,0),(0,0),false)=l[i]:=by rw[Na];exact ba l i _ h
theorem gG (l:List bk)(i:Nat)(h:i<l.length):l.getD (Int.toNat (i:Int)) ((0,0,0,0,0,0,0),0,0,0,0)=l[i]:=by rw[Na];exact ba l i _ h
theorem gP (l:List ag)(i:Nat)(h:i<l.length):l.getD (Int.toNat (i:Int)) (0,0,0,0,0,0,0,0)=l[i]:=by rw[Na];exact ba l i _ h
theorem gA (l:List bu)(i:Nat)(h:i<l.length):l.getD (Int.toNat (i:Int)) (0,0,0)=l[i]:=by rw[Na];exact ba l i _ h
theorem KZ (ks : List aN) (h : I64 (ks.flatMap knL)) (hl : ks.length ≤ 1000) : ∀ (d i : Nat) (x : List Int), i + d = ks.length → x.length + 100 * d ≤ 1000000 → Ev2 (fun k m => Bu k m ks (ks.length : Int) (i : Int) x) (x ++ encs ((ks.drop i).flatMap knL))
  | 0, i, x, hi, hx => by
    refine Ev2.step (fun k m => Bt k m ks (ks.length : Int) (i : Int) x _ rfl) (Ev2.negD (by omega) (Ev2.const ?_))
    rw [NB (by omega)]; simp [encs]
  | d + 1, i, x, hi, hx => by
    have hlt : i < ks.length := by omega
    have hk := pw knL h hlt
    unfold knL at hk
    obtain ⟨h1, h2⟩ := cL.1 hk
    obtain ⟨h3, h4⟩ := cL.1 h2
    have l1 := aG h1
    have l2 := aG h3
    have l4 := aG h4
    simp only [rqL, MR, M3] at l1 l2 l4
    refine Ev2.step (fun k m => Bt k m ks (ks.length : Int) (i : Int) x ks[i] (gK ks i hlt).symm) (Ev2.posD (by omega) (Ev2.pos (ak (by omega) (by omega)) (Ev2.bind (pW ks[i].1 h1) (Ev2.posD (by simp only [rqL]; omega)
      (Ev2.bind (D5 ks[i].2.1 h3) (Ev2.posD (by simp only [rqL, MN]; omega) (Ev2.bind (FK ks[i].2.2) (Ev2.bind (vput (by simpa [I64] using h4) (by simp only [rqL, MN]; omega)) ?_))))))))
    rw [wnat (by omega)]
    have := KZ ks h hl d (i + 1) (((x ++ encs (rqL ks[i].1)) ++ encs [ks[i].2.1.1, ks[i].2.1.2]) ++ encs [if ks[i].2.2 = true then 1 else 0]) (by omega) (by simp only [rqL, MN]; omega)
    rw [vq knL ks hlt, aI, show knL ks[i] = rqL ks[i].1 ++ ([ks[i].2.1.1, ks[i].2.1.2] ++ [if ks[i].2.2 = true then 1 else 0]) from rfl, aI, aI]
    simpa only [No] using this
theorem K0 (ac : List bu) (ps : List ag) (gs : List bk) (ks : List aN) (now : Int) (h : I64 (gs.flatMap sagL)) (hl : gs.length ≤ 1000) (h3 : I64 (ks.flatMap knL)) (hl3 : ks.length ≤ 1000) : ∀ (d i : Nat) (x : List Int), i + d = gs.length → x.length + 110 * d + 110000 ≤ 1000000 →
    Ev2 (fun k m => Bw k m gs (gs.length : Int) (i : Int) ac ps gs ks now x) (x ++ encs ((gs.drop i).flatMap sagL ++ t3 ks))
  | 0, i, x, hi, hx => by
    have hk : -9223372036854775808 ≤ (ks.length : Int) ∧ (ks.length : Int) ≤ 9223372036854775807 := ⟨by omega, by omega⟩
    have l1 := aG (ns := [(ks.length : Int)]) (by simpa [I64] using hk)
    simp only [MR, M3] at l1
    have := KZ ks h3 hl3 ks.length 0 (x ++ encs [(ks.length : Int)]) (by omega) (by simp only [MN]; omega)
    refine Ev2.step (fun k m => Bv k m gs (gs.length : Int) (i : Int) ac ps gs ks now x _ rfl _ rfl) (Ev2.negD (by omega) (Ev2.bind (vput hk (by omega)) (Ev1.drop ?_)))
    rw [NB (by omega)]
    unfold t3
    rw [show ([] : List bk).flatMap sagL ++ (ks.length : Int) :: ks.flatMap knL = [(ks.length : Int)] ++ ks.flatMap knL from rfl, aI, ← No]
    exact this.diag
  | d + 1, i, x, hi, hx => by
    have hlt : i < gs.length := by omega
    have hk := pw sagL h hlt
    unfold sagL at hk
    obtain ⟨h1, h2⟩ := cL.1 hk
    have l1 := aG h1
    have l2 := aG h2
    simp only [rqL, MR, M3] at l1 l2
    refine Ev2.step (fun k m => Bv k m gs (gs.length : Int) (i : Int) ac ps gs ks now x _ rfl gs[i] (gG gs i hlt).symm) (Ev2.posD (by omega) (Ev2.pos (ak (by omega) (by omega)) (Ev2.bind (pW gs[i].1 h1) (Ev2.posD (by simp only [rqL]; omega)
      (Ev2.bind (iS _ h2 (by simp)) (Ev2.posD (by simp only [rqL, MN]; omega) ?_))))))
    rw [wnat (by omega)]
    have := K0 ac ps gs ks now h hl h3 hl3 d (i + 1) ((x ++ encs (rqL gs[i].1)) ++ encs [gs[i].2.1, gs[i].2.2.1, gs[i].2.2.2.1, gs[i].2.2.2.2]) (by omega) (by simp only [rqL, MN]; omega)
    rw [vq sagL gs hlt, show sagL gs[i] = rqL gs[i].1 ++ [gs[i].2.1, gs[i].2.2.1, gs[i].2.2.2.1, gs[i].2.2.2.2] from rfl]
    simpa only [aI, No] using this
theorem K1 (ac:List bu)(ps:List ag)(gs:List bk)(ks:List aN)(now:Int)(h:I64 (ps.flatMap payL))(hl:ps.length<=1000)(h2:I64 (gs.flatMap sagL))(hl2:gs.length<=1000)(h3:I64 (ks.flatMap knL))(hl3:ks.length<=1000):∀(d i:Nat)(x:List Int),i+d=ps.length->x.length+80*d+230000<=1000000 ->
  Ev2 (λk m=>By k m ps (ps.length:Int) (i:Int) ac ps gs ks now x) (x++encs ((ps.drop i).flatMap payL++t2 gs ks))
 |0,i,x,hi,hx=>by
  have hk:-9223372036854775808<=(gs.length:Int)/\(gs.length:Int)<=9223372036854775807:=⟨by omega,by omega⟩
  have l1:=aG (ns:=[(gs.length:Int)]) (by simpa[I64]using hk);simp only[MR,M3]at l1;have:=K0 ac ps gs ks now h2 hl2 h3 hl3 gs.length 0 (x++encs [(gs.length:Int)]) (by omega) (by simp only[MN];omega);refine Ev2.step (λk m=>Bx k m ps (ps.length:Int) (i:Int) ac ps gs ks now x _ rfl _ rfl) (Ev2.negD (by omega) (Ev2.bind (vput hk (by omega)) (Ev1.drop ?_)));rw[NB (by omega)];unfold t2;rw[show([]:List ag).flatMap payL++(gs.length:Int)::(gs.flatMap sagL++t3 ks)=[(gs.length:Int)]++(gs.flatMap sagL++t3 ks) from rfl,aI,<- No];exact this.diag
 |d+1,i,x,hi,hx=>by
  have hlt:i<ps.length:=by omega
  have hk:=pw payL h hlt;have l1:=aG hk;simp only[payL,MR,M3]at l1;refine Ev2.step (λk m=>Bx k m ps (ps.length:Int) (i:Int) ac ps gs ks now x _ rfl ps[i] (gP ps i hlt).symm) (Ev2.posD (by omega) (Ev2.pos (ak (by omega) (by omega)) (Ev2.bind (iS _ hk (by simp[payL])) (Ev2.posD (by simp only[payL];omega) ?_))));rw[wnat (by omega)];have:=K1 ac ps gs ks now h hl h2 hl2 h3 hl3 d (i+1) (x++encs (payL ps[i])) (by omega) (by simp only[payL,MN];omega);rw[vq payL ps hlt,No,aI];simpa only[No]using this
theorem K2 (ac:List bu)(ps:List ag)(gs:List bk)(ks:List aN)(now:Int)(h0:I64 (ac.flatMap acL))(hl0:ac.length<=1000)(h:I64 (ps.flatMap payL))(hl:ps.length<=1000)(h2:I64 (gs.flatMap sagL))(hl2:gs.length<=1000)(h3:I64 (ks.flatMap knL))(hl3:ks.length<=1000):∀(d i:Nat)(x:List Int),i+d=ac.length->x.length+30*d+330000<=1000000 ->
  Ev2 (λk m=>h_cS k m ac (ac.length:Int) (i:Int) ac ps gs ks now x) (x++encs ((ac.drop i).flatMap acL++t1 ps gs ks))
 |0,i,x,hi,hx=>by
  have hk:-9223372036854775808<=(ps.length:Int)/\(ps.length:Int)<=9223372036854775807:=⟨by omega,by omega⟩
  have l1:=aG (ns:=[(ps.length:Int)]) (by simpa[I64]using hk);simp only[MR,M3]at l1;have:=K1 ac ps gs ks now h hl h2 hl2 h3 hl3 ps.length 0 (x++encs [(ps.length:Int)]) (by omega) (by simp only[MN];omega);refine Ev2.step (λk m=>I3 k m ac (ac.length:Int) (i:Int) ac ps gs ks now x _ rfl _ rfl) (Ev2.negD (by omega) (Ev2.bind (vput hk (by omega)) (Ev1.drop ?_)));rw[NB (by omega)];unfold t1;rw[show([]:List bu).flatMap acL++(ps.length:Int)::(ps.flatMap payL++t2 gs ks)=[(ps.length:Int)]++(ps.flatMap payL++t2 gs ks) from rfl,aI,<- No];exact this.diag
 |d+1,i,x,hi,hx=>by
  have hlt:i<ac.length:=by omega
  have hk:=pw acL h0 hlt;have l1:=aG hk;simp only[acL,MR,M3]at l1;refine Ev2.step (λk m=>I3 k m ac (ac.length:Int) (i:Int) ac ps gs ks now x _ rfl ac[i] (gA ac i hlt).symm) (Ev2.posD (by omega) (Ev2.pos (ak (by omega) (by omega)) (Ev2.bind (iS _ hk (by simp[acL])) (Ev2.posD (by simp only[acL];omega) ?_))));rw[wnat (by omega)];have:=K2 ac ps gs ks now h0 hl0 h hl h2 hl2 h3 hl3 d (i+1) (x++encs (acL ac[i])) (by omega) (by simp only[acL,MN];omega);rw[vq acL ac hlt,No,aI];simpa only[No]using this
structure StOk (s:ab):Prop where
 now:-9223372036854775808<=s.2.2.2.2/\s.2.2.2.2<=9223372036854775807
 ac:I64 (s.1.flatMap acL)
 acl:s.1.length<=1000
 ps:I64 (s.2.1.flatMap payL)
 psl:s.2.1.length<=1000
 gs:I64 (s.2.2.1.flatMap sagL)
 gsl:s.2.2.1.length<=1000
 ks:I64 (s.2.2.2.1.flatMap knL)
 ksl:s.2.2.2.1.length<=1000
theorem iV (s:ab)(h:StOk s):Ev1 (λk=>CF k g_cS n_cS [inj aB s]) (encs (stL s)):=by
 have hl:=h.acl;have hk:I64 [s.2.2.2.2,(s.1.length:Int)]:=aY.2 ⟨h.now,aY.2 ⟨⟨by omega,by omega⟩,by simp[I64]⟩⟩;have l1:=aG hk;simp only[MR,M3]at l1;have:=K2 s.1 s.2.1 s.2.2.1 s.2.2.2.1 s.2.2.2.2 h.ac h.acl h.ps h.psl h.gs h.gsl h.ks h.ksl s.1.length 0 (encs [s.2.2.2.2,(s.1.length:Int)]) (by omega) (by omega);refine Ev1.step (λk=>f_cS k s _ rfl) (Ev1.bind (iS _ hk (by simp)) ?_);unfold stL;rw[show s.2.2.2.2::(s.1.length:Int)::(s.1.flatMap acL++t1 s.2.1 s.2.2.1 s.2.2.2.1)=[s.2.2.2.2,(s.1.length:Int)]++(s.1.flatMap acL++t1 s.2.1 s.2.2.1 s.2.2.2.1) from rfl,aI];exact this.diag
theorem nh {s:ab}(h:StOk s):I64 (stL s):=by
 have h1:=h.acl;have h2:=h.psl;have h3:=h.gsl;have h4:=h.ksl;have e4:I64 (t3 s.2.2.2.1):=aY.2 ⟨⟨by omega,by omega⟩,h.ks⟩;have e3:I64 (t2 s.2.2.1 s.2.2.2.1):=aY.2 ⟨⟨by omega,by omega⟩,cL.2 ⟨h.gs,e4⟩⟩;have e2:I64 (t1 s.2.1 s.2.2.1 s.2.2.2.1):=aY.2 ⟨⟨by omega,by omega⟩,cL.2 ⟨h.ps,e3⟩⟩;exact aY.2 ⟨h.now,aY.2 ⟨⟨by omega,by omega⟩,cL.2 ⟨h.ac,e2⟩⟩⟩
theorem rB:∀{a b:List Int},I64 a->I64 b->encs a=encs b->a=b
 |[],[],_,_,_=>rfl
 |[],n::b,_,_,h=>by
  have:=yl (zig n);simp[encs]at h;exact(this h.1).elim
 |n::a,[],_,_,h=>by
  have:=yl (zig n);simp[encs]at h;exact(this h.1).elim
 |n::a,m::b,ha,hb,h=>by
  obtain⟨h1,h2⟩:=aY.1 ha;obtain⟨h3,h4⟩:=aY.1 hb;have e:enc (zig n)++encs a=enc (zig m)++encs b:=h;obtain⟨q1,q2⟩:=C7 (sG h1) (sG h3) e;have:n=m:=by rw[<- pI n,<- pI m,q1]
  rw[this,rB h2 h4 q2]
theorem cH {α:Type}(f:α->List Int)(n:Nat)(hf:∀x,(f x).length=n):∀l:List α,(l.flatMap f).length=n*l.length
 |[]=>by simp
 |x::l=>by rw[N4,MN,hf,cH f n hf l,MR,Nat.mul_add];omega
theorem xL {α:Type}(f:α->List Int)(hf:∀x y (r s:List Int),f x++r=f y++s->x=y/\r=s):∀{l m:List α} {r s:List Int},l.length=m.length->l.flatMap f++r=m.flatMap f++s->l=m/\r=s
 |[],[],_,_,_,h=>⟨rfl,h⟩
 |[],_::_,_,_,hl,_=>by simp at hl
 |_::_,[],_,_,hl,_=>by simp at hl
 |x::l,y::m,r,s,hl,h=>by
  rw[N4,N4,No,No]at h;obtain⟨h1,h2⟩:=hf x y _ _ h;obtain⟨h3,h4⟩:=xL f hf (by simpa using hl) h2;exact⟨by rw[h1,h3],h4⟩
theorem K5 {a b:ae}(h1:a.1=b.1)(h2:a.2.1=b.2.1)(h3:a.2.2.1=b.2.2.1)(h4:a.2.2.2.1=b.2.2.2.1)(h5:a.2.2.2.2.1=b.2.2.2.2.1)(h6:a.2.2.2.2.2.1=b.2.2.2.2.2.1)(h7:a.2.2.2.2.2.2=b.2.2.2.2.2.2):a=b:=
 Ob h1 (Ob h2 (Ob h3 (Ob h4 (Ob h5 (Ob h6 h7)))))
theorem KO (x y:bu)(r s:List Int)(h:acL x++r=acL y++s):x=y/\r=s:=by
 simp only[acL,Ni,NZ,Ng]at h;obtain⟨h1,h2,h3,h4⟩:=h;exact⟨Ob h1 (Ob h2 h3),h4⟩
theorem Hl (x y:ag)(r s:List Int)(h:payL x++r=payL y++s):x=y/\r=s:=by
 simp only[payL,Ni,NZ,Ng]at h;obtain⟨h1,h2,h3,h4,h5,h6,h7,h8,h9⟩:=h;exact⟨Ob h1 (Ob h2 (Ob h3 (Ob h4 (Ob h5 (Ob h6 (Ob h7 h8)))))),h9⟩
theorem G5 (x y:bk)(r s:List Int)(h:sagL x++r=sagL y++s):x=y/\r=s:=by
 simp only[sagL,rqL,Ni,NZ,Ng]at h;obtain⟨h1,h2,h3,h4,h5,h6,h7,g1,g2,g3,g4,h8⟩:=h;exact⟨Ob (K5 h1 h2 h3 h4 h5 h6 h7) (Ob g1 (Ob g2 (Ob g3 g4))),h8⟩
theorem H0 {a b:Bool}(h:(if a=true then(1:Int)else 0)=(if b=true then 1 else 0)):a=b:=by
 cases a<;>cases b<;>first|rfl|(simp at h)
theorem Kd (x y:aN)(r s:List Int)(h:knL x++r=knL y++s):x=y/\r=s:=by
 simp only[knL,rqL,Ni,NZ,Ng]at h;obtain⟨h1,h2,h3,h4,h5,h6,h7,g1,g2,g3,h8⟩:=h;exact⟨Ob (K5 h1 h2 h3 h4 h5 h6 h7) (Ob (Ob g1 g2) (H0 g3)),h8⟩
theorem DQ {s t:ab}(h:stL s=stL t):s=t:=by
 simp only[stL,t1,t2,t3,Ng,Pv]at h;obtain⟨h1,h2,h3⟩:=h;obtain⟨a1,h4⟩:=xL acL KO h2 h3;simp only[Ng,Pv]at h4;obtain⟨h5,h6⟩:=h4;obtain⟨a2,h7⟩:=xL payL Hl h5 h6;simp only[Ng,Pv]at h7;obtain⟨h8,h9⟩:=h7;obtain⟨a3,h10⟩:=xL sagL G5 h8 h9;simp only[Ng,Pv]at h10;obtain⟨h11,h12⟩:=h10;obtain⟨a4,_⟩:=xL knL Kd (r:=[]) (s:=[]) h11 (by simpa using h12);exact Ob a1 (Ob a2 (Ob a3 (Ob a4 h1)))
theorem DW (s t:ab)(hs:StOk s)(ht:StOk t):Ev1 (λk=>CF k ⟨[(false,.bool)],[]⟩ n_ds [inj aB s,inj aB t]) (decide (stL s=stL t)):=by
 refine Ev1.step (λk=>f_ds k s t) (Ev1.bind (iV s hs) (Ev1.bind (iV t ht) (Ev1.const ?_)));congr 1;exact OH.2 ⟨λh=>rB (nh hs) (nh ht) h,λh=>by rw[h]⟩
end Go.Eng.Top
namespace Go.Eng.Top
open Go.RowKit Go.Eng Go.Eng.LVar Go.Eng.LChart Go.Eng.LEnt
set_option maxRecDepth 100000
abbrev zP:ag:=(0,0,0,0,0,0,0,0)
abbrev zG:bk:=((0,0,0,0,0,0,0),0,0,0,0)
abbrev cli (s:ab)(n:Int):Prop:=9<=n/\n<(s.1.length:Int)
abbrev Out:Type:=ab×ah
def wh (s:ab)(w:List Acc×Option Int)(id:Int):Out:=match w.2 with|some c=>(s,(c,0))|none=>((w.1,s.2),(0,id))
def CE (s:ab)(r:ae):Out:=if 64<=(s.1.length:Int)then(s,(7,0))else((s.1++[(r.2.2.1,0,0)],s.2),(0,(s.1.length:Int)))
def zd (s:ab)(f t n:Int):Out:=match(fk s.1 f t n).2 with|some c=>(s,(c,0))|none=>wh s (jO s.1 (fk s.1 f t n).1) 0
def depF (s:ab)(r:ae):Out:=if cli s r.2.2.1 then zd s (numV 0 (acAt s.1 r.2.2.1).1) r.2.2.1 r.2.2.2.2.1 else(s,(2,0))
def trF (s:ab)(r:ae):Out:=if cli s r.2.2.1/\cli s r.2.2.2.1 then zd s r.2.2.1 r.2.2.2.1 r.2.2.2.2.1 else(s,(2,0))
def Dp (s:ab)(r:ae):Out:=
 if cli s r.2.2.1/\cli s r.2.2.2.1 then
  (if r.2.2.1=r.2.2.2.1\/r.2.2.2.2.2.2<=s.2.2.2.2 then(s,(1,0))
   else if 64<=(s.2.1.length:Int)then(s,(7,0))
   else match(jP s.1 r.2.2.1 r.2.2.2.2.1).2 with
    |some c=>(s,(c,0))
    |none=>(((jP s.1 r.2.2.1 r.2.2.2.2.1).1,s.2.1++[(r.2.2.1,r.2.2.2.1,r.2.2.2.2.1,0,0,0,r.2.2.2.2.2.2,0)],s.2.2),(0,(s.2.1.length:Int))))
 else(s,(2,0))
def EX (p:ag):Int:=if p.2.2.2.2.2.2.2=0 then w64 (p.2.2.1-p.2.2.2.1)else 0
def zx (p:ag):Int:=w64 (w64 (p.2.2.2.1-p.2.2.2.2.1)-p.2.2.2.2.2.1)
def fq (op:Int)(p:ag)(n:Int):ag×Bool:=
 if op=4 then((if w64 (p.2.2.2.1+n)=p.2.2.1 then(p.1,p.2.1,p.2.2.1,w64 (p.2.2.2.1+n),p.2.2.2.2.1,p.2.2.2.2.2.1,p.2.2.2.2.2.2.1,1)else(p.1,p.2.1,p.2.2.1,w64 (p.2.2.2.1+n),p.2.2.2.2)),decide (n<=EX p))
 else if op=6 then((p.1,p.2.1,p.2.2.1,p.2.2.2.1,w64 (p.2.2.2.2.1+n),p.2.2.2.2.2),decide (n<=zx p))
 else if op=7 then((p.1,p.2.1,p.2.2.1,p.2.2.2.1,p.2.2.2.2.1,w64 (p.2.2.2.2.2.1+n),p.2.2.2.2.2.2),decide (n<=zx p))
 else((p.1,p.2.1,p.2.2.1,p.2.2.2.1,p.2.2.2.2.1,p.2.2.2.2.2.1,p.2.2.2.2.2.2.1,1),decide (p.2.2.2.2.2.2.2=0))
def me (op:Int)(p:ag)(n:Int):ag×Option Int:=
 if op≠5/\n<1 then(zP,some 1)else if(fq op p n).2=true then((fq op p n).1,none)else(zP,some 6)
def pAt (s:ab)(i:Int):ag:=s.2.1.getD (Int.toNat i) zP
def ca (s:ab)(op:Int)(r:ae):ag×ag×Option Int:=
 if r.2.2.1<0\/(s.2.1.length:Int)<=r.2.2.1 then(zP,zP,some 2)
 else(pAt s r.2.2.1,(me op (pAt s r.2.2.1) r.2.2.2.2.1).1,(me op (pAt s r.2.2.1) r.2.2.2.2.1).2)
def payF (s:ab)(i:Int)(q:ag)(w:List Acc×Option Int):Out:=match w.2 with|some c=>(s,(c,0))|none=>((w.1,s.2.1.set (Int.toNat i) q,s.2.2),(0,0))
def capF (s:ab)(r:ae):Out:=
 match(ca s 4 r).2.2 with
 |some c=>(s,(c,0))
 |none=>match(fk s.1 (ca s 4 r).1.1 (ca s 4 r).1.2.1 r.2.2.2.2.1).2 with
  |some c=>(s,(c,0))
  |none=>payF s r.2.2.1 (ca s 4 r).2.1 (jF s.1 r.2.2.2.2.1 (fk s.1 (ca s 4 r).1.1 (ca s 4 r).1.2.1 r.2.2.2.2.1).1)
def B3 (s:ab)(r:ae):Out:=
 match(ca s 5 r).2.2 with
 |some c=>(s,(c,0))
 |none=>payF s r.2.2.1 (ca s 5 r).2.1 (relF s.1 (ca s 5 r).1.1 (EX (ca s 5 r).1))
def oZ (s:ab)(p:ag)(n:Int):List En×Option Int:=(back (fk s.1 p.1 p.2.1 n).1,(fk s.1 p.1 p.2.1 n).2)
def refF (s:ab)(r:ae):Out:=
 match(ca s 6 r).2.2 with
 |some c=>(s,(c,0))
 |none=>match(oZ s (ca s 6 r).1 r.2.2.2.2.1).2 with
  |some c=>(s,(c,0))
  |none=>payF s r.2.2.1 (ca s 6 r).2.1 (jO s.1 (oZ s (ca s 6 r).1 r.2.2.2.2.1).1)
def chgE (s:ab)(p:ag)(es:List En):List En:=
 if 0<w64 (w64 (0-(es.getD 0 (0,0)).2)-w64 ((acAt s.1 p.2.1).2.1-(acAt s.1 p.2.1).2.2))then
  es.set 0 ((es.getD 0 (0,0)).1,w64 ((es.getD 0 (0,0)).2+w64 (w64 (0-(es.getD 0 (0,0)).2)-w64 ((acAt s.1 p.2.1).2.1-(acAt s.1 p.2.1).2.2)))) ++
   [(numV 2 (acAt s.1 p.2.1).1,w64 (0-w64 (w64 (0-(es.getD 0 (0,0)).2)-w64 ((acAt s.1 p.2.1).2.1-(acAt s.1 p.2.1).2.2))))]
 else es
def chgF (s:ab)(r:ae):Out:=
 match(ca s 7 r).2.2 with
 |some c=>(s,(c,0))
 |none=>match(oZ s (ca s 7 r).1 r.2.2.2.2.1).2 with
  |some c=>(s,(c,0))
  |none=>payF s r.2.2.1 (ca s 7 r).2.1 (jO s.1 (chgE s (ca s 7 r).1 (oZ s (ca s 7 r).1 r.2.2.2.2.1).1))
def opsF (s:ab)(r:ae):Out:=
 if r.2.1=0 then CE s r else if r.2.1=1 then depF s r else if r.2.1=2 then trF s r else if r.2.1=3 then Dp s r
 else if r.2.1=4 then capF s r else if r.2.1=5 then B3 s r else if r.2.1=6 then refF s r else if r.2.1=7 then chgF s r else(s,(1,0))
abbrev Oute:Type:=ab×Option Int
def pF (s:ab)(w:List Acc×Option Int):Oute:=match w.2 with|some c=>(s,some c)|none=>((w.1,s.2),none)
def resF (s:ab)(r:ae):Oute:=
 if cli s r.2.2.1/\cli s r.2.2.2.1 then(match(fk s.1 r.2.2.1 r.2.2.2.1 r.2.2.2.2.1).2 with
  |some c=>(s,some c)
  |none=>pF s (jP s.1 r.2.2.1 r.2.2.2.2.1))
 else(s,some 2)
def oQ (s:ab)(r:ae):Oute:=match(fk s.1 r.2.2.1 r.2.2.2.1 r.2.2.2.2.1).2 with
  |some c=>(s,some c)
  |none=>pF s (jF s.1 r.2.2.2.2.1 (fk s.1 r.2.2.1 r.2.2.2.1 r.2.2.2.2.1).1)
def DJ (s:ab)(r:ae):Oute:=pF s (relF s.1 r.2.2.1 r.2.2.2.2.1)
def DG:List Int->ab->ab
 |[],s=>s
 |k::l,s=>DG l (opsF s (0,5,k,0,0,0,0)).1
def rF (ps:List ag)(now:Int):List Int:=(fw ps).takeWhile λk=>!decide (now<(ps.getD (Int.toNat k) zP).2.2.2.2.2.2.1)
def wg (s:ab):ab:=if 1073741824<=s.2.2.2.2 then s else DG (rF s.2.1 (w64 (s.2.2.2.2+1))) (s.1,s.2.1,s.2.2.1,s.2.2.2.1,w64 (s.2.2.2.2+1))
def amtB (n:Int):Bool:=decide (1<=n/\n<=1099511627776)
def mayB (r:ae):Bool:=
 if r.1<0\/1073741824<=r.1\/r.2.2.2.2.2.1<0\/4<r.2.2.2.2.2.1\/r.2.2.2.2.2.2<0\/1073741824<r.2.2.2.2.2.2 then false
 else if 0<r.2.2.2.2.2.1/\r.2.1≠2 then false
 else if r.2.1=0 then decide (0<=r.2.2.1/\r.2.2.1<3)
 else if r.2.1=5 then true
 else if r.2.1=1\/r.2.1=2\/r.2.1=3\/r.2.1=4\/r.2.1=6\/r.2.1=7 then amtB r.2.2.2.2.1 else false
abbrev long (r:ae):Prop:=0<r.2.2.2.2.2.1/\r.2.1=2
def subF (s:ab)(r:ae):Out:=
 if mayB r=false then(s,(1,0))
 else if(askF s.2.2.2.1 r).2=true then(s,(askF s.2.2.2.1 r).1)
 else if long r/\16<=(s.2.2.1.length:Int)then(s,(7,0))
 else match(putF s.2.2.2.1 r).2 with
  |some c=>(s,(c,0))
  |none=>
   if long r then(match(resF s r).2 with
    |some c=>((s.1,s.2.1,s.2.2.1,(pJ (putF s.2.2.2.1 r).1 r.1 (c,0)).1,s.2.2.2.2),(c,0))
    |none=>(((resF s r).1.1,(resF s r).1.2.1,(resF s r).1.2.2.1++[(r,0,0,0,0)],(putF s.2.2.2.1 r).1,(resF s r).1.2.2.2.2),(10,0)))
   else(((opsF s r).1.1,(opsF s r).1.2.1,(opsF s r).1.2.2.1,(pJ (putF s.2.2.2.1 r).1 r.1 (opsF s r).2).1,(opsF s r).1.2.2.2.2),(opsF s r).2)
def fndG (key:Int)(gs:List bk):Option Nat:=fndI key (gs.map λg=>g.1.1)
def endF (s:ab)(i:Nat)(o:ah):Out:=((s.1,s.2.1,s.2.2.1.take i++s.2.2.1.drop (i+1),(pJ s.2.2.2.1 (s.2.2.1.getD i zG).1.1 o).1,s.2.2.2.2),o)
def legF (g:bk)(ok:Bool):bk:=
 if g.2.1=0/\¬ (g.1.2.2.2.2.2.1<=g.2.2.1)then
  (if ok=true then(g.1,g.2.1,w64 (g.2.2.1+1),0,g.2.2.2.2)
   else if 3<w64 (g.2.2.2.1+1)then(g.1,1,g.2.2.1,w64 (g.2.2.2.1+1),9)else(g.1,g.2.1,g.2.2.1,w64 (g.2.2.2.1+1),g.2.2.2.2))
 else g
def wb (g:bk)(c:Int):bk:=if g.2.1=0 then(g.1,1,g.2.2.1,g.2.2.2.1,c)else g
def putG (s:ab)(i:Nat)(g:bk):Out:=((s.1,s.2.1,s.2.2.1.set i g,s.2.2.2),(10,0))
def tY (s:ab)(key:Int)(ok:Bool):Out:=
 match fndG key s.2.2.1 with
 |none=>(s,(2,0))
 |some i=>
  if(s.2.2.1.getD i zG).2.1=1 then endF (DJ s (s.2.2.1.getD i zG).1).1 i ((s.2.2.1.getD i zG).2.2.2.2,0)
  else if(s.2.2.1.getD i zG).2.1=0/\(s.2.2.1.getD i zG).1.2.2.2.2.2.1<=(s.2.2.1.getD i zG).2.2.1 then
   (match(oQ s (s.2.2.1.getD i zG).1).2 with
    |none=>endF (oQ s (s.2.2.1.getD i zG).1).1 i (0,0)
    |some c=>putG s i (wb (s.2.2.1.getD i zG) c))
  else putG s i (legF (s.2.2.1.getD i zG) ok)
def doF (s:ab)(e:aD):Out:=
 if e.1=0 then subF s e.2.1 else if e.1=1 then tY s e.2.2.1 e.2.2.2 else if e.1=2 then(wg s,(0,0))else(s,(1,0))
def code (e:Option Int):Prop:=∀c,e=some c->1<=c/\c<=13/\c≠8/\c≠12
theorem gx:code none:=λc h=>by cases h
theorem bT {n:Int}(h:1<=n/\n<=13/\n≠8/\n≠12):code (some n):=λc e=>by cases e;exact h
theorem iP (ac:List Acc)(f t n:Int):code (fk ac f t n).2:=by
 unfold fk;split
 ·split
  ·exact bT (by omega)
  ·split
   ·exact gx
   ·split
    ·exact bT (by omega)
    ·split
     ·exact bT (by omega)
     ·exact gx
 ·exact bT (by omega)
theorem yu (ac:List Acc)(n a:Int):code (jP ac n a).2:=by
 unfold jP;split
 ·split
  ·split
   ·exact bT (by omega)
   ·exact gx
  ·exact bT (by omega)
 ·exact bT (by omega)
theorem vO (ac:List Acc)(n a:Int):code (relF ac n a).2:=by
 unfold relF;split
 ·split
  ·split
   ·exact bT (by omega)
   ·exact gx
  ·exact bT (by omega)
 ·exact bT (by omega)
theorem m5 (ac:List Acc)(es:List En):code (jO ac es).2:=by
 rw[p8];cases balF ac es (0,0,0)with
 |false=>exact bT (by omega)
 |true=>
  show code (finP (runF ac es)).2;cases runF ac es with
  |none=>exact bT (by omega)
  |some o=>
   unfold finP;dsimp only;cases xJ (o.drop 9)with
   |true=>exact gx
   |false=>exact bT (by omega)
theorem tH (ac:List Acc)(a:Int)(es:List En):code (jF ac a es).2:=by
 unfold jF;cases es with
 |nil=>exact bT (by omega)
 |cons e r=>
  dsimp only;have hc:=vO ac e.1 a;generalize relF ac e.1 a=w at hc;obtain⟨o,g⟩:=w;cases g with
  |none=>exact m5 o (e::r)
  |some c=>exact hc
theorem wm {ac:List Acc}(h:Rt ac){a:Int}{es:List En}(hn:(jF ac a es).2=none):Rt (jF ac a es).1/\(jF ac a es).1.length=ac.length:=by
 unfold jF at hn ⊢;cases es with
 |nil=>cases hn
 |cons e r=>
  dsimp only at hn ⊢;have hr:=uC h (n:=e.1) (a:=a);generalize relF ac e.1 a=w at hr hn;obtain⟨o,g⟩:=w;cases g with
  |some c=>cases hn
  |none=>
   have h1:=hr rfl;have h2:=pg h1.1 hn;exact⟨h2.2.2.1,h2.2.2.2.trans h1.2⟩
def payR (p:ag):Prop:=(1<=p.2.2.1/\p.2.2.1<=1099511627776)/\(0<=p.2.2.2.1/\p.2.2.2.1<=p.2.2.1)/\0<=p.2.2.2.2.1/\0<=p.2.2.2.2.2.1/\p.2.2.2.2.1+p.2.2.2.2.2.1<=p.2.2.2.1/\(0<=p.2.2.2.2.2.2.1/\p.2.2.2.2.2.2.1<=1073741824)/\(p.2.2.2.2.2.2.2=0\/p.2.2.2.2.2.2.2=1)
structure rU (n:Nat)(p:ag):Prop where
 from_:9<=p.1/\p.1<(n:Int)
 to_:9<=p.2.1/\p.2.1<(n:Int)
 i64:I64 (payL p)
 right:payR p
structure Op (s t:ab):Prop where
 rest:t.2.2=s.2.2
 rt:Rt t.1
 pl:t.2.1.length<=64
 ps:∀p∈t.2.1,rU t.1.length p
 ac:s.1.length<=t.1.length
def okO (o:ah):Prop:=(0<=o.1/\o.1<=13)/\(0<=o.2/\o.2<=64)/\o.1≠8/\o.1≠12
theorem mg {n:Int}(h:0<=n/\n<=64):okO (0,n):=⟨⟨PO _,by show(0:Int)<=13;omega⟩,h,by show(0:Int)≠8;omega,by show(0:Int)≠12;omega⟩
theorem kY {c:Int}(h:1<=c/\c<=13/\c≠8/\c≠12):okO (c,0):=⟨⟨by show 0<=c;omega,h.2.1⟩,⟨by show(0:Int)<=0;omega,by show(0:Int)<=64;omega⟩,h.2.2⟩
theorem rU.mono {n m:Nat}{p:ag}(h:rU n p)(hm:n<=m):rU m p:=⟨⟨h.from_.1,by have:=h.from_.2;omega⟩,⟨h.to_.1,by have:=h.to_.2;omega⟩,h.i64,h.right⟩
theorem fQ {s:ab}(h:Op s s){e:Option Int}(hc:code e){c:Int}(he:e=some c):Op s s/\okO (c,0):=⟨h,kY (hc c he)⟩
theorem qa {s:ab}(h:Op s s){c:Int}(hc:1<=c/\c<=13/\c≠8/\c≠12):Op s s/\okO (c,0):=⟨h,kY hc⟩
theorem Eu {s:ab}(h:Op s s){ac:List Acc}(hr:Rt ac)(hl:s.1.length<=ac.length):Op s (ac,s.2):=
 ⟨rfl,hr,h.pl,λp hp=>(h.ps p hp).mono hl,hl⟩
theorem Jw {s:ab}(h:Op s s){w:List Acc×Option Int}(hw:w.2=none->Rt w.1/\w.1.length=s.1.length)(hc:code w.2){id:Int}(hid:0<=id/\id<=64):Op s (wh s w id).1/\okO (wh s w id).2:=by
 unfold wh;obtain⟨ac,e⟩:=w;cases e with
 |some c=>exact fQ h hc rfl
 |none=>exact⟨Eu h (hw rfl).1 (by rw[(hw rfl).2];exact MW _),mg hid⟩
theorem JH {ac:List Acc}(h:Rt ac)(hl:ac.length<64){c:Int}(hc:0<=c/\c<=2):Rt (ac++[(c,0,0)]):=by
 have lo:=h.lo;refine⟨by rw[MN];omega,by rw[MN];simp;omega,λk hk=>?_,λd=>?_⟩
 ·rw[List.getElem_append];split
  ·rename_i h1;exact h.ok k h1
  ·rename_i h1;simp only[List.getElem_singleton];refine⟨hc.1,hc.2,by simp,by simp,λh9=>by omega,λ_=>by simp⟩
 ·rw[yR,h.sum d];simp[sums,cur]
theorem JX {s:ab}(h:Op s s)(r:ae)(hr:0<=r.2.2.1/\r.2.2.1<=2):Op s (CE s r).1/\okO (CE s r).2:=by
 unfold CE;split
 ·exact qa h (by omega)
 ·rename_i h1;exact⟨Eu h (JH h.rt (by omega) hr) (by rw[MN];omega),mg (by omega)⟩
theorem Eo {s:ab}(h:Op s s)(f t n:Int):Op s (zd s f t n).1/\okO (zd s f t n).2:=by
 unfold zd;have hc:=iP s.1 f t n;cases hm:(fk s.1 f t n).2 with
 |some c=>exact fQ h hc hm
 |none=>exact Jw h (λhn=>(pg h.rt hn).2.2) (m5 _ _) ⟨by omega,by omega⟩
theorem LH {s:ab}(h:Op s s)(r:ae):Op s (depF s r).1/\okO (depF s r).2:=by
 unfold depF;split
 ·exact Eo h _ _ _
 ·exact qa h (by omega)
theorem Mj {s:ab}(h:Op s s)(r:ae):Op s (trF s r).1/\okO (trF s r).2:=by
 unfold trF;split
 ·exact Eo h _ _ _
 ·exact qa h (by omega)
theorem KH {s:ab}(h:Op s s)(r:ae)(hr:I64 (rqL r))(ha:(1<=r.2.2.2.2.1/\r.2.2.2.2.1<=1099511627776)/\0<=r.2.2.2.2.2.2/\r.2.2.2.2.2.2<=1073741824):Op s (Dp s r).1/\okO (Dp s r).2:=by
 unfold Dp;split
 ·rename_i h1;split
  ·exact qa h (by omega)
  ·split
   ·exact qa h (by omega)
   ·rename_i h3;have hc:=yu s.1 r.2.2.1 r.2.2.2.2.1;have hrt:=Bo h.rt (n:=r.2.2.1) (a:=r.2.2.2.2.1);cases hh:(jP s.1 r.2.2.1 r.2.2.2.2.1).2 with
    |some c=>exact fQ h hc hh
    |none=>
     obtain⟨q1,q2⟩:=hrt hh;refine⟨⟨rfl,q1,?_,λp hp=>?_,by dsimp only;rw[q2];exact MW _⟩,mg (by omega)⟩
     ·dsimp only;rw[MN];simp only[MR,M3];omega
     ·dsimp only at hp ⊢;rw[q2];rcases Nb.1 hp with hp|hp
      ·exact h.ps p hp
      ·rw[Nq]at hp;subst hp;refine⟨h1.1,h1.2,?_,⟨ha.1,⟨by simp,by show(0:Int)<=r.2.2.2.2.1;omega⟩,by simp,by simp,by simp,ha.2,.inl rfl⟩⟩;simp only[rqL,I64,M5,Nu,N6,NU,Oy]at hr;simp only[payL,I64,M5,Nu,N6,NU,Oy];omega
 ·exact qa h (by omega)
theorem Dz (n:Int):-9223372036854775808<=w64 n/\w64 n<=9223372036854775807:=by
 obtain⟨q,_,h1,h2⟩:=iT n;omega
theorem Hj {n:Nat}{p:ag}(h:rU n p)(op a:Int)(hn:op≠5->1<=a)(ht:(fq op p a).2=true):rU n (fq op p a).1:=by
 have hi:=h.i64;have hr:=h.right;unfold payR at hr;simp only[payL,I64,M5,Nu,N6,NU,Oy]at hi;unfold fq at ht ⊢;split
 ·rename_i h4;rw[MZ h4]at ht;have ht:=O9 ht;unfold EX at ht;have ha:=hn (by omega);split at ht
  ·rename_i h0;rw[aO (by omega)]at ht;have e:w64 (p.2.2.2.1+a)=p.2.2.2.1+a:=aO (by omega);rw[e];dsimp only;split
   ·refine⟨h.from_,h.to_,?_,?_⟩
    ·simp only[payL,I64,M5,Nu,N6,NU,Oy];omega
    ·unfold payR;dsimp only;omega
   ·refine⟨h.from_,h.to_,?_,?_⟩
    ·simp only[payL,I64,M5,Nu,N6,NU,Oy];omega
    ·unfold payR;dsimp only;omega
  ·omega
 ·rename_i h4;rw[MV h4]at ht;have hg:zx p=p.2.2.2.1-p.2.2.2.2.1-p.2.2.2.2.2.1:=by
   unfold zx;rw[aO (x:=p.2.2.2.1-p.2.2.2.2.1) (by omega),aO (by omega)]
  split
  ·rename_i h6;rw[MZ h6]at ht;have ht:=O9 ht;have ha:=hn (by omega);rw[hg]at ht;have e:w64 (p.2.2.2.2.1+a)=p.2.2.2.2.1+a:=aO (by omega);rw[e];refine⟨h.from_,h.to_,?_,?_⟩
   ·simp only[payL,I64,M5,Nu,N6,NU,Oy];omega
   ·unfold payR;dsimp only;omega
  ·rename_i h6;rw[MV h6]at ht;split
   ·rename_i h7;rw[MZ h7]at ht;have ht:=O9 ht;have ha:=hn (by omega);rw[hg]at ht;have e:w64 (p.2.2.2.2.2.1+a)=p.2.2.2.2.2.1+a:=aO (by omega);rw[e];refine⟨h.from_,h.to_,?_,?_⟩
    ·simp only[payL,I64,M5,Nu,N6,NU,Oy];omega
    ·unfold payR;dsimp only;omega
   ·refine⟨h.from_,h.to_,?_,?_⟩
    ·simp only[payL,I64,M5,Nu,N6,NU,Oy];omega
    ·unfold payR;dsimp only;omega
theorem Di (op:Int)(p:ag)(n:Int):code (me op p n).2:=by
 unfold me;split
 ·exact bT (by omega)
 ·split
  ·exact gx
  ·exact bT (by omega)
theorem JW {s:ab}{i:Int}(h:¬ (i<0\/(s.2.1.length:Int)<=i)):pAt s i∈s.2.1:=by
 obtain⟨n,rfl⟩:=ND (show 0<=i by omega);unfold pAt;rw[Na,ba s.2.1 n _ (by omega)];exact NF _
theorem rO {s:ab}(h:Op s s)(op:Int)(r:ae):code (ca s op r).2.2/\((ca s op r).2.2=none->rU s.1.length (ca s op r).1/\rU s.1.length (ca s op r).2.1):=by
 unfold ca;split
 ·exact⟨bT (by omega),λhn=>by cases hn⟩
 ·rename_i h1;refine⟨Di _ _ _,λhn=>?_⟩;have hp:=h.ps _ (JW h1);refine⟨hp,?_⟩;dsimp only at hn ⊢;unfold me at hn ⊢;split at hn
  ·cases hn
  ·rename_i h2;split at hn
   ·rename_i h3;rw[MV h2,MZ h3];exact Hj hp _ _ (λh5=>by omega) h3
   ·cases hn
theorem A3 {s:ab}(h:Op s s)(i:Int){q:ag}(hq:rU s.1.length q){w:List Acc×Option Int}(hw:w.2=none->Rt w.1/\w.1.length=s.1.length)(hc:code w.2):Op s (payF s i q w).1/\okO (payF s i q w).2:=by
 unfold payF;obtain⟨ac,e⟩:=w;cases e with
 |some c=>exact fQ h hc rfl
 |none=>
  obtain⟨q1,q2⟩:=hw rfl;dsimp only at q1 q2 ⊢;refine⟨⟨rfl,q1,by dsimp only;rw[MQ];exact h.pl,λp hp=>?_,by dsimp only;rw[q2];exact MW _⟩,mg (by omega)⟩;dsimp only at hp ⊢;rw[q2];rcases N9 hp with hp|hp
  ·exact h.ps p hp
  ·rw[hp];exact hq
theorem LU {s:ab}(h:Op s s)(r:ae):Op s (capF s r).1/\okO (capF s r).2:=by
 unfold capF;obtain⟨hc,hb⟩:=rO h 4 r;cases hn:(ca s 4 r).2.2 with
 |some c=>exact fQ h hc hn
 |none=>
  have hm:=iP s.1 (ca s 4 r).1.1 (ca s 4 r).1.2.1 r.2.2.2.2.1;dsimp only;split
  ·rename_i c he;exact fQ h hm he
  ·exact A3 h _ (hb hn).2 (λhn=>wm h.rt hn) (tH _ _ _)
theorem Jo {s:ab}(h:Op s s)(r:ae):Op s (B3 s r).1/\okO (B3 s r).2:=by
 unfold B3;obtain⟨hc,hb⟩:=rO h 5 r;cases hn:(ca s 5 r).2.2 with
 |some c=>exact fQ h hc hn
 |none=>exact A3 h _ (hb hn).2 (λhn=>uC h.rt hn) (vO _ _ _)
theorem K9 {s:ab}(h:Op s s)(r:ae):Op s (refF s r).1/\okO (refF s r).2:=by
 unfold refF;obtain⟨hc,hb⟩:=rO h 6 r;cases hn:(ca s 6 r).2.2 with
 |some c=>exact fQ h hc hn
 |none=>
  have hm:=iP s.1 (ca s 6 r).1.1 (ca s 6 r).1.2.1 r.2.2.2.2.1;dsimp only;split
  ·rename_i c he;exact fQ h hm he
  ·exact A3 h _ (hb hn).2 (λhn=>(pg h.rt hn).2.2) (m5 _ _)
theorem LQ {s:ab}(h:Op s s)(r:ae):Op s (chgF s r).1/\okO (chgF s r).2:=by
 unfold chgF;obtain⟨hc,hb⟩:=rO h 7 r;cases hn:(ca s 7 r).2.2 with
 |some c=>exact fQ h hc hn
 |none=>
  have hm:=iP s.1 (ca s 7 r).1.1 (ca s 7 r).1.2.1 r.2.2.2.2.1;dsimp only;split
  ·rename_i c he;exact fQ h hm he
  ·exact A3 h _ (hb hn).2 (λhn=>(pg h.rt hn).2.2) (m5 _ _)
theorem A6 {s:ab}(h:Op s s)(r:ae)(hi:r.2.1=3->I64 (rqL r)/\(1<=r.2.2.2.2.1/\r.2.2.2.2.1<=1099511627776)/\0<=r.2.2.2.2.2.2/\r.2.2.2.2.2.2<=1073741824)(hr:r.2.1=0->0<=r.2.2.1/\r.2.2.1<=2):Op s (opsF s r).1/\okO (opsF s r).2:=by
 unfold opsF;split
 ·rename_i h0;exact JX h r (hr h0)
 split
 ·exact LH h r
 split
 ·exact Mj h r
 split
 ·rename_i h3;exact KH h r (hi h3).1 (hi h3).2
 split
 ·exact LU h r
 split
 ·exact Jo h r
 split
 ·exact K9 h r
 split
 ·exact LQ h r
 ·exact qa h (by omega)
theorem yK {s:ab}(h:Op s s){w:List Acc×Option Int}(hw:w.2=none->Rt w.1/\w.1.length=s.1.length)(hc:code w.2):Op s (pF s w).1/\code (pF s w).2/\((pF s w).2≠none->(pF s w).1=s):=by
 unfold pF;obtain⟨ac,e⟩:=w;cases e with
 |some c=>exact⟨h,hc,λ_=>rfl⟩
 |none=>exact⟨Eu h (hw rfl).1 (by rw[(hw rfl).2];exact MW _),gx,λhn=>(hn rfl).elim⟩
theorem Ea {s:ab}(h:Op s s)(r:ae):Op s (resF s r).1/\code (resF s r).2:=by
 unfold resF;split
 ·split
  ·rename_i c he;exact⟨h,by have:=iP s.1 r.2.2.1 r.2.2.2.1 r.2.2.2.2.1;rw[he]at this;exact this⟩
  ·have:=yK h (w:=jP s.1 r.2.2.1 r.2.2.2.2.1) (λhn=>Bo h.rt hn) (yu _ _ _);exact⟨this.1,this.2.1⟩
 ·exact⟨h,bT (by omega)⟩
theorem pL {s:ab}(h:Op s s)(r:ae):Op s (oQ s r).1/\code (oQ s r).2:=by
 unfold oQ;split
 ·rename_i c he;exact⟨h,by have:=iP s.1 r.2.2.1 r.2.2.2.1 r.2.2.2.2.1;rw[he]at this;exact this⟩
 ·have:=yK h (w:=jF s.1 r.2.2.2.2.1 (fk s.1 r.2.2.1 r.2.2.2.1 r.2.2.2.2.1).1) (λhn=>wm h.rt hn) (tH _ _ _);exact⟨this.1,this.2.1⟩
theorem tV {s:ab}(h:Op s s)(r:ae):Op s (DJ s r).1/\code (DJ s r).2:=by
 have:=yK h (w:=relF s.1 r.2.2.1 r.2.2.2.2.1) (λhn=>uC h.rt hn) (vO _ _ _);exact⟨this.1,this.2.1⟩
end Go.Eng.Top
namespace Go.Eng.Top
open Go.RowKit Go.Eng Go.Eng.LVar Go.Eng.LChart Go.Eng.LEnt
set_option maxRecDepth 100000
theorem Op.self {s t:ab}(h:Op s t):Op t t:=⟨rfl,h.rt,h.pl,h.ps,MW _⟩
theorem Op.trans {s t u:ab}(h:Op s t)(k:Op t u):Op s u:=⟨k.rest.trans h.rest,k.rt,k.pl,k.ps,Ns h.ac k.ac⟩
def sagR (g:bk):Prop:=(0<=g.2.2.1/\g.2.2.1<=g.1.2.2.2.2.2.1)/\(0<=g.2.2.2.1/\g.2.2.2.1<=4)/\((g.2.1=0/\g.2.2.2.2=0/\g.2.2.2.1<=3/\(g.2.2.2.1=0\/g.2.2.1<g.1.2.2.2.2.2.1))\/(g.2.1=1/\1<=g.2.2.2.2/\g.2.2.2.2<=13/\g.2.2.2.2≠8/\g.2.2.2.2≠12))
structure Inv (s:ab):Prop where
 op:Op s s
 gl:s.2.2.1.length<=16
 gs:∀g∈s.2.2.1,I64 (sagL g)
 kl:s.2.2.2.1.length<=256
 ks:∀k∈s.2.2.2.1,I64 (knL k)
 now:0<=s.2.2.2.2/\s.2.2.2.2<=1073741824
 gk:∀g∈s.2.2.1,∃i,fnd g.1.1 s.2.2.2.1=some i/\(s.2.2.2.1.getD i d0).2.2=false
 gd:(s.2.2.1.map λg=>g.1.1).Nodup
 gr:∀g∈s.2.2.1,mayB g.1=true/\sagR g
 kr:∀k∈s.2.2.2.1,mayB k.1=true/\okO k.2.1
theorem fc {α:Type}{f:α->List Int}{l:List α}(h:∀x∈l,I64 (f x)):I64 (l.flatMap f):=by
 intro x hx;obtain⟨a,ha,hx⟩:=Nw.1 hx;exact h a ha x hx
theorem IM {ac:List Acc}(h:Rt ac):∀a∈ac,I64 (acL a):=by
 intro a ha;obtain⟨k,hk,rfl⟩:=PK ha;obtain⟨h1,h2,h3,h4,h5,h6⟩:=h.ok k hk;simp only[acL,I64,M5,Nu,N6,NU,Oy];by_cases h9:k<9
 ·have:=h5 h9;omega
 ·have:=h6 (by omega);omega
theorem Inv.st {s:ab}(h:Inv s):StOk s where
 now:=by have:=h.now;omega
 ac:=fc (IM h.op.rt)
 acl:=by have:=h.op.rt.hi;omega
 ps:=fc λp hp=>(h.op.ps p hp).i64
 psl:=by have:=h.op.pl;omega
 gs:=fc h.gs
 gsl:=by have:=h.gl;omega
 ks:=fc h.ks
 ksl:=by have:=h.kl;omega
theorem Ap (ks:List aN)(r:ae):(askF ks r).2=(fnd r.1 ks).isSome:=by
 unfold askF;cases fnd r.1 ks with
 |none=>rfl
 |some i=>
  dsimp only;split
  ·split<;>rfl
  ·rfl
theorem A0 {ks:List aN}{r:ae}(hf:fnd r.1 ks=none):putF ks r=if 256<=ks.length then([],some 7)else(ks++[(r,(0,0),false)],none):=by
 unfold putF;rw[hf]
theorem l8 {ks:List aN}{r:ae}(hf:fnd r.1 ks=none)(o:ah):pJ (ks++[(r,(0,0),false)]) r.1 o=(ks++[(r,o,true)],none):=by
 unfold pJ;rw[nQ,hf];simp only[Oq];rw[qU];simp only[Nv,NT];rw[G1]
theorem yP {ks:List aN}{key:Int}{i:Nat}(hf:fnd key ks=some i)(ht:(ks.getD i d0).2.2=false)(o:ah):pJ ks key o=(ks.set i ((ks.getD i d0).1,o,true),none):=by
 unfold pJ;rw[hf];dsimp only;rw[ht,MV (by simp)]
def DT (s:ab)(r:ae):Prop:=mayB r=false\/(fnd r.1 s.2.2.2.1).isSome=true
theorem Bn {r:ae}{o:ah}{b:Bool}(hr:I64 (rqL r))(h1:-9223372036854775808<=o.1/\o.1<=9223372036854775807)(h2:-9223372036854775808<=o.2/\o.2<=9223372036854775807):I64 (knL (r,o,b)):=by
 unfold knL;refine cL.2 ⟨hr,cL.2 ⟨aY.2 ⟨h1,aY.2 ⟨h2,by simp[I64]⟩⟩,?_⟩⟩;cases b<;>simp[I64]
def xj (s t:ab):Prop:=∃l,cy t.2.2.2.1=cy s.2.2.2.1++l
theorem dO (s:ab):xj s s:=⟨[],(NJ _).symm⟩
theorem I4 {gs:List bk}{ks:List aN}(kn:aN)(h:∀g∈gs,∃i,fnd g.1.1 ks=some i/\(ks.getD i d0).2.2=false):∀g∈gs,∃i,fnd g.1.1 (ks++[kn])=some i/\((ks++[kn]).getD i d0).2.2=false:=by
 intro g hg;obtain⟨i,h1,h2⟩:=h g hg;obtain⟨h3,_⟩:=ic h1;exact⟨i,by rw[nQ,h1],by rw[cj _ _ _ h3];exact h2⟩
theorem E5 {s t:ab}(h:Inv s)(ht:Op s t)(kn:aN)(hk:I64 (knL kn))(hkr:mayB kn.1=true/\okO kn.2.1)(hl:¬ 256<=s.2.2.2.1.length):Inv (t.1,t.2.1,s.2.2.1,s.2.2.2.1++[kn],s.2.2.2.2) where
 op:=⟨rfl,ht.rt,ht.pl,ht.ps,MW _⟩
 gl:=h.gl
 gs:=h.gs
 kl:=by dsimp only;rw[MN];simp only[MR,M3];omega
 ks:=λk hk2=>by
  dsimp only at hk2;rcases Nb.1 hk2 with hk2|hk2
  ·exact h.ks k hk2
  ·rw[Nq]at hk2;rw[hk2];exact hk
 now:=h.now
 gk:=I4 kn h.gk
 gd:=h.gd
 gr:=h.gr
 kr:=λk hk2=>by
  dsimp only at hk2;rcases Nb.1 hk2 with hk2|hk2
  ·exact h.kr k hk2
  ·rw[Nq]at hk2;rw[hk2];exact hkr
theorem HE {r:ae}(hr:I64 (rqL r)):I64 (sagL (r,0,0,0,0)):=by
 unfold sagL;exact cL.2 ⟨hr,by simp[I64]⟩
theorem EL {r:ae}(h:mayB r=true):0<=r.2.2.2.2.2.1/\r.2.2.2.2.2.1<=4:=by
 unfold mayB at h;split at h
 ·cases h
 ·omega
theorem HC {s t:ab}(h:Inv s)(ht:Op s t)(r:ae)(hm:mayB r=true)(hr:I64 (rqL r))(hl:¬ 256<=s.2.2.2.1.length)(hg:¬ 16<=s.2.2.1.length)(hf:fnd r.1 s.2.2.2.1=none):Inv (t.1,t.2.1,s.2.2.1++[(r,0,0,0,0)],s.2.2.2.1++[(r,(0,0),false)],s.2.2.2.2) where
 op:=⟨rfl,ht.rt,ht.pl,ht.ps,MW _⟩
 gl:=by dsimp only;rw[MN];simp only[MR,M3];omega
 gs:=λg hg2=>by
  dsimp only at hg2;rcases Nb.1 hg2 with hg2|hg2
  ·exact h.gs g hg2
  ·rw[Nq]at hg2;rw[hg2];exact HE hr
 kl:=by dsimp only;rw[MN];simp only[MR,M3];omega
 ks:=λk hk2=>by
  dsimp only at hk2;rcases Nb.1 hk2 with hk2|hk2
  ·exact h.ks k hk2
  ·rw[Nq]at hk2;rw[hk2];exact Bn hr (by simp) (by simp)
 now:=h.now
 gk:=λg hg2=>by
  dsimp only at hg2 ⊢;rcases Nb.1 hg2 with hg2|hg2
  ·exact I4 _ h.gk g hg2
  ·rw[Nq]at hg2;subst hg2;refine⟨s.2.2.2.1.length,?_,by rw[qU]⟩;rw[nQ];dsimp only;rw[hf];simp
 gd:=by
  dsimp only;rw[OF,O8];refine⟨h.gd,by simp,?_⟩;intro a ha b hb;simp only[Nc,Of,Nq]at hb;obtain⟨g,hg3,rfl⟩:=Nt.1 ha;obtain⟨i,h1,_⟩:=h.gk g hg3;intro e;rw[e,hb,hf]at h1;cases h1
 gr:=λg hg2=>by
  dsimp only at hg2;rcases Nb.1 hg2 with hg2|hg2
  ·exact h.gr g hg2
  ·rw[Nq]at hg2;subst hg2;have:=EL hm;exact⟨hm,⟨by simp,this.1⟩,⟨by simp,by simp⟩,.inl ⟨rfl,rfl,by simp,.inl rfl⟩⟩
 kr:=λk hk2=>by
  dsimp only at hk2;rcases Nb.1 hk2 with hk2|hk2
  ·exact h.kr k hk2
  ·rw[Nq]at hk2;rw[hk2];exact⟨hm,mg (by omega)⟩
theorem uT {r:ae}(h:mayB r=true):(0<=r.2.2.2.2.2.2/\r.2.2.2.2.2.2<=1073741824)/\(r.2.1=3->1<=r.2.2.2.2.1/\r.2.2.2.2.1<=1099511627776):=by
 unfold mayB at h;split at h
 ·cases h
 ·rename_i h0;refine⟨by omega,λh3=>?_⟩;split at h
  ·cases h
  ·rw[MV (by omega),MV (by omega),MZ (by omega)]at h;exact O9 h
theorem EM {r:ae}(h:mayB r≠false)(h0:r.2.1=0):0<=r.2.2.1/\r.2.2.1<=2:=by
 unfold mayB at h;split at h
 ·exact(h rfl).elim
 ·split at h
  ·exact(h rfl).elim
  ·have:=O9 (by simpa using h:decide (0<=r.2.2.1/\r.2.2.1<3)=true);omega
theorem Jy {s:ab}(h:Inv s)(r:ae)(hr:I64 (rqL r)):Inv (subF s r).1/\xj s (subF s r).1/\((subF s r).2.1=7\/DT (subF s r).1 r):=by
 unfold subF;by_cases hm:mayB r=false
 ·rw[MZ hm];exact⟨h,dO s,.inr (.inl hm)⟩
 rw[MV hm];have hmt:mayB r=true:=by cases hq:mayB r with|true=>rfl|false=>exact(hm hq).elim
 by_cases hk:(askF s.2.2.2.1 r).2=true
 ·rw[MZ hk];rw[Ap]at hk;exact⟨h,dO s,.inr (.inr hk)⟩
 rw[MV hk];have hf:fnd r.1 s.2.2.2.1=none:=by
  rw[Ap]at hk;cases hf:fnd r.1 s.2.2.2.1 with
  |none=>rfl
  |some i=>rw[hf]at hk;simp at hk
 by_cases hl:long r/\16<=(s.2.2.1.length:Int)
 ·rw[MZ hl];exact⟨h,dO s,.inl rfl⟩
 rw[MV hl,A0 hf];by_cases h256:256<=s.2.2.2.1.length
 ·rw[MZ h256];exact⟨h,dO s,.inl rfl⟩
 rw[MV h256];dsimp only;have hgr:∀(a:List Acc) (b:List ag) (c:List bk) (d:Int) (kn:aN),xj s (a,b,c,s.2.2.2.1++[kn],d):=λa b c d kn=>⟨[kn.1.1],by unfold cy;simp⟩
 have hset:∀(a:List Acc) (b:List ag) (c:List bk) (d:Int) (o:ah) (x:Bool),DT (a,b,c,s.2.2.2.1++[(r,o,x)],d) r:=λa b c d o x=>by
  refine .inr ?_;dsimp only;rw[nQ,hf];simp
 by_cases hlo:long r
 ·rw[MZ hlo];obtain⟨q1,q2⟩:=Ea h.op r;cases hc:(resF s r).2 with
  |some c=>
   dsimp only;rw[l8 hf];have:=q2 c hc;exact⟨E5 h h.op _ (Bn hr (by dsimp only;omega) (by dsimp only;omega)) ⟨hmt,kY this⟩ h256,hgr _ _ _ _ _,.inr (hset _ _ _ _ _ _)⟩
  |none=>
   dsimp only;have e1:(resF s r).1.2.2.1=s.2.2.1:=by rw[q1.rest]
   have e2:(resF s r).1.2.2.2.2=s.2.2.2.2:=by rw[q1.rest]
   rw[e1,e2];exact⟨HC h q1 r hmt hr h256 (by omega) hf,hgr _ _ _ _ _,.inr (hset _ _ _ _ _ _)⟩
 ·rw[MV hlo];obtain⟨q1,q2⟩:=A6 h.op r (λh3=>⟨hr,(uT hmt).2 h3,(uT hmt).1⟩) (EM hm);have e1:(opsF s r).1.2.2.1=s.2.2.1:=by rw[q1.rest]
  have e2:(opsF s r).1.2.2.2.2=s.2.2.2.2:=by rw[q1.rest]
  rw[l8 hf,e1,e2];obtain⟨⟨o1,o2⟩,⟨o3,o4⟩,o5⟩:=id q2;exact⟨E5 h q1 _ (Bn hr (by omega) (by omega)) ⟨hmt,q2⟩ h256,hgr _ _ _ _ _,.inr (hset _ _ _ _ _ _)⟩
theorem GZ {α:Type}(l:List α)(i:Nat)(h:i<l.length):l=l.take i++l[i]::l.drop (i+1):=by
 rw[<- Nr h,PA]
theorem E6 {s t:ab}(h:Inv s)(ht:Op s t)(i:Nat)(hi:i<s.2.2.1.length)(o:ah)(ho:okO o):Inv (endF t i o).1/\xj s (endF t i o).1:=by
 obtain⟨tr⟩:=ht;rename_i hrt hpl hps hac;have h1:-9223372036854775808<=o.1/\o.1<=9223372036854775807:=by have:=ho.1;omega
 have h2:-9223372036854775808<=o.2/\o.2<=9223372036854775807:=by have:=ho.2.1;omega
 unfold endF;dsimp only;have e1:t.2.2.1=s.2.2.1:=by rw[tr]
 have e2:t.2.2.2.1=s.2.2.2.1:=by rw[tr]
 have e3:t.2.2.2.2=s.2.2.2.2:=by rw[tr]
 rw[e1,e2,e3,ba s.2.2.1 i zG hi];have hsp:=GZ s.2.2.1 i hi;have hmem:∀g,g∈s.2.2.1.take i++s.2.2.1.drop (i+1)->g∈s.2.2.1:=by
  intro g hg;rcases Nb.1 hg with hg|hg
  ·exact OA hg
  ·exact Qf hg
 obtain⟨j,f1,f2⟩:=h.gk _ (NF hi);obtain⟨hj,hjk⟩:=ic f1;rw[yP f1 f2];have hnd:=h.gd;rw[hsp,OF,Nc,O8]at hnd;obtain⟨n1,n2,n3⟩:=hnd;rw[OE]at n2;have hne:∀g,g∈s.2.2.1.take i++s.2.2.1.drop (i+1)->g.1.1≠(s.2.2.1[i]).1.1:=by
  intro g hg e;rcases Nb.1 hg with hg|hg
  ·exact n3 _ (Nt.2 ⟨g,hg,rfl⟩) _ (NI ..) e
  ·exact n2.1 (e ▸ Nt.2 ⟨g,hg,rfl⟩)
 have hko:cy (s.2.2.2.1.set j ((s.2.2.2.1.getD j d0).1,o,true))=cy s.2.2.2.1:=tk _ _ _ hj (by rw[ba _ _ _ hj]);refine⟨⟨⟨rfl,hrt,hpl,hps,MW _⟩,?_,λg hg=>h.gs g (hmem g hg),?_,?_,h.now,?_,?_,λg hg=>h.gr g (hmem g hg),λk hk=>?_⟩,⟨[],by dsimp only;rw[hko,NJ]⟩⟩
 ·dsimp only;have:=h.gl;rw[MN,NR,Oa];omega
 ·dsimp only;rw[MQ];exact h.kl
 ·intro k hk;dsimp only at hk;rcases N9 hk with hk|hk
  ·exact h.ks k hk
  ·subst hk;have:=h.ks _ (NF hj);unfold knL at this;rw[ba _ _ _ hj];exact Bn (cL.1 this).1 h1 h2
 ·intro g hg;dsimp only at hg ⊢;obtain⟨j2,g1,g2⟩:=h.gk g (hmem g hg);have hjj:j≠j2:=by
   intro e;subst e;obtain⟨_,hk2⟩:=ic g1;exact hne g hg (hk2.symm.trans hjk)
  refine⟨j2,?_,by rw[getD_set_ne _ _ _ hjj];exact g2⟩;unfold fnd at g1 ⊢;rw[hko];exact g1
 ·dsimp only;rw[OF,O8];exact⟨n1,n2.2,λa ha b hb=>n3 a ha b (Nf _ hb)⟩
 ·dsimp only at hk;rcases N9 hk with hk|hk
  ·exact h.kr k hk
  ·subst hk;rw[ba _ _ _ hj];exact⟨(h.kr _ (NF hj)).1,ho⟩
theorem Bm {s:ab}(h:Inv s)(i:Nat)(hi:i<s.2.2.1.length)(g:bk)(hg:I64 (sagL g))(hk:g.1=(s.2.2.1[i]).1)(hgr:sagR g):Inv (putG s i g).1/\xj s (putG s i g).1:=by
 have hm:(s.2.2.1.set i g).map (λg=>g.1.1)=s.2.2.1.map λg=>g.1.1:=by
  rw[Qx,hk];have:(s.2.2.1[i]).1.1=(s.2.2.1.map λg=>g.1.1)[i]'(by rw[NW];exact hi):=by rw[P7]
  rw[this,OT]
 refine⟨⟨⟨rfl,h.op.rt,h.op.pl,h.op.ps,MW _⟩,by show(s.2.2.1.set i g).length<=16;rw[MQ];exact h.gl,?_,h.kl,h.ks,h.now,?_,by show((s.2.2.1.set i g).map _).Nodup;rw[hm];exact h.gd,?_,h.kr⟩,dO s⟩
 ·intro x hx;rcases N9 (show x∈s.2.2.1.set i g from hx)with hx|hx
  ·exact h.gs x hx
  ·rw[hx];exact hg
 ·intro x hx;rcases N9 (show x∈s.2.2.1.set i g from hx)with hx|hx
  ·exact h.gk x hx
  ·subst hx;rw[hk];exact h.gk _ (NF hi)
 ·intro x hx;rcases N9 (show x∈s.2.2.1.set i g from hx)with hx|hx
  ·exact h.gr x hx
  ·subst hx;exact⟨by rw[hk];exact(h.gr _ (NF hi)).1,hgr⟩
theorem AM {g:bk}(h:I64 (sagL g)){a b c d:Int}(hb:∀x∈[a,b,c,d],-9223372036854775808<=x/\x<=9223372036854775807):I64 (sagL (g.1,a,b,c,d)):=by
 unfold sagL at h ⊢;exact cL.2 ⟨(cL.1 h).1,hb⟩
theorem yW {g:bk}(h:I64 (sagL g)):∀x∈[g.2.1,g.2.2.1,g.2.2.2.1,g.2.2.2.2],-9223372036854775808<=x/\x<=9223372036854775807:=by
 unfold sagL at h;exact(cL.1 h).2
theorem Lo {g:bk}(h:I64 (sagL g))(ok:Bool):I64 (sagL (legF g ok))/\(legF g ok).1=g.1:=by
 have hg:=yW h;have w1:=Dz (g.2.2.1+1);have w2:=Dz (g.2.2.2.1+1);simp only[M5,Nu,N6,NU,Oy]at hg;unfold legF;split
 ·split
  ·exact⟨AM h (by simp only[M5,Nu,N6,NU,Oy];omega),rfl⟩
  ·split
   ·exact⟨AM h (by simp only[M5,Nu,N6,NU,Oy];omega),rfl⟩
   ·exact⟨AM h (by simp only[M5,Nu,N6,NU,Oy];omega),rfl⟩
 ·exact⟨h,rfl⟩
theorem Ms {g:bk}(h:sagR g)(hl:g.1.2.2.2.2.2.1<=4)(ok:Bool):sagR (legF g ok):=by
 unfold legF;unfold sagR at h;split
 ·rename_i h0;have e1:w64 (g.2.2.1+1)=g.2.2.1+1:=aO (by omega);have e2:w64 (g.2.2.2.1+1)=g.2.2.2.1+1:=aO (by omega);rw[e1,e2];split
  ·unfold sagR;dsimp only;omega
  ·split
   ·unfold sagR;dsimp only;omega
   ·unfold sagR;dsimp only;omega
 ·exact h
theorem KW {g:bk}(h:sagR g){c:Int}(hc:1<=c/\c<=13/\c≠8/\c≠12):sagR (wb g c):=by
 unfold wb;unfold sagR at h;split
 ·unfold sagR;dsimp only;omega
 ·exact h
theorem Jt {g:bk}(h:I64 (sagL g)){c:Int}(hc:1<=c/\c<=13/\c≠8/\c≠12):I64 (sagL (wb g c))/\(wb g c).1=g.1:=by
 have hg:=yW h;simp only[M5,Nu,N6,NU,Oy]at hg;unfold wb;split
 ·exact⟨AM h (by simp only[M5,Nu,N6,NU,Oy];omega),rfl⟩
 ·exact⟨h,rfl⟩
theorem ri {key:Int}{gs:List bk}{i:Nat}(h:fndG key gs=some i):i<gs.length:=by
 obtain⟨h1,_⟩:=rf h;rw[NW]at h1;exact h1
theorem GX {s:ab}(h:Inv s)(key:Int)(ok:Bool):Inv (tY s key ok).1/\xj s (tY s key ok).1:=by
 unfold tY;cases hf:fndG key s.2.2.1 with
 |none=>exact⟨h,dO s⟩
 |some i=>
  have hi:=ri hf;dsimp only;rw[ba s.2.2.1 i zG hi];have hg:=h.gs _ (NF hi);have hgg:=yW hg;simp only[M5,Nu,N6,NU,Oy]at hgg;have hrr:=h.gr _ (NF hi);generalize he:s.2.2.1[i]=g at hg hgg hrr ⊢;split
  ·rename_i h1;exact E6 h (tV h.op g.1).1 i hi _ (kY (by have:=hrr.2;unfold sagR at this;omega))
  ·split
   ·have hs:=pL h.op g.1;cases hc:(oQ s g.1).2 with
    |none=>exact E6 h hs.1 i hi _ (mg (by omega))
    |some c=>
     obtain⟨q1,q2⟩:=Jt hg (hs.2 c hc);exact Bm h i hi _ q1 (by rw[q2,he]) (KW hrr.2 (hs.2 c hc))
   ·obtain⟨q1,q2⟩:=Lo hg ok;exact Bm h i hi _ q1 (by rw[q2,he]) (Ms hrr.2 (EL hrr.1).2 ok)
theorem o9:∀(l:List Int)(s:ab),Op s s->Op s (DG l s)
 |[],s,h=>h
 |k::l,s,h=>by
  have h1:=(A6 h (0,5,k,0,0,0,0) (λe=>by simp at e) (λe=>by simp at e)).1;exact h1.trans (o9 l _ h1.self)
theorem GV {s:ab}(h:Inv s):Inv (wg s)/\xj s (wg s):=by
 unfold wg;split
 ·exact⟨h,dO s⟩
 ·rename_i hn;have hnow:=h.now;have e:w64 (s.2.2.2.2+1)=s.2.2.2.2+1:=aO (by omega);rw[e];have h0:Op (s.1,s.2.1,s.2.2.1,s.2.2.2.1,s.2.2.2.2+1) (s.1,s.2.1,s.2.2.1,s.2.2.2.1,s.2.2.2.2+1):=⟨rfl,h.op.rt,h.op.pl,h.op.ps,MW _⟩
  have h1:=o9 (rF s.2.1 (s.2.2.2.2+1)) _ h0;generalize DG (rF s.2.1 (s.2.2.2.2+1)) (s.1,s.2.1,s.2.2.1,s.2.2.2.1,s.2.2.2.2+1)=t at h1;have e1:t.2.2.1=s.2.2.1:=by rw[h1.rest]
  have e2:t.2.2.2.1=s.2.2.2.1:=by rw[h1.rest]
  have e3:t.2.2.2.2=s.2.2.2.2+1:=by rw[h1.rest]
  exact⟨⟨h1.self,by rw[e1];exact h.gl,by rw[e1];exact h.gs,by rw[e2];exact h.kl,by rw[e2];exact h.ks,by rw[e3];omega,by rw[e1,e2];exact h.gk,by rw[e1];exact h.gd,by rw[e1];exact h.gr,by rw[e2];exact h.kr⟩,⟨[],by rw[e2,NJ]⟩⟩
theorem tE {s:ab}(h:Inv s)(e:aD)(hr:I64 (rqL e.2.1)):Inv (doF s e).1/\xj s (doF s e).1:=by
 unfold doF;split
 ·have:=Jy h e.2.1 hr;exact⟨this.1,this.2.1⟩
 ·split
  ·exact GX h _ _
  ·split
   ·exact GV h
   ·exact⟨h,dO s⟩
def s0:ab:=([(0,0,0),(0,0,0),(0,0,0),(1,0,0),(1,0,0),(1,0,0),(2,0,0),(2,0,0),(2,0,0)],[],[],[],0)
theorem inv0:Inv s0 where
 op:=by
  refine⟨rfl,⟨by decide,by decide,λk hk=>?_,λc=>?_⟩,by decide,λp hp=>(by cases hp),MW _⟩
  ·have hk9:k<9:=hk;have:=(sW s0.1 0).1 (by decide) k hk;rw[NO]at this;exact this
  ·unfold sums cur s0;simp
 gl:=by decide
 gs:=λg hg=>by cases hg
 kl:=by decide
 ks:=λg hg=>by cases hg
 now:=by decide
 gk:=λg hg=>by cases hg
 gd:=Pq
 gr:=λg hg=>by cases hg
 kr:=λg hg=>by cases hg
end Go.Eng.Top
