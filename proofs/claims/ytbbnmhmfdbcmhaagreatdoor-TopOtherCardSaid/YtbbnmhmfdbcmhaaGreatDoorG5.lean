/- Definitions and lemmas for the law TopOther: what the program's functions come to. Conditions: as each lemma says. -/
import Derived.Test.YtbbnmhmfdbcmhaaGreatDoorG4
set_option linter.all false
set_option linter.unusedVariables false
set_option linter.unusedSimpArgs false
set_option linter.deprecated false
namespace Go.Eng.LFrm
open Go.Eng Go.Eng.LCrc
theorem KY (a b : Nat) (ha : a < 256) (hb : b < 256) : bY .i64 .or ((a * 256 : Nat) : Int) (b : Int) = ((a * 256 + b : Nat) : Int) := by
  show w64 ((BitVec.ofInt 64 ((a * 256 : Nat) : Int) ||| BitVec.ofInt 64 (b : Int)).toNat : Int) = _
  have e1 : (BitVec.ofInt 64 ((a * 256 : Nat) : Int)).toNat = a * 256 := by rw [Ow]; omega
  have e2 : (BitVec.ofInt 64 (b : Int)).toNat = b := by rw [Ow]; omega
  rw [Pq, e1, e2, Qh a 256, show (256 : Nat) = 2 ^ 8 from rfl, ← OW (show b < 2 ^ 8 by omega) a, aO (by omega)]
theorem Ec (i p a b : Nat) (hp : p = 2 ^ i) (h : p * a + b < 4294967296) (hb : b < p) : bY .u32 .or ((p * a : Nat) : Int) (b : Int) = ((p * a + b : Nat) : Int) := by
  show w32 ((BitVec.ofInt 32 ((p * a : Nat) : Int) ||| BitVec.ofInt 32 (b : Int)).toNat : Int) = _
  have e1 : (BitVec.ofInt 32 ((p * a : Nat) : Int)).toNat = p * a := by rw [Ow]; omega
  have e2 : (BitVec.ofInt 32 (b : Int)).toNat = b := by rw [Ow]; omega
  have e3 : p * a ||| b = p * a + b := by subst hp; exact (OW hb a).symm
  rw [Pq, e1, e2, e3, vN (by omega) (by omega)]
theorem Lh (a b c d : Nat) (ha : a < 256) (hb : b < 256) (hc : c < 256) (hd : d < 256) :
    bY .u32 .or (bY .u32 .or (bY .u32 .or (w32 (w32 (a : Int) * 16777216)) (w32 (w32 (b : Int) * 65536))) (w32 (w32 (c : Int) * 256))) (w32 (d : Int)) = ((a * 16777216 + b * 65536 + c * 256 + d : Nat) : Int) := by
  have w : ∀ x : Nat, x < 256 → w32 (x : Int) = (x : Int) := fun x hx => vN (by omega) (by omega)
  rw [w a ha, w b hb, w c hc, w d hd]
  have e1 : w32 ((a : Int) * 16777216) = ((16777216 * a : Nat) : Int) := by rw [vN (by omega) (by omega)]; omega
  have e2 : w32 ((b : Int) * 65536) = ((b * 65536 : Nat) : Int) := by rw [vN (by omega) (by omega)]; omega
  have e3 : w32 ((c : Int) * 256) = ((c * 256 : Nat) : Int) := by rw [vN (by omega) (by omega)]; omega
  rw [e1, e2, e3, Ec 24 16777216 a (b * 65536) rfl (by omega) (by omega)]
  rw [show 16777216 * a + b * 65536 = 65536 * (256 * a + b) by omega, Ec 16 65536 (256 * a + b) (c * 256) rfl (by omega) (by omega)]
  rw [show 65536 * (256 * a + b) + c * 256 = 256 * (256 * (256 * a + b) + c) by omega, Ec 8 256 (256 * (256 * a + b) + c) d rfl (by omega) (by omega)]
  congr 1
  omega
def head (n s:Int):List Int:=[n / 256 % 256,n % 256,s / 16777216 % 256,s / 65536 % 256,s / 256 % 256,s % 256]
def fr (x:List Int):List Int:=head (x.length:Int) (oJ x)++x
theorem iJ (x:List Int):(fr x).length=6+x.length:=by simp [fr,head];omega
theorem Hp (n s:Int):Byt (head n s):=by
 intro y hy;simp only [head,MO,Nf,NS] at hy;omega
theorem Bs {x:List Int} (h:Byt x):Byt (fr x):=Byt.append (Hp _ _) h
def lenOf (b:List Int):Int:=b.getD 0 0 * 256+b.getD 1 0
def smOf (b:List Int):Int:=b.getD 2 0 * 16777216+b.getD 3 0 * 65536+b.getD 4 0 * 256+b.getD 5 0
def rec1 (b:List Int):Option (List Int) :=
 if b.length < 6\/16384 < lenOf b\/(b.length:Int) < 6+lenOf b then none else if oJ ((b.drop 6).take (lenOf b).toNat)=smOf b then some ((b.drop 6).take (lenOf b).toNat) else none
def ans1:Option (List Int)->List Int × Int × Bool
 | none=>([],0,false)
 | some x=>(x,6+(x.length:Int),true)
theorem byt_get {b:List Int} (h:Byt b)(i:Nat):0<=b.getD i 0/\b.getD i 0<=255:=by
 rw [MT];cases hq:b[i]? with
 | none=>simp
 | some y=>exact h y (MY hq)
theorem A0 {x r:List Int} (hx:x.length<=16384):lenOf (fr x++r)=(x.length:Int):=by
 show (x.length:Int) / 256 % 256 * 256+(x.length:Int) % 256=_;omega
theorem Jh (x r:List Int):smOf (fr x++r)=oJ x:=by
 show oJ x / 16777216 % 256 * 16777216+oJ x / 65536 % 256 * 65536+oJ x / 256 % 256 * 256+oJ x % 256=_;have:=Am x;omega
theorem Kc (x r:List Int):(fr x++r).drop 6=x++r:=by simp [fr,head]
theorem AQ (x r:List Int)(hx:x.length<=16384):rec1 (fr x++r)=some x:=by
 unfold rec1;rw [A0 hx,Jh,Kc,MV,List.take_left']
 ·rw [MG,MK rfl];rw [My,iJ];omega
 ·rfl
theorem HZ (x:List Int)(hl:x.length<=16384)(q:Nat)(hq:q < 6+x.length):rec1 ((fr x).take q)=none:=by
 have hfl:=iJ x;have hlen:((fr x).take q).length=q:=by rw [NC];omega
 unfold rec1;by_cases h6:q < 6
 ·rw [MK (.inl (by omega))]
 ·have hlo:lenOf ((fr x).take q)=(x.length:Int):=by
   have:=A0 (x:=x) (r:=[]) hl;rw [Ns] at this;rw [<- this];unfold lenOf;simp only [MT];rw [PR (by omega),PR (by omega)]
  rw [MK (.inr (.inr (by rw [hlo,hlen];omega)))]
end Go.Eng.LFrm
namespace Go.Eng.Top
open Go.RowKit Go.Eng Go.Eng.LVar Go.Eng.LCrc Go.Eng.LFrm
set_option maxRecDepth 100000
theorem shr8 {n:Int} (h:0<=n)(d:Int)(hd:0 < d):Int.fdiv n d=n / d:=Oq _ (by omega)
theorem EB (x:List Int)(hl:x.length<=140737488351232):Ev1 (fun k=>CF k xm gM [inj BB x]) (if 16384 < x.length then ([],false) else (fr x,true)):=by
 refine Ev1.step (fun k=>xR k x _ rfl _ rfl) ?_;by_cases h:16384 < x.length
 ·rw [MK h];exact Ev1.posD (by omega) (Ev1.now _)
 ·rw [MG h];refine Ev1.negD (by omega) (Ev1.bind (Iq x (by omega)) (Ev1.posD (by simp only [MC,ML];omega) (Ev1.const ?_)));have hs:=Am x;unfold fr head;rw [shr8 (by omega) _ (by omega),shr8 (by omega) _ (by omega),shr8 (by omega) _ (by omega),shr8 (by omega) _ (by omega),nX,nX,nX,nX,nX,nX]
theorem Fv (b:Bool):Ev1 (fun k=>CF k xt gO [inj .bool b]) (if b=true then 1 else 0):=by
 refine Ev1.step (fun k=>xV k b) ?_;cases b with
 | true=>exact Ev1.pos rfl (Ev1.now _)
 | false=>exact Ev1.neg rfl (Ev1.now _)
def rqL (r:ae):List Int:=[r.1,r.2.1,r.2.2.1,r.2.2.2.1,r.2.2.2.2.1,r.2.2.2.2.2.1,r.2.2.2.2.2.2]
theorem pO (r:ae)(h:I64 (rqL r)):Ev1 (fun k=>CF k qO cO [inj aq r]) (encs (rqL r)) :=
 Ev1.step (fun k=>qX k r) (Ev1.bind (Ev1.step (fun k=>nL k r) (Ev1.now _)) (Ev1.bind (iO (rqL r) h (by simp [rqL])) (Ev1.now _)))
theorem DP (r:ai)(h:I64 [r.1,r.2]):Ev1 (fun k=>CF k qN fP [inj aN r]) (encs [r.1,r.2]) :=
 Ev1.step (fun k=>qW k r) (Ev1.bind (iO [r.1,r.2] h (by simp)) (Ev1.now _))
def evL (e:aD):List Int:=e.1::(if e.1=0 then rqL e.2.1 else if e.1=1 then [e.2.2.1,if e.2.2.2=true then 1 else 0] else [])
theorem aX {n:Int} {l:List Int}:I64 (n::l) ↔ (-9223372036854775808<=n/\n<=9223372036854775807)/\I64 l:=by simp [I64]
theorem HV (e:aD)(h:I64 (evL e)):Ev1 (fun k=>CF k u5 je [inj aI e]) (encs (evL e)):=by
 unfold evL at h;obtain ⟨h0,h1⟩:=aX.1 h;refine Ev1.step (fun k=>vj k e) (Ev1.bind (iO [e.1] (by simpa [I64] using h0) (by simp)) ?_);have hl:=aG (ns:=[e.1]) (by simpa [I64] using h0);unfold evL;by_cases c0:e.1=0
 ·rw [MK c0] at h1 ⊢;have hl2:=aG h1;refine Ev1.posD c0 (Ev1.bind (pO e.2.1 h1) (Ev1.posD (by simp only [rqL,MC,ML] at hl hl2 ⊢;omega) (Ev1.const ?_)));rw [<- aH];rfl
 ·rw [MG c0] at h1 ⊢;refine Ev1.negD c0 ?_;by_cases c1:e.1=1
  ·rw [MK c1] at h1 ⊢;have hl2:=aG h1;refine Ev1.posD c1 (Ev1.bind (Fv e.2.2.2) (Ev1.bind (iO [e.2.2.1,if e.2.2.2=true then 1 else 0] h1 (by simp)) (Ev1.posD (by simp only [MC,ML] at hl hl2 ⊢;omega) (Ev1.const ?_))));rw [<- aH];rfl
  ·rw [MG c1];exact Ev1.negD c1 (Ev1.now _)
theorem FP (e:aD)(h:I64 (evL e)):(encs (evL e)).length<=80:=by
 have:=aG h;have h2:(evL e).length<=8:=by unfold evL rqL;split<;>(try split)<;>simp
 omega
end Go.Eng.Top
namespace Go.Eng.Top
open Go.RowKit Go.Eng Go.Eng.LVar Go.Eng.LCrc Go.Eng.LFrm
set_option maxRecDepth 100000
def acL (a:bt):List Int:=[a.1,a.2.1,a.2.2]
def payL (p:ag):List Int:=[p.1,p.2.1,p.2.2.1,p.2.2.2.1,p.2.2.2.2.1,p.2.2.2.2.2.1,p.2.2.2.2.2.2.1,p.2.2.2.2.2.2.2]
def sagL (g:bk):List Int:=rqL g.1++[g.2.1,g.2.2.1,g.2.2.2.1,g.2.2.2.2]
def knL (k:aM):List Int:=rqL k.1++([k.2.1.1,k.2.1.2]++[if k.2.2=true then 1 else 0])
def t3 (ks:List aM):List Int:=(ks.length:Int)::ks.flatMap knL
def t2 (gs:List bk)(ks:List aM):List Int:=(gs.length:Int)::(gs.flatMap sagL++t3 ks)
def t1 (ps:List ag)(gs:List bk)(ks:List aM):List Int:=(ps.length:Int)::(ps.flatMap payL++t2 gs ks)
def stL (s:ab):List Int:=s.2.2.2.2::(s.1.length:Int)::(s.1.flatMap acL++t1 s.2.1 s.2.2.1 s.2.2.2.1)
theorem cy {a b:List Int}:I64 (a++b) ↔ I64 a/\I64 b:=by
 simp only [I64,MU];exact ⟨fun h=>⟨fun x hx=>h x (.inl hx),fun x hx=>h x (.inr hx)⟩,fun h x hx=>hx.elim (h.1 x) (h.2 x)⟩
theorem pj {α:Type} (f:α->List Int) {l:List α} (h:I64 (l.flatMap f)) {i:Nat} (hi:i < l.length):I64 (f l[i]):=fun x hx=>h x (Nh.2 ⟨_,Np hi,hx⟩)
theorem u9 {α:Type} (f:α->List Int)(l:List α) {i:Nat} (hi:i < l.length):(l.drop i).flatMap f=f l[i]++(l.drop (i+1)).flatMap f:=by
 rw [Nd hi,NQ]
theorem pt (n:Int):encs [n]=enc (zig n):=by simp [encs]
theorem vput {x:List Int} {n:Int} (hn:-9223372036854775808<=n/\n<=9223372036854775807)(hx:x.length+20<=211106232532992):Ev1 (fun k=>CF k J4 jS [.val false [.mv (.int .u8) x],inj (.int .i64) n]) (x++encs [n]):=by
 rw [pt];exact Dn x n hn hx
theorem gK (l:List aM)(i:Nat)(h:i < l.length):l.getD (Int.toNat (i:Int)) ((0,0,0,0,0,0,0),(0,0),false)=l[i]:=by rw [MV];exact bj l i _ h
theorem gG (l:List bk)(i:Nat)(h:i < l.length):l.getD (Int.toNat (i:Int)) ((0,0,0,0,0,0,0),0,0,0,0)=l[i]:=by rw [MV];exact bj l i _ h
theorem gP (l:List ag)(i:Nat)(h:i < l.length):l.getD (Int.toNat (i:Int)) (0,0,0,0,0,0,0,0)=l[i]:=by rw [MV];exact bj l i _ h
theorem gA (l:List bt)(i:Nat)(h:i < l.length):l.getD (Int.toNat (i:Int)) (0,0,0)=l[i]:=by rw [MV];exact bj l i _ h
theorem KC (ks : List aM) (h : I64 (ks.flatMap knL)) (hl : ks.length ≤ 1000) : ∀ (d i : Nat) (x : List Int), i + d = ks.length → x.length + 100 * d ≤ 1000000 → Ev2 (fun k m => Bg k m ks (ks.length : Int) (i : Int) x) (x ++ encs ((ks.drop i).flatMap knL))
  | 0, i, x, hi, hx => by
    refine Ev2.step (fun k m => Bf k m ks (ks.length : Int) (i : Int) x _ rfl) (Ev2.negD (by omega) (Ev2.const ?_))
    rw [No (by omega)]; simp [encs]
  | d + 1, i, x, hi, hx => by
    have hlt : i < ks.length := by omega
    have hk := pj knL h hlt
    unfold knL at hk
    obtain ⟨h1, h2⟩ := cy.1 hk
    obtain ⟨h3, h4⟩ := cy.1 h2
    have l1 := aG h1
    have l2 := aG h3
    have l4 := aG h4
    simp only [rqL, MC, ML] at l1 l2 l4
    refine Ev2.step (fun k m => Bf k m ks (ks.length : Int) (i : Int) x ks[i] (gK ks i hlt).symm) (Ev2.posD (by omega) (Ev2.pos (ak (by omega) (by omega)) (Ev2.bind (pO ks[i].1 h1) (Ev2.posD (by simp only [rqL]; omega)
      (Ev2.bind (DP ks[i].2.1 h3) (Ev2.posD (by simp only [rqL, My]; omega) (Ev2.bind (Fv ks[i].2.2) (Ev2.bind (vput (by simpa [I64] using h4) (by simp only [rqL, My]; omega)) ?_))))))))
    rw [wnat (by omega)]
    have := KC ks h hl d (i + 1) (((x ++ encs (rqL ks[i].1)) ++ encs [ks[i].2.1.1, ks[i].2.1.2]) ++ encs [if ks[i].2.2 = true then 1 else 0]) (by omega) (by simp only [rqL, My]; omega)
    rw [u9 knL ks hlt, aH, show knL ks[i] = rqL ks[i].1 ++ ([ks[i].2.1.1, ks[i].2.1.2] ++ [if ks[i].2.2 = true then 1 else 0]) from rfl, aH, aH]
    simpa only [M8] using this
theorem KD (ac : List bt) (ps : List ag) (gs : List bk) (ks : List aM) (now : Int) (h : I64 (gs.flatMap sagL)) (hl : gs.length ≤ 1000) (h3 : I64 (ks.flatMap knL)) (hl3 : ks.length ≤ 1000) : ∀ (d i : Nat) (x : List Int), i + d = gs.length → x.length + 110 * d + 110000 ≤ 1000000 →
    Ev2 (fun k m => Bi k m gs (gs.length : Int) (i : Int) ac ps gs ks now x) (x ++ encs ((gs.drop i).flatMap sagL ++ t3 ks))
  | 0, i, x, hi, hx => by
    have hk : -9223372036854775808 ≤ (ks.length : Int) ∧ (ks.length : Int) ≤ 9223372036854775807 := ⟨by omega, by omega⟩
    have l1 := aG (ns := [(ks.length : Int)]) (by simpa [I64] using hk)
    simp only [MC, ML] at l1
    have := KC ks h3 hl3 ks.length 0 (x ++ encs [(ks.length : Int)]) (by omega) (by simp only [My]; omega)
    refine Ev2.step (fun k m => Bh k m gs (gs.length : Int) (i : Int) ac ps gs ks now x _ rfl _ rfl) (Ev2.negD (by omega) (Ev2.bind (vput hk (by omega)) (Ev1.drop ?_)))
    rw [No (by omega)]
    unfold t3
    rw [show ([] : List bk).flatMap sagL ++ (ks.length : Int) :: ks.flatMap knL = [(ks.length : Int)] ++ ks.flatMap knL from rfl, aH, ← M8]
    exact this.diag
  | d + 1, i, x, hi, hx => by
    have hlt : i < gs.length := by omega
    have hk := pj sagL h hlt
    unfold sagL at hk
    obtain ⟨h1, h2⟩ := cy.1 hk
    have l1 := aG h1
    have l2 := aG h2
    simp only [rqL, MC, ML] at l1 l2
    refine Ev2.step (fun k m => Bh k m gs (gs.length : Int) (i : Int) ac ps gs ks now x _ rfl gs[i] (gG gs i hlt).symm) (Ev2.posD (by omega) (Ev2.pos (ak (by omega) (by omega)) (Ev2.bind (pO gs[i].1 h1) (Ev2.posD (by simp only [rqL]; omega)
      (Ev2.bind (iO _ h2 (by simp)) (Ev2.posD (by simp only [rqL, My]; omega) ?_))))))
    rw [wnat (by omega)]
    have := KD ac ps gs ks now h hl h3 hl3 d (i + 1) ((x ++ encs (rqL gs[i].1)) ++ encs [gs[i].2.1, gs[i].2.2.1, gs[i].2.2.2.1, gs[i].2.2.2.2]) (by omega) (by simp only [rqL, My]; omega)
    rw [u9 sagL gs hlt, show sagL gs[i] = rqL gs[i].1 ++ [gs[i].2.1, gs[i].2.2.1, gs[i].2.2.2.1, gs[i].2.2.2.2] from rfl]
    simpa only [aH, M8] using this
theorem KE (ac:List bt)(ps:List ag)(gs:List bk)(ks:List aM)(now:Int)(h:I64 (ps.flatMap payL))(hl:ps.length<=1000)(h2:I64 (gs.flatMap sagL))(hl2:gs.length<=1000)(h3:I64 (ks.flatMap knL))(hl3:ks.length<=1000):∀ (d i:Nat)(x:List Int),i+d=ps.length->x.length+80 * d+230000<=1000000 ->
  Ev2 (fun k m=>Bk k m ps (ps.length:Int) (i:Int) ac ps gs ks now x) (x++encs ((ps.drop i).flatMap payL++t2 gs ks))
 | 0,i,x,hi,hx=>by
  have hk:-9223372036854775808<=(gs.length:Int)/\(gs.length:Int)<=9223372036854775807:=⟨by omega,by omega⟩
  have l1:=aG (ns:=[(gs.length:Int)]) (by simpa [I64] using hk);simp only [MC,ML] at l1;have:=KD ac ps gs ks now h2 hl2 h3 hl3 gs.length 0 (x++encs [(gs.length:Int)]) (by omega) (by simp only [My];omega);refine Ev2.step (fun k m=>Bj k m ps (ps.length:Int) (i:Int) ac ps gs ks now x _ rfl _ rfl) (Ev2.negD (by omega) (Ev2.bind (vput hk (by omega)) (Ev1.drop ?_)));rw [No (by omega)];unfold t2;rw [show ([]:List ag).flatMap payL++(gs.length:Int)::(gs.flatMap sagL++t3 ks)=[(gs.length:Int)]++(gs.flatMap sagL++t3 ks) from rfl,aH,<- M8];exact this.diag
 | d+1,i,x,hi,hx=>by
  have hlt:i < ps.length:=by omega
  have hk:=pj payL h hlt;have l1:=aG hk;simp only [payL,MC,ML] at l1;refine Ev2.step (fun k m=>Bj k m ps (ps.length:Int) (i:Int) ac ps gs ks now x _ rfl ps[i] (gP ps i hlt).symm) (Ev2.posD (by omega) (Ev2.pos (ak (by omega) (by omega)) (Ev2.bind (iO _ hk (by simp [payL])) (Ev2.posD (by simp only [payL];omega) ?_))));rw [wnat (by omega)];have:=KE ac ps gs ks now h hl h2 hl2 h3 hl3 d (i+1) (x++encs (payL ps[i])) (by omega) (by simp only [payL,My];omega);rw [u9 payL ps hlt,M8,aH];simpa only [M8] using this
theorem KG (ac:List bt)(ps:List ag)(gs:List bk)(ks:List aM)(now:Int)(h0:I64 (ac.flatMap acL))(hl0:ac.length<=1000)(h:I64 (ps.flatMap payL))(hl:ps.length<=1000)(h2:I64 (gs.flatMap sagL))(hl2:gs.length<=1000)(h3:I64 (ks.flatMap knL))(hl3:ks.length<=1000):∀ (d i:Nat)(x:List Int),i+d=ac.length->x.length+30 * d+330000<=1000000 ->
  Ev2 (fun k m=>h_cS k m ac (ac.length:Int) (i:Int) ac ps gs ks now x) (x++encs ((ac.drop i).flatMap acL++t1 ps gs ks))
 | 0,i,x,hi,hx=>by
  have hk:-9223372036854775808<=(ps.length:Int)/\(ps.length:Int)<=9223372036854775807:=⟨by omega,by omega⟩
  have l1:=aG (ns:=[(ps.length:Int)]) (by simpa [I64] using hk);simp only [MC,ML] at l1;have:=KE ac ps gs ks now h hl h2 hl2 h3 hl3 ps.length 0 (x++encs [(ps.length:Int)]) (by omega) (by simp only [My];omega);refine Ev2.step (fun k m=>II k m ac (ac.length:Int) (i:Int) ac ps gs ks now x _ rfl _ rfl) (Ev2.negD (by omega) (Ev2.bind (vput hk (by omega)) (Ev1.drop ?_)));rw [No (by omega)];unfold t1;rw [show ([]:List bt).flatMap acL++(ps.length:Int)::(ps.flatMap payL++t2 gs ks)=[(ps.length:Int)]++(ps.flatMap payL++t2 gs ks) from rfl,aH,<- M8];exact this.diag
 | d+1,i,x,hi,hx=>by
  have hlt:i < ac.length:=by omega
  have hk:=pj acL h0 hlt;have l1:=aG hk;simp only [acL,MC,ML] at l1;refine Ev2.step (fun k m=>II k m ac (ac.length:Int) (i:Int) ac ps gs ks now x _ rfl ac[i] (gA ac i hlt).symm) (Ev2.posD (by omega) (Ev2.pos (ak (by omega) (by omega)) (Ev2.bind (iO _ hk (by simp [acL])) (Ev2.posD (by simp only [acL];omega) ?_))));rw [wnat (by omega)];have:=KG ac ps gs ks now h0 hl0 h hl h2 hl2 h3 hl3 d (i+1) (x++encs (acL ac[i])) (by omega) (by simp only [acL,My];omega);rw [u9 acL ac hlt,M8,aH];simpa only [M8] using this
structure StOk (s:ab):Prop where
 now:-9223372036854775808<=s.2.2.2.2/\s.2.2.2.2<=9223372036854775807
 ac:I64 (s.1.flatMap acL)
 acl:s.1.length<=1000
 ps:I64 (s.2.1.flatMap payL)
 psl:s.2.1.length<=1000
 gs:I64 (s.2.2.1.flatMap sagL)
 gsl:s.2.2.1.length<=1000
 ks:I64 (s.2.2.2.1.flatMap knL)
 ksl:s.2.2.2.1.length<=1000
theorem iQ (s:ab)(h:StOk s):Ev1 (fun k=>CF k g_cS n_cS [inj aB s]) (encs (stL s)):=by
 have hl:=h.acl;have hk:I64 [s.2.2.2.2,(s.1.length:Int)]:=aX.2 ⟨h.now,aX.2 ⟨⟨by omega,by omega⟩,by simp [I64]⟩⟩;have l1:=aG hk;simp only [MC,ML] at l1;have:=KG s.1 s.2.1 s.2.2.1 s.2.2.2.1 s.2.2.2.2 h.ac h.acl h.ps h.psl h.gs h.gsl h.ks h.ksl s.1.length 0 (encs [s.2.2.2.2,(s.1.length:Int)]) (by omega) (by omega);refine Ev1.step (fun k=>f_cS k s _ rfl) (Ev1.bind (iO _ hk (by simp)) ?_);unfold stL;rw [show s.2.2.2.2::(s.1.length:Int)::(s.1.flatMap acL++t1 s.2.1 s.2.2.1 s.2.2.2.1)=[s.2.2.2.2,(s.1.length:Int)]++(s.1.flatMap acL++t1 s.2.1 s.2.2.1 s.2.2.2.1) from rfl,aH];exact this.diag
theorem m6 {s:ab} (h:StOk s):I64 (stL s):=by
 have h1:=h.acl;have h2:=h.psl;have h3:=h.gsl;have h4:=h.ksl;have e4:I64 (t3 s.2.2.2.1):=aX.2 ⟨⟨by omega,by omega⟩,h.ks⟩;have e3:I64 (t2 s.2.2.1 s.2.2.2.1):=aX.2 ⟨⟨by omega,by omega⟩,cy.2 ⟨h.gs,e4⟩⟩;have e2:I64 (t1 s.2.1 s.2.2.1 s.2.2.2.1):=aX.2 ⟨⟨by omega,by omega⟩,cy.2 ⟨h.ps,e3⟩⟩;exact aX.2 ⟨h.now,aX.2 ⟨⟨by omega,by omega⟩,cy.2 ⟨h.ac,e2⟩⟩⟩
theorem rf:∀ {a b:List Int},I64 a->I64 b->encs a=encs b->a=b
 | [],[],_,_,_=>rfl
 | [],n::b,_,_,h=>by
  have:=xZ (zig n);simp [encs] at h;exact (this h.1).elim
 | n::a,[],_,_,h=>by
  have:=xZ (zig n);simp [encs] at h;exact (this h.1).elim
 | n::a,m::b,ha,hb,h=>by
  obtain ⟨h1,h2⟩:=aX.1 ha;obtain ⟨h3,h4⟩:=aX.1 hb;have e:enc (zig n)++encs a=enc (zig m)++encs b:=h;obtain ⟨q1,q2⟩:=CS (sq h1) (sq h3) e;have:n=m:=by rw [<- pA n,<- pA m,q1]
  rw [this,rf h2 h4 q2]
theorem cG {α:Type} (f:α->List Int)(n:Nat)(hf:∀ x,(f x).length=n):∀ l:List α,(l.flatMap f).length=n * l.length
 | []=>by simp
 | x::l=>by rw [NQ,My,hf,cG f n hf l,MC,Nat.mul_add];omega
theorem xy {α:Type} (f:α->List Int)(hf:∀ x y (r s:List Int),f x++r=f y++s->x=y/\r=s):∀ {l m:List α} {r s:List Int},l.length=m.length->l.flatMap f++r=m.flatMap f++s->l=m/\r=s
 | [],[],_,_,_,h=>⟨rfl,h⟩
 | [],_::_,_,_,hl,_=>by simp at hl
 | _::_,[],_,_,hl,_=>by simp at hl
 | x::l,y::m,r,s,hl,h=>by
  rw [NQ,NQ,M8,M8] at h;obtain ⟨h1,h2⟩:=hf x y _ _ h;obtain ⟨h3,h4⟩:=xy f hf (by simpa using hl) h2;exact ⟨by rw [h1,h3],h4⟩
theorem KK {a b:ae} (h1:a.1=b.1)(h2:a.2.1=b.2.1)(h3:a.2.2.1=b.2.2.1)(h4:a.2.2.2.1=b.2.2.2.1)(h5:a.2.2.2.2.1=b.2.2.2.2.1)(h6:a.2.2.2.2.2.1=b.2.2.2.2.2.1)(h7:a.2.2.2.2.2.2=b.2.2.2.2.2.2):a=b :=
 NX h1 (NX h2 (NX h3 (NX h4 (NX h5 (NX h6 h7)))))
theorem Kr (x y:bt)(r s:List Int)(h:acL x++r=acL y++s):x=y/\r=s:=by
 simp only [acL,M7,NL,MX] at h;obtain ⟨h1,h2,h3,h4⟩:=h;exact ⟨NX h1 (NX h2 h3),h4⟩
theorem G5 (x y:ag)(r s:List Int)(h:payL x++r=payL y++s):x=y/\r=s:=by
 simp only [payL,M7,NL,MX] at h;obtain ⟨h1,h2,h3,h4,h5,h6,h7,h8,h9⟩:=h;exact ⟨NX h1 (NX h2 (NX h3 (NX h4 (NX h5 (NX h6 (NX h7 h8)))))),h9⟩
theorem GO (x y:bk)(r s:List Int)(h:sagL x++r=sagL y++s):x=y/\r=s:=by
 simp only [sagL,rqL,M7,NL,MX] at h;obtain ⟨h1,h2,h3,h4,h5,h6,h7,g1,g2,g3,g4,h8⟩:=h;exact ⟨NX (KK h1 h2 h3 h4 h5 h6 h7) (NX g1 (NX g2 (NX g3 g4))),h8⟩
theorem HI {a b:Bool} (h:(if a=true then (1:Int) else 0)=(if b=true then 1 else 0)):a=b:=by
 cases a<;>cases b<;>first | rfl | (simp at h)
theorem JU (x y:aM)(r s:List Int)(h:knL x++r=knL y++s):x=y/\r=s:=by
 simp only [knL,rqL,M7,NL,MX] at h;obtain ⟨h1,h2,h3,h4,h5,h6,h7,g1,g2,g3,h8⟩:=h;exact ⟨NX (KK h1 h2 h3 h4 h5 h6 h7) (NX (NX g1 g2) (HI g3)),h8⟩
theorem Dx {s t:ab} (h:stL s=stL t):s=t:=by
 simp only [stL,t1,t2,t3,MX,Pd] at h;obtain ⟨h1,h2,h3⟩:=h;obtain ⟨a1,h4⟩:=xy acL Kr h2 h3;simp only [MX,Pd] at h4;obtain ⟨h5,h6⟩:=h4;obtain ⟨a2,h7⟩:=xy payL G5 h5 h6;simp only [MX,Pd] at h7;obtain ⟨h8,h9⟩:=h7;obtain ⟨a3,h10⟩:=xy sagL GO h8 h9;simp only [MX,Pd] at h10;obtain ⟨h11,h12⟩:=h10;obtain ⟨a4,_⟩:=xy knL JU (r:=[]) (s:=[]) h11 (by simpa using h12);exact NX a1 (NX a2 (NX a3 (NX a4 h1)))
theorem DG (s t:ab)(hs:StOk s)(ht:StOk t):Ev1 (fun k=>CF k ⟨[(false,.bool)],[]⟩ n_ds [inj aB s,inj aB t]) (decide (stL s=stL t)):=by
 refine Ev1.step (fun k=>f_ds k s t) (Ev1.bind (iQ s hs) (Ev1.bind (iQ t ht) (Ev1.const ?_)));congr 1;exact Ot.2 ⟨fun h=>rf (m6 hs) (m6 ht) h,fun h=>by rw [h]⟩
end Go.Eng.Top
namespace Go.Eng.Top
open Go.RowKit Go.Eng Go.Eng.LVar Go.Eng.LChart Go.Eng.LEnt
set_option maxRecDepth 100000
abbrev zP:ag:=(0,0,0,0,0,0,0,0)
abbrev zG:bk:=((0,0,0,0,0,0,0),0,0,0,0)
abbrev cli (s:ab)(n:Int):Prop:=9<=n/\n < (s.1.length:Int)
abbrev Out:Type:=ab × ai
def vR (s:ab)(w:List Acc × Option Int)(id:Int):Out:=match w.2 with | some c=>(s,(c,0)) | none=>((w.1,s.2),(0,id))
def B4 (s:ab)(r:ae):Out:=if 64<=(s.1.length:Int) then (s,(7,0)) else ((s.1++[(r.2.2.1,0,0)],s.2),(0,(s.1.length:Int)))
def yP (s:ab)(f t n:Int):Out:=match (ff s.1 f t n).2 with | some c=>(s,(c,0)) | none=>vR s (jJ s.1 (ff s.1 f t n).1) 0
def depF (s:ab)(r:ae):Out:=if cli s r.2.2.1 then yP s (numV 0 (acAt s.1 r.2.2.1).1) r.2.2.1 r.2.2.2.2.1 else (s,(2,0))
def trF (s:ab)(r:ae):Out:=if cli s r.2.2.1/\cli s r.2.2.2.1 then yP s r.2.2.1 r.2.2.2.1 r.2.2.2.2.1 else (s,(2,0))
def C7 (s:ab)(r:ae):Out :=
 if cli s r.2.2.1/\cli s r.2.2.2.1 then
  (if r.2.2.1=r.2.2.2.1\/r.2.2.2.2.2.2<=s.2.2.2.2 then (s,(1,0))
   else if 64<=(s.2.1.length:Int) then (s,(7,0))
   else match (jK s.1 r.2.2.1 r.2.2.2.2.1).2 with
    | some c=>(s,(c,0))
    | none=>(((jK s.1 r.2.2.1 r.2.2.2.2.1).1,s.2.1++[(r.2.2.1,r.2.2.2.1,r.2.2.2.2.1,0,0,0,r.2.2.2.2.2.2,0)],s.2.2),(0,(s.2.1.length:Int))))
 else (s,(2,0))
def EH (p:ag):Int:=if p.2.2.2.2.2.2.2=0 then w64 (p.2.2.1 - p.2.2.2.1) else 0
def ze (p:ag):Int:=w64 (w64 (p.2.2.2.1 - p.2.2.2.2.1) - p.2.2.2.2.2.1)
def fi (op:Int)(p:ag)(n:Int):ag × Bool :=
 if op=4 then ((if w64 (p.2.2.2.1+n)=p.2.2.1 then (p.1,p.2.1,p.2.2.1,w64 (p.2.2.2.1+n),p.2.2.2.2.1,p.2.2.2.2.2.1,p.2.2.2.2.2.2.1,1) else (p.1,p.2.1,p.2.2.1,w64 (p.2.2.2.1+n),p.2.2.2.2)),decide (n<=EH p))
 else if op=6 then ((p.1,p.2.1,p.2.2.1,p.2.2.2.1,w64 (p.2.2.2.2.1+n),p.2.2.2.2.2),decide (n<=ze p))
 else if op=7 then ((p.1,p.2.1,p.2.2.1,p.2.2.2.1,p.2.2.2.2.1,w64 (p.2.2.2.2.2.1+n),p.2.2.2.2.2.2),decide (n<=ze p))
 else ((p.1,p.2.1,p.2.2.1,p.2.2.2.1,p.2.2.2.2.1,p.2.2.2.2.2.1,p.2.2.2.2.2.2.1,1),decide (p.2.2.2.2.2.2.2=0))
def l5 (op:Int)(p:ag)(n:Int):ag × Option Int :=
 if op ≠ 5/\n < 1 then (zP,some 1) else if (fi op p n).2=true then ((fi op p n).1,none) else (zP,some 6)
def pAt (s:ab)(i:Int):ag:=s.2.1.getD (Int.toNat i) zP
def b9 (s:ab)(op:Int)(r:ae):ag × ag × Option Int :=
 if r.2.2.1 < 0\/(s.2.1.length:Int)<=r.2.2.1 then (zP,zP,some 2)
 else (pAt s r.2.2.1,(l5 op (pAt s r.2.2.1) r.2.2.2.2.1).1,(l5 op (pAt s r.2.2.1) r.2.2.2.2.1).2)
def payF (s:ab)(i:Int)(q:ag)(w:List Acc × Option Int):Out:=match w.2 with | some c=>(s,(c,0)) | none=>((w.1,s.2.1.set (Int.toNat i) q,s.2.2),(0,0))
def capF (s:ab)(r:ae):Out :=
 match (b9 s 4 r).2.2 with
 | some c=>(s,(c,0))
 | none=>match (ff s.1 (b9 s 4 r).1.1 (b9 s 4 r).1.2.1 r.2.2.2.2.1).2 with
  | some c=>(s,(c,0))
  | none=>payF s r.2.2.1 (b9 s 4 r).2.1 (jA s.1 r.2.2.2.2.1 (ff s.1 (b9 s 4 r).1.1 (b9 s 4 r).1.2.1 r.2.2.2.2.1).1)
def BN (s:ab)(r:ae):Out :=
 match (b9 s 5 r).2.2 with
 | some c=>(s,(c,0))
 | none=>payF s r.2.2.1 (b9 s 5 r).2.1 (relF s.1 (b9 s 5 r).1.1 (EH (b9 s 5 r).1))
def oT (s:ab)(p:ag)(n:Int):List En × Option Int:=(back (ff s.1 p.1 p.2.1 n).1,(ff s.1 p.1 p.2.1 n).2)
def refF (s:ab)(r:ae):Out :=
 match (b9 s 6 r).2.2 with
 | some c=>(s,(c,0))
 | none=>match (oT s (b9 s 6 r).1 r.2.2.2.2.1).2 with
  | some c=>(s,(c,0))
  | none=>payF s r.2.2.1 (b9 s 6 r).2.1 (jJ s.1 (oT s (b9 s 6 r).1 r.2.2.2.2.1).1)
def chgE (s:ab)(p:ag)(es:List En):List En :=
 if 0 < w64 (w64 (0 - (es.getD 0 (0,0)).2) - w64 ((acAt s.1 p.2.1).2.1 - (acAt s.1 p.2.1).2.2)) then
  es.set 0 ((es.getD 0 (0,0)).1,w64 ((es.getD 0 (0,0)).2+w64 (w64 (0 - (es.getD 0 (0,0)).2) - w64 ((acAt s.1 p.2.1).2.1 - (acAt s.1 p.2.1).2.2)))) ++
   [(numV 2 (acAt s.1 p.2.1).1,w64 (0 - w64 (w64 (0 - (es.getD 0 (0,0)).2) - w64 ((acAt s.1 p.2.1).2.1 - (acAt s.1 p.2.1).2.2))))]
 else es
def chgF (s:ab)(r:ae):Out :=
 match (b9 s 7 r).2.2 with
 | some c=>(s,(c,0))
 | none=>match (oT s (b9 s 7 r).1 r.2.2.2.2.1).2 with
  | some c=>(s,(c,0))
  | none=>payF s r.2.2.1 (b9 s 7 r).2.1 (jJ s.1 (chgE s (b9 s 7 r).1 (oT s (b9 s 7 r).1 r.2.2.2.2.1).1))
def opsF (s:ab)(r:ae):Out :=
 if r.2.1=0 then B4 s r else if r.2.1=1 then depF s r else if r.2.1=2 then trF s r else if r.2.1=3 then C7 s r
 else if r.2.1=4 then capF s r else if r.2.1=5 then BN s r else if r.2.1=6 then refF s r else if r.2.1=7 then chgF s r else (s,(1,0))
abbrev Oute:Type:=ab × Option Int
def py (s:ab)(w:List Acc × Option Int):Oute:=match w.2 with | some c=>(s,some c) | none=>((w.1,s.2),none)
def resF (s:ab)(r:ae):Oute :=
 if cli s r.2.2.1/\cli s r.2.2.2.1 then (match (ff s.1 r.2.2.1 r.2.2.2.1 r.2.2.2.2.1).2 with
  | some c=>(s,some c)
  | none=>py s (jK s.1 r.2.2.1 r.2.2.2.2.1))
 else (s,some 2)
def oK (s:ab)(r:ae):Oute:=match (ff s.1 r.2.2.1 r.2.2.2.1 r.2.2.2.2.1).2 with
  | some c=>(s,some c)
  | none=>py s (jA s.1 r.2.2.2.2.1 (ff s.1 r.2.2.1 r.2.2.2.1 r.2.2.2.2.1).1)
def Dr (s:ab)(r:ae):Oute:=py s (relF s.1 r.2.2.1 r.2.2.2.2.1)
def Dp:List Int->ab->ab
 | [],s=>s
 | k::l,s=>Dp l (opsF s (0,5,k,0,0,0,0)).1
def rk (ps:List ag)(now:Int):List Int:=(fo ps).takeWhile fun k=>!decide (now < (ps.getD (Int.toNat k) zP).2.2.2.2.2.2.1)
def vQ (s:ab):ab:=if 1073741824<=s.2.2.2.2 then s else Dp (rk s.2.1 (w64 (s.2.2.2.2+1))) (s.1,s.2.1,s.2.2.1,s.2.2.2.1,w64 (s.2.2.2.2+1))
def amtB (n:Int):Bool:=decide (1<=n/\n<=1099511627776)
def mayB (r:ae):Bool :=
 if r.1 < 0\/1073741824<=r.1\/r.2.2.2.2.2.1 < 0\/4 < r.2.2.2.2.2.1\/r.2.2.2.2.2.2 < 0\/1073741824 < r.2.2.2.2.2.2 then false
 else if 0 < r.2.2.2.2.2.1/\r.2.1 ≠ 2 then false
 else if r.2.1=0 then decide (0<=r.2.2.1/\r.2.2.1 < 3)
 else if r.2.1=5 then true
 else if r.2.1=1\/r.2.1=2\/r.2.1=3\/r.2.1=4\/r.2.1=6\/r.2.1=7 then amtB r.2.2.2.2.1 else false
abbrev long (r:ae):Prop:=0 < r.2.2.2.2.2.1/\r.2.1=2
def subF (s:ab)(r:ae):Out :=
 if mayB r=false then (s,(1,0))
 else if (askF s.2.2.2.1 r).2=true then (s,(askF s.2.2.2.1 r).1)
 else if long r/\16<=(s.2.2.1.length:Int) then (s,(7,0))
 else match (putF s.2.2.2.1 r).2 with
  | some c=>(s,(c,0))
  | none =>
   if long r then (match (resF s r).2 with
    | some c=>((s.1,s.2.1,s.2.2.1,(pB (putF s.2.2.2.1 r).1 r.1 (c,0)).1,s.2.2.2.2),(c,0))
    | none=>(((resF s r).1.1,(resF s r).1.2.1,(resF s r).1.2.2.1++[(r,0,0,0,0)],(putF s.2.2.2.1 r).1,(resF s r).1.2.2.2.2),(10,0)))
   else (((opsF s r).1.1,(opsF s r).1.2.1,(opsF s r).1.2.2.1,(pB (putF s.2.2.2.1 r).1 r.1 (opsF s r).2).1,(opsF s r).1.2.2.2.2),(opsF s r).2)
def fndG (key:Int)(gs:List bk):Option Nat:=fndI key (gs.map fun g=>g.1.1)
def endF (s:ab)(i:Nat)(o:ai):Out:=((s.1,s.2.1,s.2.2.1.take i++s.2.2.1.drop (i+1),(pB s.2.2.2.1 (s.2.2.1.getD i zG).1.1 o).1,s.2.2.2.2),o)
def legF (g:bk)(ok:Bool):bk :=
 if g.2.1=0/\¬ (g.1.2.2.2.2.2.1<=g.2.2.1) then
  (if ok=true then (g.1,g.2.1,w64 (g.2.2.1+1),0,g.2.2.2.2)
   else if 3 < w64 (g.2.2.2.1+1) then (g.1,1,g.2.2.1,w64 (g.2.2.2.1+1),9) else (g.1,g.2.1,g.2.2.1,w64 (g.2.2.2.1+1),g.2.2.2.2))
 else g
def vP (g:bk)(c:Int):bk:=if g.2.1=0 then (g.1,1,g.2.2.1,g.2.2.2.1,c) else g
def putG (s:ab)(i:Nat)(g:bk):Out:=((s.1,s.2.1,s.2.2.1.set i g,s.2.2.2),(10,0))
def tM (s:ab)(key:Int)(ok:Bool):Out :=
 match fndG key s.2.2.1 with
 | none=>(s,(2,0))
 | some i =>
  if (s.2.2.1.getD i zG).2.1=1 then endF (Dr s (s.2.2.1.getD i zG).1).1 i ((s.2.2.1.getD i zG).2.2.2.2,0)
  else if (s.2.2.1.getD i zG).2.1=0/\(s.2.2.1.getD i zG).1.2.2.2.2.2.1<=(s.2.2.1.getD i zG).2.2.1 then
   (match (oK s (s.2.2.1.getD i zG).1).2 with
    | none=>endF (oK s (s.2.2.1.getD i zG).1).1 i (0,0)
    | some c=>putG s i (vP (s.2.2.1.getD i zG) c))
  else putG s i (legF (s.2.2.1.getD i zG) ok)
def doF (s:ab)(e:aD):Out :=
 if e.1=0 then subF s e.2.1 else if e.1=1 then tM s e.2.2.1 e.2.2.2 else if e.1=2 then (vQ s,(0,0)) else (s,(1,0))
def code (e:Option Int):Prop:=∀ c,e=some c->1<=c/\c<=13/\c ≠ 8/\c ≠ 12
theorem gv:code none:=fun c h=>by cases h
theorem bU {n:Int} (h:1<=n/\n<=13/\n ≠ 8/\n ≠ 12):code (some n):=fun c e=>by cases e;exact h
theorem iL (ac:List Acc)(f t n:Int):code (ff ac f t n).2:=by
 unfold ff;split
 ·split
  ·exact bU (by omega)
  ·split
   ·exact gv
   ·split
    ·exact bU (by omega)
    ·split
     ·exact bU (by omega)
     ·exact gv
 ·exact bU (by omega)
theorem yf (ac:List Acc)(n a:Int):code (jK ac n a).2:=by
 unfold jK;split
 ·split
  ·split
   ·exact bU (by omega)
   ·exact gv
  ·exact bU (by omega)
 ·exact bU (by omega)
theorem vC (ac:List Acc)(n a:Int):code (relF ac n a).2:=by
 unfold relF;split
 ·split
  ·split
   ·exact bU (by omega)
   ·exact gv
  ·exact bU (by omega)
 ·exact bU (by omega)
theorem mU (ac:List Acc)(es:List En):code (jJ ac es).2:=by
 rw [pS];cases balF ac es (0,0,0) with
 | false=>exact bU (by omega)
 | true =>
  show code (finP (runF ac es)).2;cases runF ac es with
  | none=>exact bU (by omega)
  | some o =>
   unfold finP;dsimp only;cases xw (o.drop 9) with
   | true=>exact gv
   | false=>exact bU (by omega)
theorem tn (ac:List Acc)(a:Int)(es:List En):code (jA ac a es).2:=by
 unfold jA;cases es with
 | nil=>exact bU (by omega)
 | cons e r =>
  dsimp only;have hc:=vC ac e.1 a;generalize relF ac e.1 a=w at hc;obtain ⟨o,g⟩:=w;cases g with
  | none=>exact mU o (e::r)
  | some c=>exact hc
theorem vV {ac:List Acc} (h:Rt ac) {a:Int} {es:List En} (hn:(jA ac a es).2=none):Rt (jA ac a es).1/\(jA ac a es).1.length=ac.length:=by
 unfold jA at hn ⊢;cases es with
 | nil=>cases hn
 | cons e r =>
  dsimp only at hn ⊢;have hr:=tW h (n:=e.1) (a:=a);generalize relF ac e.1 a=w at hr hn;obtain ⟨o,g⟩:=w;cases g with
  | some c=>cases hn
  | none =>
   have h1:=hr rfl;have h2:=o8 h1.1 hn;exact ⟨h2.2.2.1,h2.2.2.2.trans h1.2⟩
def payR (p:ag):Prop:=(1<=p.2.2.1/\p.2.2.1<=1099511627776)/\(0<=p.2.2.2.1/\p.2.2.2.1<=p.2.2.1)/\0<=p.2.2.2.2.1/\0<=p.2.2.2.2.2.1/\p.2.2.2.2.1+p.2.2.2.2.2.1<=p.2.2.2.1/\(0<=p.2.2.2.2.2.2.1/\p.2.2.2.2.2.2.1<=1073741824)/\(p.2.2.2.2.2.2.2=0\/p.2.2.2.2.2.2.2=1)
structure rJ (n:Nat)(p:ag):Prop where
 from_:9<=p.1/\p.1 < (n:Int)
 to_:9<=p.2.1/\p.2.1 < (n:Int)
 i64:I64 (payL p)
 right:payR p
structure Op (s t:ab):Prop where
 rest:t.2.2=s.2.2
 rt:Rt t.1
 pl:t.2.1.length<=64
 ps:∀ p ∈ t.2.1,rJ t.1.length p
 ac:s.1.length<=t.1.length
def okO (o:ai):Prop:=(0<=o.1/\o.1<=13)/\(0<=o.2/\o.2<=64)/\o.1 ≠ 8/\o.1 ≠ 12
theorem l7 {n:Int} (h:0<=n/\n<=64):okO (0,n):=⟨⟨Py _,by show (0:Int)<=13;omega⟩,h,by show (0:Int) ≠ 8;omega,by show (0:Int) ≠ 12;omega⟩
theorem kR {c:Int} (h:1<=c/\c<=13/\c ≠ 8/\c ≠ 12):okO (c,0):=⟨⟨by show 0<=c;omega,h.2.1⟩,⟨by show (0:Int)<=0;omega,by show (0:Int)<=64;omega⟩,h.2.2⟩
theorem rJ.mono {n m:Nat} {p:ag} (h:rJ n p)(hm:n<=m):rJ m p:=⟨⟨h.from_.1,by have:=h.from_.2;omega⟩,⟨h.to_.1,by have:=h.to_.2;omega⟩,h.i64,h.right⟩
theorem fN {s:ab} (h:Op s s) {e:Option Int} (hc:code e) {c:Int} (he:e=some c):Op s s/\okO (c,0):=⟨h,kR (hc c he)⟩
theorem pU {s:ab} (h:Op s s) {c:Int} (hc:1<=c/\c<=13/\c ≠ 8/\c ≠ 12):Op s s/\okO (c,0):=⟨h,kR hc⟩
theorem Ed {s:ab} (h:Op s s) {ac:List Acc} (hr:Rt ac)(hl:s.1.length<=ac.length):Op s (ac,s.2) :=
 ⟨rfl,hr,h.pl,fun p hp=>(h.ps p hp).mono hl,hl⟩
theorem Jd {s:ab} (h:Op s s) {w:List Acc × Option Int} (hw:w.2=none->Rt w.1/\w.1.length=s.1.length)(hc:code w.2) {id:Int} (hid:0<=id/\id<=64):Op s (vR s w id).1/\okO (vR s w id).2:=by
 unfold vR;obtain ⟨ac,e⟩:=w;cases e with
 | some c=>exact fN h hc rfl
 | none=>exact ⟨Ed h (hw rfl).1 (by rw [(hw rfl).2];exact MH _),l7 hid⟩
theorem Jn {ac:List Acc} (h:Rt ac)(hl:ac.length < 64) {c:Int} (hc:0<=c/\c<=2):Rt (ac++[(c,0,0)]):=by
 have lo:=h.lo;refine ⟨by rw [My];omega,by rw [My];simp;omega,fun k hk=>?_,fun d=>?_⟩
 ·rw [List.getElem_append];split
  ·rename_i h1;exact h.ok k h1
  ·rename_i h1;simp only [List.getElem_singleton];refine ⟨hc.1,hc.2,by simp,by simp,fun h9=>by omega,fun _=>by simp⟩
 ·rw [yB,h.sum d];simp [sums,cur]
theorem JD {s:ab} (h:Op s s)(r:ae)(hr:0<=r.2.2.1/\r.2.2.1<=2):Op s (B4 s r).1/\okO (B4 s r).2:=by
 unfold B4;split
 ·exact pU h (by omega)
 ·rename_i h1;exact ⟨Ed h (Jn h.rt (by omega) hr) (by rw [My];omega),l7 (by omega)⟩
theorem D8 {s:ab} (h:Op s s)(f t n:Int):Op s (yP s f t n).1/\okO (yP s f t n).2:=by
 unfold yP;have hc:=iL s.1 f t n;cases hm:(ff s.1 f t n).2 with
 | some c=>exact fN h hc hm
 | none=>exact Jd h (fun hn=>(o8 h.rt hn).2.2) (mU _ _) ⟨by omega,by omega⟩
theorem Lo {s:ab} (h:Op s s)(r:ae):Op s (depF s r).1/\okO (depF s r).2:=by
 unfold depF;split
 ·exact D8 h _ _ _
 ·exact pU h (by omega)
theorem L4 {s:ab} (h:Op s s)(r:ae):Op s (trF s r).1/\okO (trF s r).2:=by
 unfold trF;split
 ·exact D8 h _ _ _
 ·exact pU h (by omega)
theorem Km {s:ab} (h:Op s s)(r:ae)(hr:I64 (rqL r))(ha:(1<=r.2.2.2.2.1/\r.2.2.2.2.1<=1099511627776)/\0<=r.2.2.2.2.2.2/\r.2.2.2.2.2.2<=1073741824):Op s (C7 s r).1/\okO (C7 s r).2:=by
 unfold C7;split
 ·rename_i h1;split
  ·exact pU h (by omega)
  ·split
   ·exact pU h (by omega)
   ·rename_i h3;have hc:=yf s.1 r.2.2.1 r.2.2.2.2.1;have hrt:=Ba h.rt (n:=r.2.2.1) (a:=r.2.2.2.2.1);cases hh:(jK s.1 r.2.2.1 r.2.2.2.2.1).2 with
    | some c=>exact fN h hc hh
    | none =>
     obtain ⟨q1,q2⟩:=hrt hh;refine ⟨⟨rfl,q1,?_,fun p hp=>?_,by dsimp only;rw [q2];exact MH _⟩,l7 (by omega)⟩
     ·dsimp only;rw [My];simp only [MC,ML];omega
     ·dsimp only at hp ⊢;rw [q2];rcases MU.1 hp with hp | hp
      ·exact h.ps p hp
      ·rw [Na] at hp;subst hp;refine ⟨h1.1,h1.2,?_,⟨ha.1,⟨by simp,by show (0:Int)<=r.2.2.2.2.1;omega⟩,by simp,by simp,by simp,ha.2,.inl rfl⟩⟩;simp only [rqL,I64,MO,Nf,NS,NG,Og] at hr;simp only [payL,I64,MO,Nf,NS,NG,Og];omega
 ·exact pU h (by omega)
theorem Di (n:Int):-9223372036854775808<=w64 n/\w64 n<=9223372036854775807:=by
 obtain ⟨q,_,h1,h2⟩:=gI n;omega
theorem G3 {n:Nat} {p:ag} (h:rJ n p)(op a:Int)(hn:op ≠ 5->1<=a)(ht:(fi op p a).2=true):rJ n (fi op p a).1:=by
 have hi:=h.i64;have hr:=h.right;unfold payR at hr;simp only [payL,I64,MO,Nf,NS,NG,Og] at hi;unfold fi at ht ⊢;split
 ·rename_i h4;rw [MK h4] at ht;have ht:=OU ht;unfold EH at ht;have ha:=hn (by omega);split at ht
  ·rename_i h0;rw [aO (by omega)] at ht;have e:w64 (p.2.2.2.1+a)=p.2.2.2.1+a:=aO (by omega);rw [e];dsimp only;split
   ·refine ⟨h.from_,h.to_,?_,?_⟩
    ·simp only [payL,I64,MO,Nf,NS,NG,Og];omega
    ·unfold payR;dsimp only;omega
   ·refine ⟨h.from_,h.to_,?_,?_⟩
    ·simp only [payL,I64,MO,Nf,NS,NG,Og];omega
    ·unfold payR;dsimp only;omega
  ·omega
 ·rename_i h4;rw [MG h4] at ht;have hg:ze p=p.2.2.2.1 - p.2.2.2.2.1 - p.2.2.2.2.2.1:=by
   unfold ze;rw [aO (x:=p.2.2.2.1 - p.2.2.2.2.1) (by omega),aO (by omega)]
  split
  ·rename_i h6;rw [MK h6] at ht;have ht:=OU ht;have ha:=hn (by omega);rw [hg] at ht;have e:w64 (p.2.2.2.2.1+a)=p.2.2.2.2.1+a:=aO (by omega);rw [e];refine ⟨h.from_,h.to_,?_,?_⟩
   ·simp only [payL,I64,MO,Nf,NS,NG,Og];omega
   ·unfold payR;dsimp only;omega
  ·rename_i h6;rw [MG h6] at ht;split
   ·rename_i h7;rw [MK h7] at ht;have ht:=OU ht;have ha:=hn (by omega);rw [hg] at ht;have e:w64 (p.2.2.2.2.2.1+a)=p.2.2.2.2.2.1+a:=aO (by omega);rw [e];refine ⟨h.from_,h.to_,?_,?_⟩
    ·simp only [payL,I64,MO,Nf,NS,NG,Og];omega
    ·unfold payR;dsimp only;omega
   ·refine ⟨h.from_,h.to_,?_,?_⟩
    ·simp only [payL,I64,MO,Nf,NS,NG,Og];omega
    ·unfold payR;dsimp only;omega
theorem C3 (op:Int)(p:ag)(n:Int):code (l5 op p n).2:=by
 unfold l5;split
 ·exact bU (by omega)
 ·split
  ·exact gv
  ·exact bU (by omega)
theorem JC {s:ab} {i:Int} (h:¬ (i < 0\/(s.2.1.length:Int)<=i)):pAt s i ∈ s.2.1:=by
 obtain ⟨n,rfl⟩:=Nl (show 0<=i by omega);unfold pAt;rw [MV,bj s.2.1 n _ (by omega)];exact Np _
theorem rC {s:ab} (h:Op s s)(op:Int)(r:ae):code (b9 s op r).2.2/\((b9 s op r).2.2=none->rJ s.1.length (b9 s op r).1/\rJ s.1.length (b9 s op r).2.1):=by
 unfold b9;split
 ·exact ⟨bU (by omega),fun hn=>by cases hn⟩
 ·rename_i h1;refine ⟨C3 _ _ _,fun hn=>?_⟩;have hp:=h.ps _ (JC h1);refine ⟨hp,?_⟩;dsimp only at hn ⊢;unfold l5 at hn ⊢;split at hn
  ·cases hn
  ·rename_i h2;split at hn
   ·rename_i h3;rw [MG h2,MK h3];exact G3 hp _ _ (fun h5=>by omega) h3
   ·cases hn
theorem AM {s:ab} (h:Op s s)(i:Int) {q:ag} (hq:rJ s.1.length q) {w:List Acc × Option Int} (hw:w.2=none->Rt w.1/\w.1.length=s.1.length)(hc:code w.2):Op s (payF s i q w).1/\okO (payF s i q w).2:=by
 unfold payF;obtain ⟨ac,e⟩:=w;cases e with
 | some c=>exact fN h hc rfl
 | none =>
  obtain ⟨q1,q2⟩:=hw rfl;dsimp only at q1 q2 ⊢;refine ⟨⟨rfl,q1,by dsimp only;rw [MB];exact h.pl,fun p hp=>?_,by dsimp only;rw [q2];exact MH _⟩,l7 (by omega)⟩;dsimp only at hp ⊢;rw [q2];rcases NV hp with hp | hp
  ·exact h.ps p hp
  ·rw [hp];exact hq
theorem Ly {s:ab} (h:Op s s)(r:ae):Op s (capF s r).1/\okO (capF s r).2:=by
 unfold capF;obtain ⟨hc,hb⟩:=rC h 4 r;cases hn:(b9 s 4 r).2.2 with
 | some c=>exact fN h hc hn
 | none =>
  have hm:=iL s.1 (b9 s 4 r).1.1 (b9 s 4 r).1.2.1 r.2.2.2.2.1;dsimp only;split
  ·rename_i c he;exact fN h hm he
  ·exact AM h _ (hb hn).2 (fun hn=>vV h.rt hn) (tn _ _ _)
theorem I5 {s:ab} (h:Op s s)(r:ae):Op s (BN s r).1/\okO (BN s r).2:=by
 unfold BN;obtain ⟨hc,hb⟩:=rC h 5 r;cases hn:(b9 s 5 r).2.2 with
 | some c=>exact fN h hc hn
 | none=>exact AM h _ (hb hn).2 (fun hn=>tW h.rt hn) (vC _ _ _)
theorem KP {s:ab} (h:Op s s)(r:ae):Op s (refF s r).1/\okO (refF s r).2:=by
 unfold refF;obtain ⟨hc,hb⟩:=rC h 6 r;cases hn:(b9 s 6 r).2.2 with
 | some c=>exact fN h hc hn
 | none =>
  have hm:=iL s.1 (b9 s 6 r).1.1 (b9 s 6 r).1.2.1 r.2.2.2.2.1;dsimp only;split
  ·rename_i c he;exact fN h hm he
  ·exact AM h _ (hb hn).2 (fun hn=>(o8 h.rt hn).2.2) (mU _ _)
theorem Lw {s:ab} (h:Op s s)(r:ae):Op s (chgF s r).1/\okO (chgF s r).2:=by
 unfold chgF;obtain ⟨hc,hb⟩:=rC h 7 r;cases hn:(b9 s 7 r).2.2 with
 | some c=>exact fN h hc hn
 | none =>
  have hm:=iL s.1 (b9 s 7 r).1.1 (b9 s 7 r).1.2.1 r.2.2.2.2.1;dsimp only;split
  ·rename_i c he;exact fN h hm he
  ·exact AM h _ (hb hn).2 (fun hn=>(o8 h.rt hn).2.2) (mU _ _)
theorem AP {s:ab} (h:Op s s)(r:ae)(hi:r.2.1=3->I64 (rqL r)/\(1<=r.2.2.2.2.1/\r.2.2.2.2.1<=1099511627776)/\0<=r.2.2.2.2.2.2/\r.2.2.2.2.2.2<=1073741824)(hr:r.2.1=0->0<=r.2.2.1/\r.2.2.1<=2):Op s (opsF s r).1/\okO (opsF s r).2:=by
 unfold opsF;split
 ·rename_i h0;exact JD h r (hr h0)
 split
 ·exact Lo h r
 split
 ·exact L4 h r
 split
 ·rename_i h3;exact Km h r (hi h3).1 (hi h3).2
 split
 ·exact Ly h r
 split
 ·exact I5 h r
 split
 ·exact KP h r
 split
 ·exact Lw h r
 ·exact pU h (by omega)
theorem yr {s:ab} (h:Op s s) {w:List Acc × Option Int} (hw:w.2=none->Rt w.1/\w.1.length=s.1.length)(hc:code w.2):Op s (py s w).1/\code (py s w).2/\((py s w).2 ≠ none->(py s w).1=s):=by
 unfold py;obtain ⟨ac,e⟩:=w;cases e with
 | some c=>exact ⟨h,hc,fun _=>rfl⟩
 | none=>exact ⟨Ed h (hw rfl).1 (by rw [(hw rfl).2];exact MH _),gv,fun hn=>(hn rfl).elim⟩
theorem DU {s:ab} (h:Op s s)(r:ae):Op s (resF s r).1/\code (resF s r).2:=by
 unfold resF;split
 ·split
  ·rename_i c he;exact ⟨h,by have:=iL s.1 r.2.2.1 r.2.2.2.1 r.2.2.2.2.1;rw [he] at this;exact this⟩
  ·have:=yr h (w:=jK s.1 r.2.2.1 r.2.2.2.2.1) (fun hn=>Ba h.rt hn) (yf _ _ _);exact ⟨this.1,this.2.1⟩
 ·exact ⟨h,bU (by omega)⟩
theorem pD {s:ab} (h:Op s s)(r:ae):Op s (oK s r).1/\code (oK s r).2:=by
 unfold oK;split
 ·rename_i c he;exact ⟨h,by have:=iL s.1 r.2.2.1 r.2.2.2.1 r.2.2.2.2.1;rw [he] at this;exact this⟩
 ·have:=yr h (w:=jA s.1 r.2.2.2.2.1 (ff s.1 r.2.2.1 r.2.2.2.1 r.2.2.2.2.1).1) (fun hn=>vV h.rt hn) (tn _ _ _);exact ⟨this.1,this.2.1⟩
theorem tJ {s:ab} (h:Op s s)(r:ae):Op s (Dr s r).1/\code (Dr s r).2:=by
 have:=yr h (w:=relF s.1 r.2.2.1 r.2.2.2.2.1) (fun hn=>tW h.rt hn) (vC _ _ _);exact ⟨this.1,this.2.1⟩
end Go.Eng.Top
namespace Go.Eng.Top
open Go.RowKit Go.Eng Go.Eng.LVar Go.Eng.LChart Go.Eng.LEnt
set_option maxRecDepth 100000
theorem Op.self {s t:ab} (h:Op s t):Op t t:=⟨rfl,h.rt,h.pl,h.ps,MH _⟩
theorem Op.trans {s t u:ab} (h:Op s t)(k:Op t u):Op s u:=⟨k.rest.trans h.rest,k.rt,k.pl,k.ps,Nc h.ac k.ac⟩
def sagR (g:bk):Prop:=(0<=g.2.2.1/\g.2.2.1<=g.1.2.2.2.2.2.1)/\(0<=g.2.2.2.1/\g.2.2.2.1<=4)/\((g.2.1=0/\g.2.2.2.2=0/\g.2.2.2.1<=3/\(g.2.2.2.1=0\/g.2.2.1 < g.1.2.2.2.2.2.1))\/(g.2.1=1/\1<=g.2.2.2.2/\g.2.2.2.2<=13/\g.2.2.2.2 ≠ 8/\g.2.2.2.2 ≠ 12))
structure Inv (s:ab):Prop where
 op:Op s s
 gl:s.2.2.1.length<=16
 gs:∀ g ∈ s.2.2.1,I64 (sagL g)
 kl:s.2.2.2.1.length<=256
 ks:∀ k ∈ s.2.2.2.1,I64 (knL k)
 now:0<=s.2.2.2.2/\s.2.2.2.2<=1073741824
 gk:∀ g ∈ s.2.2.1,∃ i,fnd g.1.1 s.2.2.2.1=some i/\(s.2.2.2.1.getD i d0).2.2=false
 gd:(s.2.2.1.map fun g=>g.1.1).Nodup
 gr:∀ g ∈ s.2.2.1,mayB g.1=true/\sagR g
 kr:∀ k ∈ s.2.2.2.1,mayB k.1=true/\okO k.2.1
theorem eV {α:Type} {f:α->List Int} {l:List α} (h:∀ x ∈ l,I64 (f x)):I64 (l.flatMap f):=by
 intro x hx;obtain ⟨a,ha,hx⟩:=Nh.1 hx;exact h a ha x hx
theorem Iw {ac:List Acc} (h:Rt ac):∀ a ∈ ac,I64 (acL a):=by
 intro a ha;obtain ⟨k,hk,rfl⟩:=Pu ha;obtain ⟨h1,h2,h3,h4,h5,h6⟩:=h.ok k hk;simp only [acL,I64,MO,Nf,NS,NG,Og];by_cases h9:k < 9
 ·have:=h5 h9;omega
 ·have:=h6 (by omega);omega
theorem Inv.st {s:ab} (h:Inv s):StOk s where
 now:=by have:=h.now;omega
 ac:=eV (Iw h.op.rt)
 acl:=by have:=h.op.rt.hi;omega
 ps:=eV fun p hp=>(h.op.ps p hp).i64
 psl:=by have:=h.op.pl;omega
 gs:=eV h.gs
 gsl:=by have:=h.gl;omega
 ks:=eV h.ks
 ksl:=by have:=h.kl;omega
theorem Aa (ks:List aM)(r:ae):(askF ks r).2=(fnd r.1 ks).isSome:=by
 unfold askF;cases fnd r.1 ks with
 | none=>rfl
 | some i =>
  dsimp only;split
  ·split<;>rfl
  ·rfl
theorem AJ {ks:List aM} {r:ae} (hf:fnd r.1 ks=none):putF ks r=if 256<=ks.length then ([],some 7) else (ks++[(r,(0,0),false)],none):=by
 unfold putF;rw [hf]
theorem lW {ks:List aM} {r:ae} (hf:fnd r.1 ks=none)(o:ai):pB (ks++[(r,(0,0),false)]) r.1 o=(ks++[(r,o,true)],none):=by
 unfold pB;rw [nJ,hf];simp only [Oa];rw [qM];simp only [Ng,NF];rw [GK]
theorem yz {ks:List aM} {key:Int} {i:Nat} (hf:fnd key ks=some i)(ht:(ks.getD i d0).2.2=false)(o:ai):pB ks key o=(ks.set i ((ks.getD i d0).1,o,true),none):=by
 unfold pB;rw [hf];dsimp only;rw [ht,MG (by simp)]
def DB (s:ab)(r:ae):Prop:=mayB r=false\/(fnd r.1 s.2.2.2.1).isSome=true
theorem A9 {r:ae} {o:ai} {b:Bool} (hr:I64 (rqL r))(h1:-9223372036854775808<=o.1/\o.1<=9223372036854775807)(h2:-9223372036854775808<=o.2/\o.2<=9223372036854775807):I64 (knL (r,o,b)):=by
 unfold knL;refine cy.2 ⟨hr,cy.2 ⟨aX.2 ⟨h1,aX.2 ⟨h2,by simp [I64]⟩⟩,?_⟩⟩;cases b<;>simp [I64]
def w6 (s t:ab):Prop:=∃ l,bL t.2.2.2.1=bL s.2.2.2.1++l
theorem dI (s:ab):w6 s s:=⟨[],(Ns _).symm⟩
theorem IJ {gs:List bk} {ks:List aM} (kn:aM)(h:∀ g ∈ gs,∃ i,fnd g.1.1 ks=some i/\(ks.getD i d0).2.2=false):∀ g ∈ gs,∃ i,fnd g.1.1 (ks++[kn])=some i/\((ks++[kn]).getD i d0).2.2=false:=by
 intro g hg;obtain ⟨i,h1,h2⟩:=h g hg;obtain ⟨h3,_⟩:=hZ h1;exact ⟨i,by rw [nJ,h1],by rw [ch _ _ _ h3];exact h2⟩
theorem EP {s t:ab} (h:Inv s)(ht:Op s t)(kn:aM)(hk:I64 (knL kn))(hkr:mayB kn.1=true/\okO kn.2.1)(hl:¬ 256<=s.2.2.2.1.length):Inv (t.1,t.2.1,s.2.2.1,s.2.2.2.1++[kn],s.2.2.2.2) where
 op:=⟨rfl,ht.rt,ht.pl,ht.ps,MH _⟩
 gl:=h.gl
 gs:=h.gs
 kl:=by dsimp only;rw [My];simp only [MC,ML];omega
 ks:=fun k hk2=>by
  dsimp only at hk2;rcases MU.1 hk2 with hk2 | hk2
  ·exact h.ks k hk2
  ·rw [Na] at hk2;rw [hk2];exact hk
 now:=h.now
 gk:=IJ kn h.gk
 gd:=h.gd
 gr:=h.gr
 kr:=fun k hk2=>by
  dsimp only at hk2;rcases MU.1 hk2 with hk2 | hk2
  ·exact h.kr k hk2
  ·rw [Na] at hk2;rw [hk2];exact hkr
theorem Ho {r:ae} (hr:I64 (rqL r)):I64 (sagL (r,0,0,0,0)):=by
 unfold sagL;exact cy.2 ⟨hr,by simp [I64]⟩
theorem Eu {r:ae} (h:mayB r=true):0<=r.2.2.2.2.2.1/\r.2.2.2.2.2.1<=4:=by
 unfold mayB at h;split at h
 ·cases h
 ·omega
theorem Hm {s t:ab} (h:Inv s)(ht:Op s t)(r:ae)(hm:mayB r=true)(hr:I64 (rqL r))(hl:¬ 256<=s.2.2.2.1.length)(hg:¬ 16<=s.2.2.1.length)(hf:fnd r.1 s.2.2.2.1=none):Inv (t.1,t.2.1,s.2.2.1++[(r,0,0,0,0)],s.2.2.2.1++[(r,(0,0),false)],s.2.2.2.2) where
 op:=⟨rfl,ht.rt,ht.pl,ht.ps,MH _⟩
 gl:=by dsimp only;rw [My];simp only [MC,ML];omega
 gs:=fun g hg2=>by
  dsimp only at hg2;rcases MU.1 hg2 with hg2 | hg2
  ·exact h.gs g hg2
  ·rw [Na] at hg2;rw [hg2];exact Ho hr
 kl:=by dsimp only;rw [My];simp only [MC,ML];omega
 ks:=fun k hk2=>by
  dsimp only at hk2;rcases MU.1 hk2 with hk2 | hk2
  ·exact h.ks k hk2
  ·rw [Na] at hk2;rw [hk2];exact A9 hr (by simp) (by simp)
 now:=h.now
 gk:=fun g hg2=>by
  dsimp only at hg2 ⊢;rcases MU.1 hg2 with hg2 | hg2
  ·exact IJ _ h.gk g hg2
  ·rw [Na] at hg2;subst hg2;refine ⟨s.2.2.2.1.length,?_,by rw [qM]⟩;rw [nJ];dsimp only;rw [hf];simp
 gd:=by
  dsimp only;rw [Oo,OT];refine ⟨h.gd,by simp,?_⟩;intro a ha b hb;simp only [MW,N1,Na] at hb;obtain ⟨g,hg3,rfl⟩:=Nb.1 ha;obtain ⟨i,h1,_⟩:=h.gk g hg3;intro e;rw [e,hb,hf] at h1;cases h1
 gr:=fun g hg2=>by
  dsimp only at hg2;rcases MU.1 hg2 with hg2 | hg2
  ·exact h.gr g hg2
  ·rw [Na] at hg2;subst hg2;have:=Eu hm;exact ⟨hm,⟨by simp,this.1⟩,⟨by simp,by simp⟩,.inl ⟨rfl,rfl,by simp,.inl rfl⟩⟩
 kr:=fun k hk2=>by
  dsimp only at hk2;rcases MU.1 hk2 with hk2 | hk2
  ·exact h.kr k hk2
  ·rw [Na] at hk2;rw [hk2];exact ⟨hm,l7 (by omega)⟩
theorem uH {r:ae} (h:mayB r=true):(0<=r.2.2.2.2.2.2/\r.2.2.2.2.2.2<=1073741824)/\(r.2.1=3->1<=r.2.2.2.2.1/\r.2.2.2.2.1<=1099511627776):=by
 unfold mayB at h;split at h
 ·cases h
 ·rename_i h0;refine ⟨by omega,fun h3=>?_⟩;split at h
  ·cases h
  ·rw [MG (by omega),MG (by omega),MK (by omega)] at h;exact OU h
theorem Ew {r:ae} (h:mayB r ≠ false)(h0:r.2.1=0):0<=r.2.2.1/\r.2.2.1<=2:=by
 unfold mayB at h;split at h
 ·exact (h rfl).elim
 ·split at h
  ·exact (h rfl).elim
  ·have:=OU (by simpa using h:decide (0<=r.2.2.1/\r.2.2.1 < 3)=true);omega
theorem Jf {s:ab} (h:Inv s)(r:ae)(hr:I64 (rqL r)):Inv (subF s r).1/\w6 s (subF s r).1/\((subF s r).2.1=7\/DB (subF s r).1 r):=by
 unfold subF;by_cases hm:mayB r=false
 ·rw [MK hm];exact ⟨h,dI s,.inr (.inl hm)⟩
 rw [MG hm];have hmt:mayB r=true:=by cases hq:mayB r with | true=>rfl | false=>exact (hm hq).elim
 by_cases hk:(askF s.2.2.2.1 r).2=true
 ·rw [MK hk];rw [Aa] at hk;exact ⟨h,dI s,.inr (.inr hk)⟩
 rw [MG hk];have hf:fnd r.1 s.2.2.2.1=none:=by
  rw [Aa] at hk;cases hf:fnd r.1 s.2.2.2.1 with
  | none=>rfl
  | some i=>rw [hf] at hk;simp at hk
 by_cases hl:long r/\16<=(s.2.2.1.length:Int)
 ·rw [MK hl];exact ⟨h,dI s,.inl rfl⟩
 rw [MG hl,AJ hf];by_cases h256:256<=s.2.2.2.1.length
 ·rw [MK h256];exact ⟨h,dI s,.inl rfl⟩
 rw [MG h256];dsimp only;have hgr:∀ (a:List Acc) (b:List ag) (c:List bk) (d:Int) (kn:aM),w6 s (a,b,c,s.2.2.2.1++[kn],d):=fun a b c d kn=>⟨[kn.1.1],by unfold bL;simp⟩
 have hset:∀ (a:List Acc) (b:List ag) (c:List bk) (d:Int) (o:ai) (x:Bool),DB (a,b,c,s.2.2.2.1++[(r,o,x)],d) r:=fun a b c d o x=>by
  refine .inr ?_;dsimp only;rw [nJ,hf];simp
 by_cases hlo:long r
 ·rw [MK hlo];obtain ⟨q1,q2⟩:=DU h.op r;cases hc:(resF s r).2 with
  | some c =>
   dsimp only;rw [lW hf];have:=q2 c hc;exact ⟨EP h h.op _ (A9 hr (by dsimp only;omega) (by dsimp only;omega)) ⟨hmt,kR this⟩ h256,hgr _ _ _ _ _,.inr (hset _ _ _ _ _ _)⟩
  | none =>
   dsimp only;have e1:(resF s r).1.2.2.1=s.2.2.1:=by rw [q1.rest]
   have e2:(resF s r).1.2.2.2.2=s.2.2.2.2:=by rw [q1.rest]
   rw [e1,e2];exact ⟨Hm h q1 r hmt hr h256 (by omega) hf,hgr _ _ _ _ _,.inr (hset _ _ _ _ _ _)⟩
 ·rw [MG hlo];obtain ⟨q1,q2⟩:=AP h.op r (fun h3=>⟨hr,(uH hmt).2 h3,(uH hmt).1⟩) (Ew hm);have e1:(opsF s r).1.2.2.1=s.2.2.1:=by rw [q1.rest]
  have e2:(opsF s r).1.2.2.2.2=s.2.2.2.2:=by rw [q1.rest]
  rw [lW hf,e1,e2];obtain ⟨⟨o1,o2⟩,⟨o3,o4⟩,o5⟩:=id q2;exact ⟨EP h q1 _ (A9 hr (by omega) (by omega)) ⟨hmt,q2⟩ h256,hgr _ _ _ _ _,.inr (hset _ _ _ _ _ _)⟩
theorem GI {α:Type} (l:List α)(i:Nat)(h:i < l.length):l=l.take i++l[i]::l.drop (i+1):=by
 rw [<- Nd h,Pj]
theorem ER {s t:ab} (h:Inv s)(ht:Op s t)(i:Nat)(hi:i < s.2.2.1.length)(o:ai)(ho:okO o):Inv (endF t i o).1/\w6 s (endF t i o).1:=by
 obtain ⟨tr⟩:=ht;rename_i hrt hpl hps hac;have h1:-9223372036854775808<=o.1/\o.1<=9223372036854775807:=by have:=ho.1;omega
 have h2:-9223372036854775808<=o.2/\o.2<=9223372036854775807:=by have:=ho.2.1;omega
 unfold endF;dsimp only;have e1:t.2.2.1=s.2.2.1:=by rw [tr]
 have e2:t.2.2.2.1=s.2.2.2.1:=by rw [tr]
 have e3:t.2.2.2.2=s.2.2.2.2:=by rw [tr]
 rw [e1,e2,e3,bj s.2.2.1 i zG hi];have hsp:=GI s.2.2.1 i hi;have hmem:∀ g,g ∈ s.2.2.1.take i++s.2.2.1.drop (i+1)->g ∈ s.2.2.1:=by
  intro g hg;rcases MU.1 hg with hg | hg
  ·exact Oi hg
  ·exact P1 hg
 obtain ⟨j,f1,f2⟩:=h.gk _ (Np hi);obtain ⟨hj,hjk⟩:=hZ f1;rw [yz f1 f2];have hnd:=h.gd;rw [hsp,Oo,MW,OT] at hnd;obtain ⟨n1,n2,n3⟩:=hnd;rw [On] at n2;have hne:∀ g,g ∈ s.2.2.1.take i++s.2.2.1.drop (i+1)->g.1.1 ≠ (s.2.2.1[i]).1.1:=by
  intro g hg e;rcases MU.1 hg with hg | hg
  ·exact n3 _ (Nb.2 ⟨g,hg,rfl⟩) _ (Nw ..) e
  ·exact n2.1 (e ▸ Nb.2 ⟨g,hg,rfl⟩)
 have hko:bL (s.2.2.2.1.set j ((s.2.2.2.1.getD j d0).1,o,true))=bL s.2.2.2.1:=sX _ _ _ hj (by rw [bj _ _ _ hj]);refine ⟨⟨⟨rfl,hrt,hpl,hps,MH _⟩,?_,fun g hg=>h.gs g (hmem g hg),?_,?_,h.now,?_,?_,fun g hg=>h.gr g (hmem g hg),fun k hk=>?_⟩,⟨[],by dsimp only;rw [hko,Ns]⟩⟩
 ·dsimp only;have:=h.gl;rw [My,NC,NW];omega
 ·dsimp only;rw [MB];exact h.kl
 ·intro k hk;dsimp only at hk;rcases NV hk with hk | hk
  ·exact h.ks k hk
  ·subst hk;have:=h.ks _ (Np hj);unfold knL at this;rw [bj _ _ _ hj];exact A9 (cy.1 this).1 h1 h2
 ·intro g hg;dsimp only at hg ⊢;obtain ⟨j2,g1,g2⟩:=h.gk g (hmem g hg);have hjj:j ≠ j2:=by
   intro e;subst e;obtain ⟨_,hk2⟩:=hZ g1;exact hne g hg (hk2.symm.trans hjk)
  refine ⟨j2,?_,by rw [getD_set_ne _ _ _ hjj];exact g2⟩;unfold fnd at g1 ⊢;rw [hko];exact g1
 ·dsimp only;rw [Oo,OT];exact ⟨n1,n2.2,fun a ha b hb=>n3 a ha b (M0 _ hb)⟩
 ·dsimp only at hk;rcases NV hk with hk | hk
  ·exact h.kr k hk
  ·subst hk;rw [bj _ _ _ hj];exact ⟨(h.kr _ (Np hj)).1,ho⟩
theorem A8 {s:ab} (h:Inv s)(i:Nat)(hi:i < s.2.2.1.length)(g:bk)(hg:I64 (sagL g))(hk:g.1=(s.2.2.1[i]).1)(hgr:sagR g):Inv (putG s i g).1/\w6 s (putG s i g).1:=by
 have hm:(s.2.2.1.set i g).map (fun g=>g.1.1)=s.2.2.1.map fun g=>g.1.1:=by
  rw [Qj,hk];have:(s.2.2.1[i]).1.1=(s.2.2.1.map fun g=>g.1.1)[i]'(by rw [NI];exact hi):=by rw [PS]
  rw [this,OE]
 refine ⟨⟨⟨rfl,h.op.rt,h.op.pl,h.op.ps,MH _⟩,by show (s.2.2.1.set i g).length<=16;rw [MB];exact h.gl,?_,h.kl,h.ks,h.now,?_,by show ((s.2.2.1.set i g).map _).Nodup;rw [hm];exact h.gd,?_,h.kr⟩,dI s⟩
 ·intro x hx;rcases NV (show x ∈ s.2.2.1.set i g from hx) with hx | hx
  ·exact h.gs x hx
  ·rw [hx];exact hg
 ·intro x hx;rcases NV (show x ∈ s.2.2.1.set i g from hx) with hx | hx
  ·exact h.gk x hx
  ·subst hx;rw [hk];exact h.gk _ (Np hi)
 ·intro x hx;rcases NV (show x ∈ s.2.2.1.set i g from hx) with hx | hx
  ·exact h.gr x hx
  ·subst hx;exact ⟨by rw [hk];exact (h.gr _ (Np hi)).1,hgr⟩
theorem Aw {g:bk} (h:I64 (sagL g)) {a b c d:Int} (hb:∀ x ∈ [a,b,c,d],-9223372036854775808<=x/\x<=9223372036854775807):I64 (sagL (g.1,a,b,c,d)):=by
 unfold sagL at h ⊢;exact cy.2 ⟨(cy.1 h).1,hb⟩
theorem yG {g:bk} (h:I64 (sagL g)):∀ x ∈ [g.2.1,g.2.2.1,g.2.2.2.1,g.2.2.2.2],-9223372036854775808<=x/\x<=9223372036854775807:=by
 unfold sagL at h;exact (cy.1 h).2
theorem K6 {g:bk} (h:I64 (sagL g))(ok:Bool):I64 (sagL (legF g ok))/\(legF g ok).1=g.1:=by
 have hg:=yG h;have w1:=Di (g.2.2.1+1);have w2:=Di (g.2.2.2.1+1);simp only [MO,Nf,NS,NG,Og] at hg;unfold legF;split
 ·split
  ·exact ⟨Aw h (by simp only [MO,Nf,NS,NG,Og];omega),rfl⟩
  ·split
   ·exact ⟨Aw h (by simp only [MO,Nf,NS,NG,Og];omega),rfl⟩
   ·exact ⟨Aw h (by simp only [MO,Nf,NS,NG,Og];omega),rfl⟩
 ·exact ⟨h,rfl⟩
theorem Me {g:bk} (h:sagR g)(hl:g.1.2.2.2.2.2.1<=4)(ok:Bool):sagR (legF g ok):=by
 unfold legF;unfold sagR at h;split
 ·rename_i h0;have e1:w64 (g.2.2.1+1)=g.2.2.1+1:=aO (by omega);have e2:w64 (g.2.2.2.1+1)=g.2.2.2.1+1:=aO (by omega);rw [e1,e2];split
  ·unfold sagR;dsimp only;omega
  ·split
   ·unfold sagR;dsimp only;omega
   ·unfold sagR;dsimp only;omega
 ·exact h
theorem Kz {g:bk} (h:sagR g) {c:Int} (hc:1<=c/\c<=13/\c ≠ 8/\c ≠ 12):sagR (vP g c):=by
 unfold vP;unfold sagR at h;split
 ·unfold sagR;dsimp only;omega
 ·exact h
theorem Ja {g:bk} (h:I64 (sagL g)) {c:Int} (hc:1<=c/\c<=13/\c ≠ 8/\c ≠ 12):I64 (sagL (vP g c))/\(vP g c).1=g.1:=by
 have hg:=yG h;simp only [MO,Nf,NS,NG,Og] at hg;unfold vP;split
 ·exact ⟨Aw h (by simp only [MO,Nf,NS,NG,Og];omega),rfl⟩
 ·exact ⟨h,rfl⟩
theorem qU {key:Int} {gs:List bk} {i:Nat} (h:fndG key gs=some i):i < gs.length:=by
 obtain ⟨h1,_⟩:=mG h;rw [NI] at h1;exact h1
theorem GF {s:ab} (h:Inv s)(key:Int)(ok:Bool):Inv (tM s key ok).1/\w6 s (tM s key ok).1:=by
 unfold tM;cases hf:fndG key s.2.2.1 with
 | none=>exact ⟨h,dI s⟩
 | some i =>
  have hi:=qU hf;dsimp only;rw [bj s.2.2.1 i zG hi];have hg:=h.gs _ (Np hi);have hgg:=yG hg;simp only [MO,Nf,NS,NG,Og] at hgg;have hrr:=h.gr _ (Np hi);generalize he:s.2.2.1[i]=g at hg hgg hrr ⊢;split
  ·rename_i h1;exact ER h (tJ h.op g.1).1 i hi _ (kR (by have:=hrr.2;unfold sagR at this;omega))
  ·split
   ·have hs:=pD h.op g.1;cases hc:(oK s g.1).2 with
    | none=>exact ER h hs.1 i hi _ (l7 (by omega))
    | some c =>
     obtain ⟨q1,q2⟩:=Ja hg (hs.2 c hc);exact A8 h i hi _ q1 (by rw [q2,he]) (Kz hrr.2 (hs.2 c hc))
   ·obtain ⟨q1,q2⟩:=K6 hg ok;exact A8 h i hi _ q1 (by rw [q2,he]) (Me hrr.2 (Eu hrr.1).2 ok)
theorem oX:∀ (l:List Int)(s:ab),Op s s->Op s (Dp l s)
 | [],s,h=>h
 | k::l,s,h=>by
  have h1:=(AP h (0,5,k,0,0,0,0) (fun e=>by simp at e) (fun e=>by simp at e)).1;exact h1.trans (oX l _ h1.self)
theorem GC {s:ab} (h:Inv s):Inv (vQ s)/\w6 s (vQ s):=by
 unfold vQ;split
 ·exact ⟨h,dI s⟩
 ·rename_i hn;have hnow:=h.now;have e:w64 (s.2.2.2.2+1)=s.2.2.2.2+1:=aO (by omega);rw [e];have h0:Op (s.1,s.2.1,s.2.2.1,s.2.2.2.1,s.2.2.2.2+1) (s.1,s.2.1,s.2.2.1,s.2.2.2.1,s.2.2.2.2+1):=⟨rfl,h.op.rt,h.op.pl,h.op.ps,MH _⟩
  have h1:=oX (rk s.2.1 (s.2.2.2.2+1)) _ h0;generalize Dp (rk s.2.1 (s.2.2.2.2+1)) (s.1,s.2.1,s.2.2.1,s.2.2.2.1,s.2.2.2.2+1)=t at h1;have e1:t.2.2.1=s.2.2.1:=by rw [h1.rest]
  have e2:t.2.2.2.1=s.2.2.2.1:=by rw [h1.rest]
  have e3:t.2.2.2.2=s.2.2.2.2+1:=by rw [h1.rest]
  exact ⟨⟨h1.self,by rw [e1];exact h.gl,by rw [e1];exact h.gs,by rw [e2];exact h.kl,by rw [e2];exact h.ks,by rw [e3];omega,by rw [e1,e2];exact h.gk,by rw [e1];exact h.gd,by rw [e1];exact h.gr,by rw [e2];exact h.kr⟩,⟨[],by rw [e2,Ns]⟩⟩
theorem x8 {s:ab} (h:Inv s)(e:aD)(hr:I64 (rqL e.2.1)):Inv (doF s e).1/\w6 s (doF s e).1:=by
 unfold doF;split
 ·have:=Jf h e.2.1 hr;exact ⟨this.1,this.2.1⟩
 ·split
  ·exact GF h _ _
  ·split
   ·exact GC h
   ·exact ⟨h,dI s⟩
def s0:ab:=([(0,0,0),(0,0,0),(0,0,0),(1,0,0),(1,0,0),(1,0,0),(2,0,0),(2,0,0),(2,0,0)],[],[],[],0)
theorem inv0:Inv s0 where
 op:=by
  refine ⟨rfl,⟨by decide,by decide,fun k hk=>?_,fun c=>?_⟩,by decide,fun p hp=>(by cases hp),MH _⟩
  ·have hk9:k < 9:=hk;have:=(sL s0.1 0).1 (by decide) k hk;rw [Nz] at this;exact this
  ·unfold sums cur s0;simp
 gl:=by decide
 gs:=fun g hg=>by cases hg
 kl:=by decide
 ks:=fun g hg=>by cases hg
 now:=by decide
 gk:=fun g hg=>by cases hg
 gd:=O7
 gr:=fun g hg=>by cases hg
 kr:=fun g hg=>by cases hg
end Go.Eng.Top
