/- Definitions and lemmas for the law TopOther: what the program's functions come to. Conditions: as each lemma says. -/
import Derived.Test.YtbbnmhmfdbcmhaaGreatDoorG5
import Derived.Test.YtbbnmhmfdbcmhaaGreatDoorG3
set_option linter.all false
set_option linter.unusedVariables false
set_option linter.unusedSimpArgs false
set_option linter.deprecated false
namespace Go.Eng.Top
open Go.RowKit Go.Eng Go.Eng.LVar Go.Eng.LChart Go.Eng.LEnt
set_option maxRecDepth 100000
theorem EG (p:ag):Ev1 (fun k=>CF k rR eP [inj aj p]) (EH p):=by
 refine Ev1.step (fun k=>rZ k p) ?_;unfold EH;by_cases h:p.2.2.2.2.2.2.2=0
 ·rw [MK h];exact Ev1.neg (by rw [MJ h];rfl) (Ev1.now _)
 ·rw [MG h];exact Ev1.pos (by rw [MD h];rfl) (Ev1.now _)
theorem zd (p:ag):Ev1 (fun k=>CF k rS dn [inj aj p]) (ze p):=Ev1.step (fun k=>r8 k p) (Ev1.now _)
theorem JA (p:ag)(n:Int):Ev1 (fun k=>CF k iI iz [inj aj p,inj I n]) (fi 4 p n):=by
 refine Ev1.step (fun k=>nM k p n _ rfl) (Ev1.bind (EG p) ?_);unfold fi;rw [MK rfl];exact Ev1.iff (fun h=>by rw [MK h,<- h];exact Ev1.now _) (fun h=>by rw [MG h];exact Ev1.now _)
theorem Jx (p:ag)(n:Int):Ev1 (fun k=>CF k oM jD [inj aj p,inj I n]) (fi 6 p n) :=
 Ev1.step (fun k=>oO k p n) (Ev1.bind (zd p) (Ev1.now _))
theorem Jz (p:ag)(n:Int):Ev1 (fun k=>CF k oN jE [inj aj p,inj I n]) (fi 7 p n) :=
 Ev1.step (fun k=>oP k p n) (Ev1.bind (zd p) (Ev1.now _))
theorem G2 (p:ag)(n:Int):Ev1 (fun k=>CF k rQ kY [inj aj p,inj I n]) (fi 5 p n) :=
 Ev1.step (fun k=>rY k p n) (Ev1.now _)
theorem fu (e:Option Int):Ev1 (fun k=>CF k xe bJ [inj .err e]) (e.getD 0,0) :=
 Ev1.step (fun k=>xH k e) (Ev1.bind (wq e) (Ev1.now _))
theorem AI (g:bk):Ev1 (fun k=>CF k xb gJ [inj bB g]) (decide (g.2.1=0/\g.1.2.2.2.2.2.1<=g.2.2.1)):=by
 refine Ev1.step (fun k=>xF k g) ?_;by_cases h:g.2.1=0
 ·exact Ev1.posD h (Ev1.const (congrArg some (Ot.2 ⟨fun q=>⟨h,q⟩,fun q=>q.2⟩)))
 ·exact Ev1.negD h (Ev1.const (congrArg some (MD (fun q=>h q.1)).symm))
theorem Ib (g:bk):Ev1 (fun k=>CF k xa jU [inj bB g]) (g.1,g.2.1,w64 (g.2.2.1+1),0,g.2.2.2.2):=Ev1.step (fun k=>xD k g) (Ev1.now _)
theorem D4 (g:bk):Ev1 (fun k=>CF k uX iV [inj bB g]) (if 3 < w64 (g.2.2.2.1+1) then (g.1,1,g.2.2.1,w64 (g.2.2.2.1+1),9) else (g.1,g.2.1,g.2.2.1,w64 (g.2.2.2.1+1),g.2.2.2.2)):=by
 refine Ev1.step (fun k=>vc k g _ rfl) ?_;exact Ev1.iff (fun h=>by rw [MK h];exact Ev1.now _) (fun h=>by rw [MG h];exact Ev1.now _)
theorem K7 (g:bk)(ok:Bool):Ev1 (fun k=>CF k CC nj [inj bB g,inj .bool ok]) (legF g ok):=by
 refine Ev1.step (fun k=>CJ k g ok) ?_;unfold legF;by_cases h:g.2.1=0
 ·refine Ev1.neg (by rw [MJ h];rfl) (Ev1.bind (AI g) ?_);by_cases h2:g.1.2.2.2.2.2.1<=g.2.2.1
  ·rw [MG (fun q=>q.2 h2)];exact Ev1.posD ⟨h,h2⟩ (Ev1.now _)
  ·rw [MK ⟨h,h2⟩];refine Ev1.negD (fun q=>h2 q.2) ?_;cases ok with
   | true=>exact Ev1.bind (Ib g) (Ev1.now _)
   | false=>exact Ev1.bind (D4 g) (Ev1.now _)
 ·rw [MG (fun q=>h q.1)];exact Ev1.pos (by rw [MD h];rfl) (Ev1.now _)
theorem Jb (g:bk)(c:Int):Ev1 (fun k=>CF k zf lC [inj bB g,inj I c]) (vP g c):=by
 refine Ev1.step (fun k=>zr k g c) ?_;unfold vP;exact Ev1.iff (fun h=>by rw [MK h];exact Ev1.now _) (fun h=>by rw [MG h];exact Ev1.now _)
theorem H9 (r:ae):Ev1 (fun k=>CF k xc jV [inj aq r]) (r,0,0,0,0):=Ev1.step (fun k=>xG k r) (Ev1.now _)
theorem ED (r:ae):Ev1 (fun k=>CF k rP eO [inj aq r]) (decide (long r)):=by
 refine Ev1.step (fun k=>rX k r) ?_;by_cases h:0 < r.2.2.2.2.2.1
 ·exact Ev1.posD h (Ev1.const (congrArg some (Ot.2 ⟨fun q=>⟨h,q⟩,fun q=>q.2⟩)))
 ·exact Ev1.negD h (Ev1.const (congrArg some (MD (fun q=>h q.1)).symm))
theorem JQ (r:ae):Ev1 (fun k=>wV k k r.1 r.2.1 r.2.2.1 r.2.2.2.1 r.2.2.2.2.1 r.2.2.2.2.2.1 r.2.2.2.2.2.2)
  (if r.2.1=0 then decide (0<=r.2.2.1/\r.2.2.1 < 3) else if r.2.1=5 then true else if r.2.1=1\/r.2.1=2\/r.2.1=3\/r.2.1=4\/r.2.1=6\/r.2.1=7 then amtB r.2.2.2.2.1 else false):=by
 have ha:Ev1 (fun k=>CF k rT aV [inj I r.2.2.2.2.1]) (amtB r.2.2.2.2.1):=Ev1.of_rfl 1 (fun k=>kz k _);have h2:Ev2 (fun k m=>wV k m r.1 r.2.1 r.2.2.1 r.2.2.2.1 r.2.2.2.2.1 r.2.2.2.2.2.1 r.2.2.2.2.2.2)
  (if r.2.1=0 then decide (0<=r.2.2.1/\r.2.2.1 < 3) else if r.2.1=5 then true else if r.2.1=1\/r.2.1=2\/r.2.1=3\/r.2.1=4\/r.2.1=6\/r.2.1=7 then amtB r.2.2.2.2.1 else false):=by
  refine Ev2.step (fun k m=>Hq k m r.1 r.2.1 r.2.2.1 r.2.2.2.1 r.2.2.2.2.1 r.2.2.2.2.2.1 r.2.2.2.2.2.2) ?_;generalize amtB r.2.2.2.2.1=B at ha ⊢;refine Ev2.iff (fun h=>?_) (fun h0=>?_)
  ·rw [MK h];refine Ev2.iff (fun q=>Ev2.const (congrArg some (Ot.2 ⟨fun w=>⟨q,w⟩,fun w=>w.2⟩))) (fun q=>Ev2.const (congrArg some (MD (fun w=>q w.1)).symm))
  rw [MG h0];refine Ev2.iff (fun h=>by rw [MK h];exact Ev2.now _) (fun h5=>?_);rw [MG h5];refine Ev2.iff (fun h=>by rw [MK (by omega)];exact Ev2.posD h (Ev2.bind ha (Ev2.now _))) (fun h1=>?_);refine Ev2.iff (fun h=>by rw [MK (by omega)];exact Ev2.posD h (Ev2.bind ha (Ev2.now _))) (fun h2=>?_);refine Ev2.iff (fun h=>by rw [MK (by omega)];exact Ev2.posD h (Ev2.bind ha (Ev2.now _))) (fun h3=>?_);refine Ev2.iff (fun h=>by rw [MK (by omega)];exact Ev2.posD h (Ev2.bind ha (Ev2.now _))) (fun h4=>?_);refine Ev2.iff (fun h=>by rw [MK (by omega)];exact Ev2.posD h (Ev2.bind ha (Ev2.now _))) (fun h6=>?_);refine Ev2.iff (fun h=>by rw [MK (by omega)];exact Ev2.bind ha (Ev2.now _)) (fun h7=>?_);rw [MG (by omega)];exact Ev2.now _
 exact h2.diag
theorem ID (r:ae):Ev1 (fun k=>CF k g_rM n_rM [inj aq r]) (mayB r):=by
 refine Ev1.step (fun k=>f_rM k r) ?_;have h1:=JQ r;unfold mayB;generalize (if r.2.1=0 then decide (0<=r.2.2.1/\r.2.2.1 < 3) else if r.2.1=5 then true else if r.2.1=1\/r.2.1=2\/r.2.1=3\/r.2.1=4\/r.2.1=6\/r.2.1=7 then amtB r.2.2.2.2.1 else false)=B at h1 ⊢;have h2:Ev2 (fun k m=>h_rM k m r.1 r.2.1 r.2.2.1 r.2.2.2.1 r.2.2.2.2.1 r.2.2.2.2.2.1 r.2.2.2.2.2.2) (if 0 < r.2.2.2.2.2.1/\r.2.1 ≠ 2 then false else B):=by
  refine Ev2.step (fun k m=>Lb k m r.1 r.2.1 r.2.2.1 r.2.2.2.1 r.2.2.2.2.1 r.2.2.2.2.2.1 r.2.2.2.2.2.2) ?_;refine Ev2.iff (fun h=>?_) (fun h=>by rw [MG (fun q=>h q.1)];exact h1.drop);by_cases hq:r.2.1=2
  ·rw [MG (fun q=>q.2 hq)];exact Ev2.neg (by rw [MJ hq];rfl) h1.drop
  ·rw [MK ⟨h,hq⟩];exact Ev2.pos (by rw [MD hq];rfl) (Ev2.now _)
 refine Ev1.iff (fun h=>by rw [MK (by omega)];exact Ev1.now _) (fun q1=>?_);refine Ev1.iff (fun h=>by rw [MK (by omega)];exact Ev1.now _) (fun q2=>?_);refine Ev1.iff (fun h=>by rw [MK (by omega)];exact Ev1.now _) (fun q3=>?_);refine Ev1.iff (fun h=>by rw [MK (by omega)];exact Ev1.now _) (fun q4=>?_);refine Ev1.iff (fun h=>by rw [MK (by omega)];exact Ev1.now _) (fun q5=>?_);refine Ev1.iff (fun h=>by rw [MK (by omega)];exact Ev1.now _) (fun q6=>?_);rw [MG (by omega)];exact h2.diag
theorem Cz (l:List (Int × Int))(x:Int × Int):(uV l x).length=l.length+1:=Go.Proofs.Due.hPush_len l x
theorem ri:∀ (ps:List ag)(k:Nat)(l:List (Int × Int)),(dW k ps l).length<=l.length+ps.length
 | [],k,l=>by unfold dW;simp
 | p::r,k,l=>by
  unfold dW;refine Nc (ri r (k+1) _) ?_;cases decide (p.2.2.2.2.2.2.2=(0:Int)) with
  | true=>rw [ME,Cz];simp only [MC];omega
  | false=>rw [MQ];simp only [MC];omega
theorem tk (ps:List ag):(fo ps).length<=ps.length:=by
 unfold fo;rw [Go.Proofs.Due.hDrain_len];have:=ri ps 0 [];simpa using this
theorem FW (ps:List ag)(hl:ps.length<=1000000)(k:Nat):CF (k+1) qP mi [inj (.slice aj) ps]=some (fo ps):=by
 have h:Nat.ble ps.length 1000000=true:=Nq hl;have e:X qP mi [inj (.slice aj) ps]=(bif Nat.ble ps.length 1000000 then some (some (fo ps)) else none):=by kernel_rfl
 rw [h,ME] at e;show C5 Go.Proofs.Tryz.prog A X (k+1) qP mi [inj (.slice aj) ps]=_;unfold C5;rw [e]
theorem by_l (ps:List ag)(now:Int)(l:List Int)(hin:∀ x ∈ l,0<=x/\x < (ps.length:Int))(hl:l.length<=1000):∀ (d i:Nat)(out:List Int),i+d=l.length->out.length<=i ->
  Ev2 (fun k m=>pn k m ps now l (l.length:Int) (i:Int) out) (out++(l.drop i).takeWhile fun k=>!decide (now < (ps.getD (Int.toNat k) zP).2.2.2.2.2.2.1))
 | 0,i,out,hi,ho=>by
  refine Ev2.step (fun k m=>th k m ps now l (l.length:Int) (i:Int) out _ rfl) (Ev2.negD (by omega) (Ev2.const ?_));rw [No (by omega)];simp
 | d+1,i,out,hi,ho=>by
  have hlt:i < l.length:=by omega
  have he:l.getD (Int.toNat (i:Int)) 0=l[i]:=by rw [MV];exact bj l i _ hlt
  have hx:=hin _ (Np hlt);refine Ev2.step (fun k m=>th k m ps now l (l.length:Int) (i:Int) out l[i] he.symm) (Ev2.posD (by omega) (Ev2.pos (ak (by omega) (by omega)) (Ev2.pos (ak hx.1 hx.2) ?_)));rw [Nd hlt,List.takeWhile_cons];refine Ev2.iff (fun h=>?_) (fun h=>?_)
  ·rw [MJ h];exact Ev2.const (by simp)
  ·rw [MD h];refine Ev2.posD (by simp only [MC,ML];omega) ?_;rw [wnat (by omega)];have:=by_l ps now l hin hl d (i+1) (out++[l[i]]) (by omega) (by simp only [My,MC,ML];omega);simpa using this
theorem Mq (ps:List ag)(now:Int)(hl:ps.length<=1000):Ev1 (fun k=>CF k HD uB [inj (.slice aj) ps,inj I now]) (rk ps now):=by
 refine Ev1.step (fun k=>HT k ps now) (Ev1.bind (Ev1.of_rfl 1 (fun k=>FW ps (by omega) k)) ?_);have:=(by_l ps now (fo ps) (Go.Proofs.Due.dueAll_in ps) (Nc (tk ps) hl) (fo ps).length 0 [] (by omega) (by simp)).diag;simpa [rk] using this
theorem gG2 (l:List bk)(i:Nat)(h:i < l.length):l.getD (Int.toNat (i:Int)) ((0,0,0,0,0,0,0),0,0,0,0)=l[i]:=gG l i h
theorem fg_l (key : Int) (l : List bk) (hl : l.length ≤ 1000) : ∀ (d i : Nat), i + d = l.length → Ev2 (fun k m => fx k m key l (l.length : Int) (i : Int)) (match fndI key ((l.map fun g => g.1.1).drop i) with | none => -1 | some j => ((i + j : Nat) : Int))
  | 0, i, hi => by
    refine Ev2.step (fun k m => kg k m key l (l.length : Int) (i : Int)) (Ev2.negD (by omega) ?_)
    rw [No (by rw [NI]; omega)]
    exact Ev2.now _
  | d + 1, i, hi => by
    have hlt : i < l.length := by omega
    refine Ev2.step (fun k m => kg k m key l (l.length : Int) (i : Int)) (Ev2.posD (by omega) (Ev2.pos (ak (by omega) (by omega)) ?_))
    rw [gG2 l i hlt]
    have hd : (l.map fun g => g.1.1).drop i = (l[i]).1.1 :: (l.map fun g => g.1.1).drop (i + 1) := by
      rw [Nd (by rw [NI]; exact hlt), PS]
    rw [hd]
    unfold fndI
    refine Ev2.iff (fun h => ?_) (fun h => ?_)
    · simp only [h, Oa]
      exact Ev2.const (by simp)
    · simp only [h, NF]
      rw [wnat (by omega)]
      have ih := fg_l key l hl d (i + 1) (by omega)
      cases hf : fndI key ((l.map fun g => g.1.1).drop (i + 1)) with
      | none => rw [hf] at ih; simpa using ih
      | some j =>
        rw [hf] at ih
        show Ev2 _ (((i + (j + 1) : Nat)) : Int)
        rw [show i + (j + 1) = i + 1 + j by omega]
        exact ih
theorem Mj (s : ab) (key : Int) (hl : s.2.2.1.length ≤ 1000) : Ev1 (fun k => CF k u4 ja [inj aB s, inj I key]) (num (fndG key s.2.2.1)) := by
  refine Ev1.step (fun k => vi k s key) ?_
  have := (fg_l key s.2.2.1 hl s.2.2.1.length 0 (by omega)).diag
  rw [Ov] at this
  unfold fndG num
  cases hf : fndI key (s.2.2.1.map fun g => g.1.1) with
  | none => rw [hf] at this; exact this
  | some j => rw [hf] at this; simpa using this
end Go.Eng.Top
namespace Go.Eng.Top
open Go.RowKit Go.Eng Go.Eng.LVar Go.Eng.LChart Go.Eng.LEnt
set_option maxRecDepth 100000
abbrev sw (w:Out):ai × ab:=(w.2,w.1)
abbrev Dm (s:ab):AV:=.val false [.io aE s]
theorem mZ (es:List En):(back es).length=es.length:=by unfold back;rw [List.length_reverse,NI]
theorem IS (es:List En)(hl:es.length * 16<=140737488351232):∀ (i:Nat)(out:List En),i<=es.length->out=back (es.drop i)->Ev2 (fun k m=>gZ k m es ((i:Int) - 1) out) (back es)
 | 0,out,h,ho=>by
  subst ho;exact Ev2.step (fun k m=>ln k m es _ _ _ rfl _ rfl) (Ev2.negD (by omega) (Ev2.now _))
 | i+1,out,h,ho=>by
  have hlt:i < es.length:=by omega
  have e1:((i+1:Nat):Int) - 1=(i:Int):=by omega
  have hol:out.length<=es.length:=by rw [ho,mZ,NW];omega
  rw [e1];refine Ev2.step (fun k m=>ln k m es (i:Int) out es[i] (getE es i hlt).symm _ rfl) (Ev2.posD (by omega) (Ev2.pos (ak (by omega) (by omega)) (Ev2.pos (ak (by omega) (by omega)) (Ev2.posD ?_ ?_))))
  ·have:out.length+1<=es.length:=by
    rw [ho,mZ,NW];omega
   simp only [MC,ML];omega
  ·rw [aO (by omega)];refine IS es hl i _ (by omega) ?_;rw [ho,Nd hlt,Gf];rfl
theorem Kl (es:List En)(hl:es.length * 16<=140737488351232):Ev1 (fun k=>CF k xn j5 [inj KEs es]) (back es):=by
 refine Ev1.step (fun k=>xS k es) ?_;rw [aO (by omega)];exact (IS es hl es.length [] (MH _) (by rw [List.drop_length];rfl)).diag
theorem kI (ac:List Acc)(f t n:Int):(ff ac f t n).1.length<=4:=by
 rcases sQ ac f t n with ⟨c,h⟩ | ⟨v,r,h,hr⟩
 ·rw [h];simp
 ·rw [h];simp only [MC];omega
theorem JN {ac:List Acc} {f t n:Int} (h:(ff ac f t n).2=none):1<=(ff ac f t n).1.length:=by
 rcases sQ ac f t n with ⟨c,e⟩ | ⟨v,r,e,hr⟩
 ·rw [e] at h;cases h
 ·rw [e];simp
theorem tK (s:ab)(w:List Acc × Option Int)(id:Int):Ev1 (fun k=>CF k Fa iA [Dm s,inj KA w.1,inj .err w.2,inj I id]) (sw (vR s w id)):=by
 refine Ev1.step (fun k=>Fy k s w.1 w.2 id) ?_;unfold vR;obtain ⟨a,e⟩:=w;cases e with
 | some c=>exact Ev1.pos rfl (Ev1.bind (fu _) (Ev1.now _))
 | none=>exact Ev1.neg rfl (Ev1.now _)
theorem Bw {s:ab} (h:Op s s)(f t n:Int):Ev1 (fun k=>CF k Fb mc [Dm s,inj I f,inj I t,inj I n]) (sw (yP s f t n)):=by
 refine Ev1.step (fun k=>Fz k s f t n) (Ev1.bind (qf s.1 h.rt.curs f t n) ?_);have hl:=kI s.1 f t n;unfold yP;cases hm:(ff s.1 f t n).2 with
 | some c=>exact Ev1.pos rfl (Ev1.bind (fu _) (Ev1.now _))
 | none=>exact Ev1.neg rfl (Ev1.bind (tY s.1 h.rt _ (by omega)) (Ev1.bind (tK s (jJ s.1 _) 0) (Ev1.now _)))
def cliB (s:ab)(ks:List Int):Bool:=ks.all fun n=>decide (cli s n)
theorem Lv (s : ab) (ks : List Int) (hl : ks.length ≤ 10) : ∀ (d i : Nat), i + d = ks.length → Ev2 (fun k m => gT k m ks (ks.length : Int) (i : Int) s.1 s.2.1 s.2.2.1 s.2.2.2.1 s.2.2.2.2) (cliB s (ks.drop i), s)
  | 0, i, hi => by
    refine Ev2.step (fun k m => kZ k m ks (ks.length : Int) (i : Int) s.1 s.2.1 s.2.2.1 s.2.2.2.1 s.2.2.2.2) (Ev2.negD (by omega) ?_)
    rw [No (by omega)]
    exact Ev2.now _
  | d + 1, i, hi => by
    have hlt : i < ks.length := by omega
    have he : ks.getD (Int.toNat (i : Int)) 0 = ks[i] := by rw [MV]; exact bj ks i _ hlt
    refine Ev2.step (fun k m => kZ k m ks (ks.length : Int) (i : Int) s.1 s.2.1 s.2.2.1 s.2.2.2.1 s.2.2.2.2) (Ev2.posD (by omega) (Ev2.pos (ak (by omega) (by omega)) ?_))
    rw [he]
    refine Ev2.bind (A4 s.1 ks[i]) ?_
    rw [Nd hlt]
    show Ev2 _ ((decide (cli s ks[i]) && cliB s (ks.drop (i + 1))), s)
    by_cases h : cli s ks[i]
    · rw [MJ h, P4]
      refine Ev2.neg rfl ?_
      rw [wnat (by omega)]
      exact Lv s ks hl d (i + 1) (by omega)
    · rw [MD h, OL]
      exact Ev2.pos rfl (Ev2.now _)
theorem Bz (s : ab) (ks : List Int) (hl : ks.length ≤ 10) : Ev1 (fun k => CF k xh dG [Dm s, inj (.slice I) ks]) (cliB s ks, s) :=
  Ev1.step (fun k => xK k s ks) (Lv s ks hl ks.length 0 (by omega)).diag
theorem cli1 (s:ab)(a:Int):cliB s [a]=decide (cli s a):=by unfold cliB;simp
theorem cli2 (s:ab)(a b:Int):cliB s [a,b]=decide (cli s a/\cli s b):=by unfold cliB;simp only [P3,List.all_nil,N4,Bool.decide_and]
theorem JE {s:ab} (h:Op s s)(r:ae):Ev1 (fun k=>CF k Fc wy [Dm s,inj aq r]) (sw (B4 s r)):=by
 have hh:=h.rt.hi;refine Ev1.step (fun k=>FA k s r _ rfl _ rfl) ?_;unfold B4;refine Ev1.iff (fun c=>by rw [MK c];exact Ev1.now _) (fun c=>?_);rw [MG c];exact Ev1.bind (pw s.1 hh) (Ev1.posD (by simp only [MC,ML];omega) (Ev1.bind (tK s (s.1++[(r.2.2.1,0,0)],none) _) (Ev1.now _)))
theorem Lp {s:ab} (h:Op s s)(r:ae):Ev1 (fun k=>CF k xg og [Dm s,inj aq r]) (sw (depF s r)):=by
 refine Ev1.step (fun k=>xJ k s r) (Ev1.bind (Bz s [r.2.2.1] (by simp)) ?_);rw [cli1];unfold depF;by_cases c:cli s r.2.2.1
 ·rw [MJ c,MK c];exact Ev1.neg rfl (Ev1.pos (ak (by omega) c.2) (Ev1.bind (l8 0 (acAt s.1 r.2.2.1).1) (Ev1.bind (Bw h _ _ _) (Ev1.now _))))
 ·rw [MD c,MG c];exact Ev1.pos rfl (Ev1.now _)
theorem L5 {s:ab} (h:Op s s)(r:ae):Ev1 (fun k=>CF k u0 mb [Dm s,inj aq r]) (sw (trF s r)):=by
 refine Ev1.step (fun k=>ve k s r) (Ev1.bind (Bz s [r.2.2.1,r.2.2.2.1] (by simp)) ?_);rw [cli2];unfold trF;by_cases c:cli s r.2.2.1/\cli s r.2.2.2.1
 ·rw [MJ c,MK c];exact Ev1.neg rfl (Ev1.bind (Bw h _ _ _) (Ev1.now _))
 ·rw [MD c,MG c];exact Ev1.pos rfl (Ev1.now _)
theorem Kn {s:ab} (h:Op s s)(r:ae):Ev1 (fun k=>CF k Fg wz [Dm s,inj aq r]) (sw (C7 s r)):=by
 refine Ev1.step (fun k=>FD k s r) (Ev1.bind (Bz s [r.2.2.1,r.2.2.2.1] (by simp)) ?_);rw [cli2];unfold C7;by_cases c:cli s r.2.2.1/\cli s r.2.2.2.1
 ·rw [MJ c,MK c];refine Ev1.neg rfl ?_;refine Ev1.iff (fun q=>by rw [MK (.inl q)];exact Ev1.now _) (fun q1=>?_);refine Ev1.iff (fun q=>by rw [MK (.inr q)];exact Ev1.now _) (fun q2=>?_);rw [MG (fun q=>q.elim q1 q2)];refine Ev1.iff (fun q=>by rw [MK q];exact Ev1.now _) (fun q3=>?_);rw [MG q3];have h2:Ev2 (fun k m=>qF k m s.1 s.2.1 s.2.2.1 s.2.2.2.1 s.2.2.2.2 r.1 r.2.1 r.2.2.1 r.2.2.2.1 r.2.2.2.2.1 r.2.2.2.2.2.1 r.2.2.2.2.2.2 0 0)
   (sw (match (jK s.1 r.2.2.1 r.2.2.2.2.1).2 with
    | some c=>(s,(c,0))
    | none=>(((jK s.1 r.2.2.1 r.2.2.2.2.1).1,s.2.1++[(r.2.2.1,r.2.2.2.1,r.2.2.2.2.1,0,0,0,r.2.2.2.2.2.2,0)],s.2.2),(0,(s.2.1.length:Int))))):=by
   refine Ev2.step (fun k m=>zb k m s.1 s.2.1 s.2.2.1 s.2.2.2.1 s.2.2.2.2 r.1 r.2.1 r.2.2.1 r.2.2.2.1 r.2.2.2.2.1 r.2.2.2.2.2.1 r.2.2.2.2.2.2 0 0 _ rfl) (Ev2.bind (ET s.1 h.rt _ _) (Ev2.bind (tK s (jK s.1 _ _) _) ?_));unfold vR;cases hh:(jK s.1 r.2.2.1 r.2.2.2.2.1).2 with
   | some c=>exact Ev2.neg rfl (Ev2.now _)
   | none =>
    have hp:=h.pl;exact Ev2.pos rfl (Ev2.posD (by show s.2.1.length * 64<=211106232532992;omega) (Ev2.posD (by show (s.2.1.length+1) * 64<=211106232532992;omega) (Ev2.now _)))
  exact h2.diag
 ·rw [MD c,MG c];exact Ev1.pos rfl (Ev1.now _)
def opFn (op:Int):Option Nat:=if op=4 then some 181 else if op=6 then some 182 else if op=7 then some 183 else some 184
theorem G4 {op:Int} (hop:op=4\/op=5\/op=6\/op=7)(p:ag)(n:Int) :
  Ev1 (fun k=>CF k xd jW [inj I op]) (opFn op)/\Ev1 (fun k=>CF k iI ((opFn op).getD 0) [inj aj p,inj I n]) (fi op p n)/\(opFn op).isSome=true:=by
 rcases hop with rfl | rfl | rfl | rfl
 ·exact ⟨Ev1.step (fun k=>ia k 4) (Ev1.const rfl),JA p n,rfl⟩
 ·exact ⟨Ev1.step (fun k=>ia k 5) (Ev1.const rfl),G2 p n,rfl⟩
 ·exact ⟨Ev1.step (fun k=>ia k 6) (Ev1.const rfl),Jx p n,rfl⟩
 ·exact ⟨Ev1.step (fun k=>ia k 7) (Ev1.const rfl),Jz p n,rfl⟩
theorem KV {op:Int} (hop:op=4\/op=5\/op=6\/op=7)(p:ag)(n:Int):Ev1 (fun k=>CF k g_pD n_pD [inj aj p,inj I op,inj I n]) (l5 op p n):=by
 obtain ⟨hb,hp,hs⟩:=G4 hop p n;refine Ev1.step (fun k=>f_pD k p op n _ rfl _ rfl) (Ev1.bind hb (Ev1.neg (by rw [hs];rfl) ?_));have h2:Ev1 (fun k=>h_pD k k n (opFn op) p.1 p.2.1 p.2.2.1 p.2.2.2.1 p.2.2.2.2.1 p.2.2.2.2.2.1 p.2.2.2.2.2.2.1 p.2.2.2.2.2.2.2 0 0 0 0 0 0 0 0) (if (fi op p n).2=true then ((fi op p n).1,none) else (zP,some 6)):=by
  have h3:Ev2 (fun k m=>h_pD k m n (opFn op) p.1 p.2.1 p.2.2.1 p.2.2.2.1 p.2.2.2.2.1 p.2.2.2.2.2.1 p.2.2.2.2.2.2.1 p.2.2.2.2.2.2.2 0 0 0 0 0 0 0 0) (if (fi op p n).2=true then ((fi op p n).1,none) else (zP,some 6)):=by
   refine Ev2.step (fun k m=>Lc k m n (opFn op) p.1 p.2.1 p.2.2.1 p.2.2.2.1 p.2.2.2.2.1 p.2.2.2.2.2.1 p.2.2.2.2.2.2.1 p.2.2.2.2.2.2.2 0 0 0 0 0 0 0 0) (Ev2.pos hs (Ev2.bind hp ?_));generalize fi op p n=w;obtain ⟨q,b⟩:=w;cases b with
   | true=>exact Ev2.neg rfl (Ev2.now _)
   | false=>exact Ev2.pos rfl (Ev2.now _)
  exact h3.diag
 unfold l5;by_cases c5:op=5
 ·rw [MG (fun q=>q.1 c5)];exact Ev1.neg (by rw [MJ c5];rfl) h2
 ·refine Ev1.pos (by rw [MD c5];rfl) (Ev1.iff (fun q=>by rw [MK ⟨c5,q⟩];exact Ev1.now _) (fun q=>?_));rw [MG (fun w=>q w.2)];exact h2
abbrev bo (s:ab)(w:ag × ag × Option Int):ag × ag × Option Int × ab:=(w.1,w.2.1,w.2.2,s)
theorem vG (s:ab) {op:Int} (hop:op=4\/op=5\/op=6\/op=7)(r:ae)(hr:r.2.1=op):Ev1 (fun k=>CF k Fe iB [Dm s,inj aq r]) (bo s (b9 s op r)):=by
 refine Ev1.step (fun k=>FB k s r) ?_;unfold b9;refine Ev1.iff (fun q=>by rw [MK (.inl q)];exact Ev1.now _) (fun q1=>?_);refine Ev1.iff (fun q=>by rw [MK (.inr q)];exact Ev1.now _) (fun q2=>?_);rw [MG (fun q=>q.elim q1 q2)];have h2:Ev2 (fun k m=>qE k m s.1 s.2.1 s.2.2.1 s.2.2.2.1 s.2.2.2.2 r.1 r.2.1 r.2.2.1 r.2.2.2.1 r.2.2.2.2.1 r.2.2.2.2.2.1 r.2.2.2.2.2.2 0 0 0 0 0 0 0 0 0 0 0 0 0 0 0 0)
  (bo s (pAt s r.2.2.1,(l5 op (pAt s r.2.2.1) r.2.2.2.2.1).1,(l5 op (pAt s r.2.2.1) r.2.2.2.2.1).2)):=by
  refine Ev2.step (fun k m=>za k m s.1 s.2.1 s.2.2.1 s.2.2.2.1 s.2.2.2.2 r.1 r.2.1 r.2.2.1 r.2.2.2.1 r.2.2.2.2.1 r.2.2.2.2.2.1 r.2.2.2.2.2.2 0 0 0 0 0 0 0 0 0 0 0 0 0 0 0 0 _ rfl) (Ev2.pos (ak (by omega) (by omega)) ?_);rw [hr];exact Ev2.bind (KV hop (pAt s r.2.2.1) _) (Ev2.now _)
 exact h2.diag
theorem AN {s:ab} (h:Op s s) {i:Int} (hi:0<=i/\i < (s.2.1.length:Int))(q:ag)(w:List Acc × Option Int):Ev1 (fun k=>CF k HB kG [Dm s,inj I i,inj aj q,inj KA w.1,inj .err w.2]) (sw (payF s i q w)):=by
 have hp:=h.pl;refine Ev1.step (fun k=>HO k s i q w.1 w.2) (Ev1.bind (tK s w 0) ?_);unfold payF vR;obtain ⟨a,e⟩:=w;cases e with
 | some c=>exact Ev1.neg rfl (Ev1.now _)
 | none=>exact Ev1.pos rfl (Ev1.posD (by dsimp only;omega) (Ev1.pos (ak hi.1 hi.2) (Ev1.now _)))
theorem vF {s:ab} {op:Int} {r:ae} (h:(b9 s op r).2.2=none):0<=r.2.2.1/\r.2.2.1 < (s.2.1.length:Int):=by
 unfold b9 at h;split at h
 ·cases h
 ·omega
theorem Lz {s:ab} (h:Op s s)(r:ae)(hr:r.2.1=4):Ev1 (fun k=>CF k xi oh [Dm s,inj aq r]) (sw (capF s r)):=by
 refine Ev1.step (fun k=>xL k s r) (Ev1.bind (vG s (.inl rfl) r hr) ?_);have hb:=vF (s:=s) (op:=4) (r:=r);unfold capF;generalize b9 s 4 r=w at hb;obtain ⟨p,q,e⟩:=w;cases e with
 | some c=>exact Ev1.pos rfl (Ev1.bind (fu _) (Ev1.now _))
 | none =>
  refine Ev1.neg rfl (Ev1.bind (qf s.1 h.rt.curs p.1 p.2.1 r.2.2.2.2.1) ?_);have hl:=kI s.1 p.1 p.2.1 r.2.2.2.2.1;dsimp only;generalize ff s.1 p.1 p.2.1 r.2.2.2.2.1=m at hl;obtain ⟨es,g⟩:=m;cases g with
  | some c=>exact Ev1.pos rfl (Ev1.bind (fu _) (Ev1.now _))
  | none=>exact Ev1.neg rfl (Ev1.bind (Ap s.1 h.rt _ _ (by dsimp only at hl ⊢;omega)) (Ev1.bind (AN h (hb rfl) q (jA s.1 _ _)) (Ev1.now _)))
theorem I6 {s:ab} (h:Op s s)(r:ae)(hr:r.2.1=5):Ev1 (fun k=>CF k E9 wx [Dm s,inj aq r]) (sw (BN s r)):=by
 refine Ev1.step (fun k=>Fx k s r) (Ev1.bind (vG s (.inr (.inl rfl)) r hr) ?_);have hb:=vF (s:=s) (op:=5) (r:=r);unfold BN;generalize b9 s 5 r=w at hb;obtain ⟨p,q,e⟩:=w;cases e with
 | some c=>exact Ev1.pos rfl (Ev1.bind (fu _) (Ev1.now _))
 | none=>exact Ev1.neg rfl (Ev1.bind (EG p) (Ev1.bind (DZ s.1 h.rt _ _) (Ev1.bind (AN h (hb rfl) q (relF s.1 _ _)) (Ev1.now _))))
theorem By {s:ab} (h:Op s s)(p:ag)(n:Int):Ev1 (fun k=>CF k Ff me [Dm s,inj aj p,inj I n]) ((oT s p n).1,(oT s p n).2,s):=by
 have hl:=kI s.1 p.1 p.2.1 n;exact Ev1.step (fun k=>FC k s p n) (Ev1.bind (qf s.1 h.rt.curs p.1 p.2.1 n) (Ev1.bind (Kl _ (by omega)) (Ev1.now _)))
theorem KQ {s:ab} (h:Op s s)(r:ae)(hr:r.2.1=6):Ev1 (fun k=>CF k zg pY [Dm s,inj aq r]) (sw (refF s r)):=by
 refine Ev1.step (fun k=>zt k s r) (Ev1.bind (vG s (.inr (.inr (.inl rfl))) r hr) ?_);have hb:=vF (s:=s) (op:=6) (r:=r);unfold refF;generalize b9 s 6 r=w at hb;obtain ⟨p,q,e⟩:=w;cases e with
 | some c=>exact Ev1.pos rfl (Ev1.bind (fu _) (Ev1.now _))
 | none =>
  refine Ev1.neg rfl (Ev1.bind (By h p _) ?_);have hl:=kI s.1 p.1 p.2.1 r.2.2.2.2.1;have hl2:(oT s p r.2.2.2.2.1).1.length<=4:=by show (back _).length<=4;rw [mZ];exact hl
  dsimp only;generalize oT s p r.2.2.2.2.1=m at hl2;obtain ⟨es,g⟩:=m;cases g with
  | some c=>exact Ev1.pos rfl (Ev1.bind (fu _) (Ev1.now _))
  | none=>exact Ev1.neg rfl (Ev1.bind (tY s.1 h.rt _ (by dsimp only at hl2 ⊢;omega)) (Ev1.bind (AN h (hb rfl) q (jJ s.1 _)) (Ev1.now _)))
theorem Lx {s:ab} (h:Op s s)(r:ae)(hr:r.2.1=7):Ev1 (fun k=>CF k zh pZ [Dm s,inj aq r]) (sw (chgF s r)):=by
 refine Ev1.step (fun k=>zu k s r) (Ev1.bind (vG s (.inr (.inr (.inr rfl))) r hr) ?_);have hb:=vF (s:=s) (op:=7) (r:=r);have hq:=(rC h 7 r).2;unfold chgF;generalize b9 s 7 r=w at hb hq;obtain ⟨p,q,e⟩:=w;cases e with
 | some c=>exact Ev1.pos rfl (Ev1.bind (fu _) (Ev1.now _))
 | none =>
  refine Ev1.neg rfl (Ev1.bind (By h p _) ?_);have hto:=(hq rfl).1.to_;have hl:=kI s.1 p.1 p.2.1 r.2.2.2.2.1;have hl2:(oT s p r.2.2.2.2.1).1.length<=4:=by show (back _).length<=4;rw [mZ];exact hl
  have hl3:(oT s p r.2.2.2.2.1).2=none->1<=(oT s p r.2.2.2.2.1).1.length:=fun hn=>by show 1<=(back _).length;rw [mZ];exact JN hn
  dsimp only;dsimp only at hto;generalize oT s p r.2.2.2.2.1=m at hl2 hl3;obtain ⟨es,g⟩:=m;cases g with
  | some c=>exact Ev1.pos rfl (Ev1.bind (fu _) (Ev1.now _))
  | none =>
   have hl4:=hl3 rfl;dsimp only at hl2 hl4;have hz:∀ es2:List En,es2.length<=5->Ev1 (fun k=>ga k k s.1 s.2.1 s.2.2.1 s.2.2.2.1 s.2.2.2.2 r.1 r.2.1 r.2.2.1 r.2.2.2.1 r.2.2.2.2.1 r.2.2.2.2.2.1 r.2.2.2.2.2.2 0 0 q.1 q.2.1 q.2.2.1 q.2.2.2.1 q.2.2.2.2.1 q.2.2.2.2.2.1 q.2.2.2.2.2.2.1 q.2.2.2.2.2.2.2 es2) (sw (payF s r.2.2.1 q (jJ s.1 es2))):=by
    intro es2 h5;have h6:Ev2 (fun k m=>ga k m s.1 s.2.1 s.2.2.1 s.2.2.2.1 s.2.2.2.2 r.1 r.2.1 r.2.2.1 r.2.2.2.1 r.2.2.2.2.1 r.2.2.2.2.2.1 r.2.2.2.2.2.2 0 0 q.1 q.2.1 q.2.2.1 q.2.2.2.1 q.2.2.2.2.1 q.2.2.2.2.2.1 q.2.2.2.2.2.2.1 q.2.2.2.2.2.2.2 es2) (sw (payF s r.2.2.1 q (jJ s.1 es2))) :=
     Ev2.step (fun k m=>uS k m s.1 s.2.1 s.2.2.1 s.2.2.2.1 s.2.2.2.2 r.1 r.2.1 r.2.2.1 r.2.2.2.1 r.2.2.2.2.1 r.2.2.2.2.2.1 r.2.2.2.2.2.2 0 0 q.1 q.2.1 q.2.2.1 q.2.2.2.1 q.2.2.2.2.1 q.2.2.2.2.2.1 q.2.2.2.2.2.2.1 q.2.2.2.2.2.2.2 es2) (Ev2.bind (tY s.1 h.rt es2 (by omega)) (Ev2.bind (AN h (hb rfl) q (jJ s.1 es2)) (Ev2.now _)))
    exact h6.diag
   refine Ev1.neg rfl (Ev1.pos (ak (by omega) hto.2) (Ev1.pos (ak (by omega) (by dsimp only;omega)) (Ev1.bind (Ev1.step (fun k=>ku k (acAt s.1 p.2.1)) (Ev1.now _)) ?_)));unfold chgE;refine Ev1.iff (fun c=>?_) (fun c=>?_)
   ·rw [MK c];refine Ev1.pos (ak (by omega) (by dsimp only;omega)) (Ev1.pos (ak (by omega) (by dsimp only;omega)) (Ev1.bind (l8 2 (acAt s.1 p.2.1).1) (Ev1.posD (by simp only [MB,MC,ML];omega) ?_)));exact hz _ (by rw [My,MB];simp only [MC,ML];omega)
   ·rw [MG c];exact hz es (by omega)
theorem IC {s:ab} (h:Op s s)(r:ae):Ev1 (fun k=>CF k HA pb [inj aB s,inj aq r]) (opsF s r):=by
 refine Ev1.step (fun k=>HN k s r) ?_;unfold opsF;have by_:∀ (op:Int) (o:Option Nat),r.2.1=op->(Ev1 (fun k=>CF k uY ma [inj I op]) o)->Ev1 (fun k=>CF k uY ma [inj I r.2.1]) o:=fun op o e q=>by rw [e];exact q
 by_cases h0:r.2.1=0
 ·rw [MK h0];exact Ev1.bind (by_ 0 (some 124) h0 (Ev1.step (fun k=>fC k 0) (Ev1.const rfl))) (Ev1.neg rfl (Ev1.pos rfl (Ev1.bind (JE h r) (Ev1.now _))))
 rw [MG h0];by_cases h1:r.2.1=1
 ·rw [MK h1];exact Ev1.bind (by_ 1 (some 125) h1 (Ev1.step (fun k=>fC k 1) (Ev1.const rfl))) (Ev1.neg rfl (Ev1.pos rfl (Ev1.bind (Lp h r) (Ev1.now _))))
 rw [MG h1];by_cases h2:r.2.1=2
 ·rw [MK h2];exact Ev1.bind (by_ 2 (some 126) h2 (Ev1.step (fun k=>fC k 2) (Ev1.const rfl))) (Ev1.neg rfl (Ev1.pos rfl (Ev1.bind (L5 h r) (Ev1.now _))))
 rw [MG h2];by_cases h3:r.2.1=3
 ·rw [MK h3];exact Ev1.bind (by_ 3 (some 127) h3 (Ev1.step (fun k=>fC k 3) (Ev1.const rfl))) (Ev1.neg rfl (Ev1.pos rfl (Ev1.bind (Kn h r) (Ev1.now _))))
 rw [MG h3];by_cases h4:r.2.1=4
 ·rw [MK h4];exact Ev1.bind (by_ 4 (some 128) h4 (Ev1.step (fun k=>fC k 4) (Ev1.const rfl))) (Ev1.neg rfl (Ev1.pos rfl (Ev1.bind (Lz h r h4) (Ev1.now _))))
 rw [MG h4];by_cases h5:r.2.1=5
 ·rw [MK h5];exact Ev1.bind (by_ 5 (some 129) h5 (Ev1.step (fun k=>fC k 5) (Ev1.const rfl))) (Ev1.neg rfl (Ev1.pos rfl (Ev1.bind (I6 h r h5) (Ev1.now _))))
 rw [MG h5];by_cases h6:r.2.1=6
 ·rw [MK h6];exact Ev1.bind (by_ 6 (some 130) h6 (Ev1.step (fun k=>fC k 6) (Ev1.const rfl))) (Ev1.neg rfl (Ev1.pos rfl (Ev1.bind (KQ h r h6) (Ev1.now _))))
 rw [MG h6];by_cases h7:r.2.1=7
 ·rw [MK h7];exact Ev1.bind (by_ 7 (some 131) h7 (Ev1.step (fun k=>fC k 7) (Ev1.const rfl))) (Ev1.neg rfl (Ev1.pos rfl (Ev1.bind (Lx h r h7) (Ev1.now _))))
 rw [MG h7];have hn:Ev1 (fun k=>CF k uY ma [inj I r.2.1]) none:=by
  refine Ev1.step (fun k=>fC k r.2.1) ?_;refine Ev1.iff (fun _=>Ev1.now _) (fun q1=>?_);exact Ev1.posD (by omega) (Ev1.now _)
 exact Ev1.bind hn (Ev1.pos rfl (Ev1.now _))
theorem KM {s:ab} (h:Op s s)(r:ae):Ev1 (fun k=>CF k uZ iW [inj aB s,inj aq r]) (resF s r):=by
 refine Ev1.step (fun k=>vd k s r) (Ev1.bind (Bz s [r.2.2.1,r.2.2.2.1] (by simp)) ?_);rw [cli2];unfold resF;by_cases c:cli s r.2.2.1/\cli s r.2.2.2.1
 ·rw [MJ c,MK c];refine Ev1.neg rfl (Ev1.bind (qf s.1 h.rt.curs _ _ _) ?_);generalize ff s.1 r.2.2.1 r.2.2.2.1 r.2.2.2.2.1=m;obtain ⟨es,g⟩:=m;cases g with
  | some c=>exact Ev1.pos rfl (Ev1.now _)
  | none =>
   refine Ev1.neg rfl (Ev1.bind (ET s.1 h.rt _ _) ?_);unfold py;dsimp only;generalize jK s.1 r.2.2.1 r.2.2.2.2.1=w;obtain ⟨a,e⟩:=w;cases e with
   | some c=>exact Ev1.pos rfl (Ev1.now _)
   | none=>exact Ev1.neg rfl (Ev1.now _)
 ·rw [MD c,MG c];exact Ev1.pos rfl (Ev1.now _)
theorem Ji {s:ab} (h:Op s s)(r:ae):Ev1 (fun k=>CF k xf jX [inj aB s,inj aq r]) (oK s r):=by
 refine Ev1.step (fun k=>xI k s r) (Ev1.bind (qf s.1 h.rt.curs _ _ _) ?_);have hl:=kI s.1 r.2.2.1 r.2.2.2.1 r.2.2.2.2.1;unfold oK;generalize ff s.1 r.2.2.1 r.2.2.2.1 r.2.2.2.2.1=m at hl;obtain ⟨es,g⟩:=m;cases g with
 | some c=>exact Ev1.pos rfl (Ev1.now _)
 | none =>
  refine Ev1.neg rfl (Ev1.bind (Ap s.1 h.rt _ _ (by dsimp only at hl ⊢;omega)) ?_);unfold py;dsimp only;generalize jA s.1 r.2.2.2.2.1 es=w;obtain ⟨a,e⟩:=w;cases e with
  | some c=>exact Ev1.pos rfl (Ev1.now _)
  | none=>exact Ev1.neg rfl (Ev1.now _)
theorem I8 {s:ab} (h:Op s s)(r:ae):Ev1 (fun k=>CF k CD np [inj aB s,inj aq r]) (Dr s r):=by
 refine Ev1.step (fun k=>CK k s r) (Ev1.bind (DZ s.1 h.rt _ _) ?_);unfold Dr py;generalize relF s.1 r.2.2.1 r.2.2.2.2.1=w;obtain ⟨a,e⟩:=w;cases e with
 | some c=>exact Ev1.pos rfl (Ev1.now _)
 | none=>exact Ev1.neg rfl (Ev1.now _)
theorem Im (l : List Int) (hl : l.length ≤ 1000) : ∀ (d i : Nat) (s : ab), Op s s → i + d = l.length → Ev2 (fun k m => kO k m l (l.length : Int) (i : Int) s.1 s.2.1 s.2.2.1 s.2.2.2.1 s.2.2.2.2 0) (Dp (l.drop i) s)
  | 0, i, s, h, hi => by
    refine Ev2.step (fun k m => ou k m l (l.length : Int) (i : Int) s.1 s.2.1 s.2.2.1 s.2.2.2.1 s.2.2.2.2 0 _ rfl) (Ev2.negD (by omega) ?_)
    rw [No (by omega)]
    exact Ev2.now _
  | d + 1, i, s, h, hi => by
    have hlt : i < l.length := by omega
    have he : l.getD (Int.toNat (i : Int)) 0 = l[i] := by rw [MV]; exact bj l i _ hlt
    refine Ev2.step (fun k m => ou k m l (l.length : Int) (i : Int) s.1 s.2.1 s.2.2.1 s.2.2.2.1 s.2.2.2.2 0 _ rfl) (Ev2.posD (by omega) (Ev2.pos (ak (by omega) (by omega)) ?_))
    rw [he, Nd hlt]
    refine Ev2.bind (IC h (0, 5, l[i], 0, 0, 0, 0)) ?_
    rw [wnat (by omega)]
    have ho := (AP h (0, 5, l[i], 0, 0, 0, 0) (fun e => by simp at e) (fun e => by simp at e)).1
    exact Im l hl d (i + 1) (opsF s (0, 5, l[i], 0, 0, 0, 0)).1 ho.self (by omega)
theorem Jc {s : ab} (h : Op s s) : Ev1 (fun k => CF k CE nr [inj aB s]) (vQ s) := by
  have hp := h.pl
  refine Ev1.step (fun k => CL k s _ rfl) ?_
  unfold vQ
  refine Ev1.iff (fun c => by rw [MK c]; exact Ev1.now _) (fun c => ?_)
  rw [MG c]
  refine Ev1.bind (Mq s.2.1 _ (by omega)) ?_
  have hlen : (rk s.2.1 (w64 (s.2.2.2.2 + 1))).length ≤ 1000 := by
    unfold rk
    refine Nc (List.takeWhile_sublist _).length_le (Nc (tk _) (by omega))
  have := (Im (rk s.2.1 (w64 (s.2.2.2.2 + 1))) hlen (rk s.2.1 (w64 (s.2.2.2.2 + 1))).length 0 (s.1, s.2.1, s.2.2.1, s.2.2.2.1, w64 (s.2.2.2.2 + 1)) ⟨rfl, h.rt, h.pl, h.ps, MH _⟩ (by omega)).diag
  exact this
end Go.Eng.Top
namespace Go.Eng.Top
open Go.RowKit Go.Eng Go.Eng.LVar Go.Eng.LChart Go.Eng.LEnt
set_option maxRecDepth 100000
theorem KB {s:ab} (h:Inv s)(e:aD):Ev1 (fun k=>CF k zn lE [Dm s,inj aI e]) (sw (subF s e.2.1)):=by
 have hkl:=h.kl;have hgl:=h.gl;refine Ev1.step (fun k=>zI k s e _ rfl _ rfl) (Ev1.bind (ID e.2.1) ?_);unfold subF;cases hm:mayB e.2.1 with
 | false=>rw [MK rfl];exact Ev1.pos rfl (Ev1.now _)
 | true =>
  rw [MG (by simp)];refine Ev1.neg rfl (Ev1.bind (LH s.2.2.2.1 e.2.1 (by omega)) ?_);cases ha:(askF s.2.2.2.1 e.2.1).2 with
  | true=>rw [MK rfl];exact Ev1.pos rfl (Ev1.now _)
  | false =>
   rw [MG (by simp)];refine Ev1.neg rfl (Ev1.bind (ED e.2.1) ?_);have hput:=KR s.2.2.2.1 e.2.1 (by omega);have hpl:(putF s.2.2.2.1 e.2.1).1.length<=256:=by
    unfold putF;split
    ·exact Pb _
    ·split
     ·exact Pb _
     ·simp only [My,MC,ML];omega
   have hz:Ev1 (fun k=>gf k k s.1 s.2.1 s.2.2.1 s.2.2.2.1 s.2.2.2.2 0 0 e.2.1.1 e.2.1.2.1 e.2.1.2.2.1 e.2.1.2.2.2.1 e.2.1.2.2.2.2.1 e.2.1.2.2.2.2.2.1 e.2.1.2.2.2.2.2.2)
    (sw (match (putF s.2.2.2.1 e.2.1).2 with
  | some c=>(s,(c,0))
  | none =>
   if long e.2.1 then (match (resF s e.2.1).2 with
    | some c=>((s.1,s.2.1,s.2.2.1,(pB (putF s.2.2.2.1 e.2.1).1 e.2.1.1 (c,0)).1,s.2.2.2.2),(c,0))
    | none=>(((resF s e.2.1).1.1,(resF s e.2.1).1.2.1,(resF s e.2.1).1.2.2.1++[(e.2.1,0,0,0,0)],(putF s.2.2.2.1 e.2.1).1,(resF s e.2.1).1.2.2.2.2),(10,0)))
   else (((opsF s e.2.1).1.1,(opsF s e.2.1).1.2.1,(opsF s e.2.1).1.2.2.1,(pB (putF s.2.2.2.1 e.2.1).1 e.2.1.1 (opsF s e.2.1).2).1,(opsF s e.2.1).1.2.2.2.2),(opsF s e.2.1).2))):=by
    refine Ev2.diag (f:=fun k m=>gf k m s.1 s.2.1 s.2.2.1 s.2.2.2.1 s.2.2.2.2 0 0 e.2.1.1 e.2.1.2.1 e.2.1.2.2.1 e.2.1.2.2.2.1 e.2.1.2.2.2.2.1 e.2.1.2.2.2.2.2.1 e.2.1.2.2.2.2.2.2) ?_;refine Ev2.step (fun k m=>uU k m s.1 s.2.1 s.2.2.1 s.2.2.2.1 s.2.2.2.2 0 0 e.2.1.1 e.2.1.2.1 e.2.1.2.2.1 e.2.1.2.2.2.1 e.2.1.2.2.2.2.1 e.2.1.2.2.2.2.2.1 e.2.1.2.2.2.2.2.2 _ rfl _ rfl) (Ev2.bind hput ?_);generalize putF s.2.2.2.1 e.2.1=P at hpl;obtain ⟨ks,g⟩:=P;dsimp only at hpl;cases g with
    | some c=>exact Ev2.pos rfl (Ev2.bind (wq _) (Ev2.now _))
    | none =>
     refine Ev2.neg rfl (Ev2.bind (ED e.2.1) ?_);dsimp only;by_cases hlo:long e.2.1
     ·rw [MJ hlo,MK hlo];refine Ev2.neg rfl (Ev2.bind (KM h.op e.2.1) ?_);have hrest:(resF s e.2.1).1.2.2.1=s.2.2.1:=by rw [(DU h.op e.2.1).1.rest]
      generalize resF s e.2.1=R at hrest;obtain ⟨t,g2⟩:=R;dsimp only at hrest;cases g2 with
      | some c=>exact Ev2.pos rfl (Ev2.bind (wq _) (Ev2.bind (yy ks _ _ (by omega)) (Ev2.now _)))
      | none=>exact Ev2.neg rfl (Ev2.posD (by dsimp only;rw [hrest];omega) (Ev2.bind (H9 e.2.1) (Ev2.posD (by dsimp only;rw [hrest];simp only [MC,ML];omega) (Ev2.now _))))
     ·rw [MD hlo,MG hlo];exact Ev2.pos rfl (Ev2.bind (IC h.op e.2.1) (Ev2.bind (yy ks _ _ (by omega)) (Ev2.now _)))
   by_cases hlo:long e.2.1
   ·rw [MJ hlo];refine Ev1.pos rfl ?_;refine Ev1.iff (fun c=>by rw [MK ⟨hlo,c⟩];exact Ev1.now _) (fun c=>?_);rw [MG (fun q=>c q.2)];exact hz
   ·rw [MD hlo,MG (fun q=>hlo q.1)];exact Ev1.neg rfl hz
theorem Lm (s:ab)(hg:s.2.2.1.length<=16)(hk:s.2.2.2.1.length<=256)(i:Nat)(hi:i < s.2.2.1.length)(o:ai):Ev1 (fun k=>CF k Bo mh [Dm s,inj I (i:Int),inj aN o]) (sw (endF s i o)):=by
 have ht:=yy s.2.2.2.1 (s.2.2.1.getD i zG).1.1 o (by omega);have e1:Int.toNat (w64 ((i:Int)+1))=i+1:=by rw [wnat (by omega),MV]
 have e2:w64 ((i:Int)+1)=((i+1:Nat):Int):=wnat (by omega);have hl1:(s.2.2.1.take i).length<=16:=by rw [NC];omega
 have hl2:(s.2.2.1.drop (i+1)).length<=16:=by rw [NW];omega
 refine Ev1.step (fun k=>HS k s (i:Int) o _ rfl _ rfl _ rfl _ rfl) ?_;rw [e1,e2,MV];refine Ev1.pos (ak (by omega) (by omega)) (Ev1.pos (by rw [MJ (show (0:Int)<=(i:Int) by omega),MJ (show (i:Int)<=(s.2.2.1.length:Int) by omega)];rfl) (Ev1.posD (by omega) (Ev1.pos (by rw [MJ (show (0:Int)<=((i+1:Nat):Int) by omega),MJ (show ((i+1:Nat):Int)<=(s.2.2.1.length:Int) by omega)];rfl) (Ev1.posD (by omega) (Ev1.bind ht (Ev1.now _))))))
theorem Hw {s:ab} (h:Inv s)(e:aD):Ev1 (fun k=>CF k Fk qb [Dm s,inj aI e]) (sw (tM s e.2.2.1 e.2.2.2)):=by
 have hgl:=h.gl;have hkl:=h.kl;refine Ev1.step (fun k=>FJ k s e) (Ev1.bind (Mj s e.2.2.1 (by omega)) ?_);unfold tM;cases hf:fndG e.2.2.1 s.2.2.1 with
 | none=>exact Ev1.posD (by show (-1:Int) < 0;omega) (Ev1.now _)
 | some i =>
  have hi:=qU hf;have hget:s.2.2.1.getD (Int.toNat (num (some i))) zG=s.2.2.1.getD i zG:=by show s.2.2.1.getD (Int.toNat (i:Int)) zG=_;rw [MV]
  refine Ev1.negD (by show ¬ ((i:Int) < 0);omega) (Ev1.pos (ak (by show (0:Int)<=(i:Int);omega) (by show (i:Int) < _;omega)) ?_);dsimp only;unfold zG at hget ⊢;rw [hget];generalize s.2.2.1.getD i ((0,0,0,0,0,0,0),0,0,0,0)=g;have hset:∀ g2:bk,Ev1 (fun k=>kh k k (num (some i)) s.1 s.2.1 s.2.2.1 s.2.2.2.1 s.2.2.2.2 0 0 g2.1.1 g2.1.2.1 g2.1.2.2.1 g2.1.2.2.2.1 g2.1.2.2.2.2.1 g2.1.2.2.2.2.2.1 g2.1.2.2.2.2.2.2 g2.2.1 g2.2.2.1 g2.2.2.2.1 g2.2.2.2.2) (sw (putG s i g2)):=by
   intro g2;have h2:Ev2 (fun k m=>kh k m (num (some i)) s.1 s.2.1 s.2.2.1 s.2.2.2.1 s.2.2.2.2 0 0 g2.1.1 g2.1.2.1 g2.1.2.2.1 g2.1.2.2.2.1 g2.1.2.2.2.2.1 g2.1.2.2.2.2.2.1 g2.1.2.2.2.2.2.2 g2.2.1 g2.2.2.1 g2.2.2.2.1 g2.2.2.2.2) (sw (putG s i g2)):=by
    refine Ev2.step (fun k m=>zc k m (num (some i)) s.1 s.2.1 s.2.2.1 s.2.2.2.1 s.2.2.2.2 0 0 g2.1.1 g2.1.2.1 g2.1.2.2.1 g2.1.2.2.2.1 g2.1.2.2.2.2.1 g2.1.2.2.2.2.2.1 g2.1.2.2.2.2.2.2 g2.2.1 g2.2.2.1 g2.2.2.2.1 g2.2.2.2.2) (Ev2.posD (by omega) (Ev2.pos (ak (by show (0:Int)<=(i:Int);omega) (by show (i:Int) < _;omega)) (Ev2.const ?_)));have:Int.toNat (num (some i))=i:=by show Int.toNat (i:Int)=i;rw [MV]
    rw [this];rfl
   exact h2.diag
  have hend:∀ (t:ab) (ht:Op s t) (o:ai),Ev1 (fun k=>CF k Bo mh [Dm t,inj I (num (some i)),inj aN o]) (sw (endF t i o)):=by
   intro t ht o;have e1:t.2.2.1=s.2.2.1:=by rw [ht.rest]
   have e2:t.2.2.2.1=s.2.2.2.1:=by rw [ht.rest]
   exact Lm t (by rw [e1];omega) (by rw [e2];omega) i (by rw [e1];exact hi) o
  refine Ev1.iff (fun c=>?_) (fun c=>?_)
  ·rw [MK c];exact Ev1.bind (I8 h.op g.1) (Ev1.bind (hend _ (tJ h.op g.1).1 _) (Ev1.now _))
  ·rw [MG c];refine Ev1.bind (AI g) (Ev1.iff (fun c2=>?_) (fun c2=>?_))
   ·rw [MK c2];refine Ev1.bind (Ji h.op g.1) ?_;have hs:=pD h.op g.1;generalize oK s g.1=w at hs;obtain ⟨t,e2⟩:=w;cases e2 with
    | none=>exact Ev1.pos rfl (Ev1.bind (hend t hs.1 _) (Ev1.now _))
    | some c3=>exact Ev1.neg rfl (Ev1.bind (wq _) (Ev1.bind (Jb g _) (hset _)))
   ·rw [MG c2];exact Ev1.bind (K7 g e.2.2.2) (hset _)
theorem HY {s:ab} (h:Inv s)(e:aD):Ev1 (fun k=>CF k zm fU [inj aB s,inj aI e]) (doF s e):=by
 refine Ev1.step (fun k=>zH k s e) ?_;unfold doF;refine Ev1.iff (fun c=>by rw [MK c];exact Ev1.bind (KB h e) (Ev1.now _)) (fun c=>?_);rw [MG c];refine Ev1.iff (fun c=>by rw [MK c];exact Ev1.bind (Hw h e) (Ev1.now _)) (fun c=>?_);rw [MG c];refine Ev1.iff (fun c=>by rw [MK c];exact Ev1.bind (Ev1.step (fun k=>FI k s e) (Ev1.bind (Jc h.op) (Ev1.now _))) (Ev1.now _)) (fun c=>?_);rw [MG c];exact Ev1.now _
theorem Df (l : List bk) (hl : l.length ≤ 16) : ∀ (d i : Nat) (out : List Int), i + d = l.length → out.length = i → Ev2 (fun k m => eQ k m l (l.length : Int) (i : Int) out) (out ++ (l.drop i).map fun g => g.1.1)
  | 0, i, out, hi, ho => by
    refine Ev2.step (fun k m => jF k m l (l.length : Int) (i : Int) out _ rfl) (Ev2.negD (by omega) (Ev2.const ?_))
    rw [No (by omega)]; simp
  | d + 1, i, out, hi, ho => by
    have hlt : i < l.length := by omega
    refine Ev2.step (fun k m => jF k m l (l.length : Int) (i : Int) out [(l[i]).1.1] (by rw [gG2 l i hlt])) (Ev2.posD (by omega) (Ev2.pos (ak (by omega) (by omega)) (Ev2.posD (by show (out.length + 1) * 8 ≤ 211106232532992; omega) ?_)))
    rw [wnat (by omega), Nd hlt, MW]
    have := Df l hl d (i + 1) (out ++ [(l[i]).1.1]) (by omega) (by rw [My, ho]; rfl)
    rw [M8] at this
    exact this
def jz (s:ab):List Int:=s.2.2.1.map fun g=>g.1.1
theorem Gx {s : ab} (hl : s.2.2.1.length ≤ 16) : Ev1 (fun k => CF k rU ij [inj aB s]) (jz s) :=
  Ev1.step (fun k => sc k s) (by simpa [jz] using (Df s.2.2.1 hl s.2.2.1.length 0 [] (by omega) rfl).diag)
end Go.Eng.Top
namespace Go.Eng.Top
open Go.RowKit Go.Eng Go.Eng.LVar Go.Eng.LCrc Go.Eng.LFrm
set_option maxRecDepth 100000
theorem nA:∀ (M:MF)(n:Int)(x:Option Nat),aL none (aR M n x) n=x
 | [],n,x=>by simp [aR,aL]
 | e::r,n,x=>by
  unfold aR;by_cases h:e.1=n
  ·rw [MJ h,ME];simp [aL]
  ·rw [MD h,MQ];unfold aL;rw [MD h,MQ];exact nA r n x
def Mof (t:Nat):Option Nat->Option Nat->MF
 | none,none=>[]
 | some g,none=>[(0,some g)]
 | none,some h=>[(((2+t:Nat):Int),some h)]
 | some g,some h=>[(0,some g),(((2+t:Nat):Int),some h)]
theorem qg (t:Nat)(b r:Option Nat):allS (Mof t b r)=true:=by cases b<;>cases r<;>rfl
theorem ne0 (t:Nat):¬ ((0:Int)=((2+t:Nat):Int)):=by omega
theorem ne1 (t:Nat):¬ (((2+t:Nat):Int)=(1:Int)):=by omega
theorem ne2 (t:Nat):¬ (((2+t:Nat):Int)=(0:Int)):=by omega
theorem uF (t:Nat)(b r:Option Nat):aL none (Mof t b r) ((2+t:Nat):Int)=r:=by
 cases b<;>cases r<;>simp only [Mof,aL,MD (ne0 t),MQ,MJ,ME,N2]
theorem JP (t:Nat)(b r:Option Nat):aL none (Mof t b r) 1=none:=by
 cases b<;>cases r<;>simp only [Mof,aL,MD (ne1 t),MQ,MD (show ¬ ((0:Int)=1) by omega)]
theorem JO (t:Nat)(b:Option Nat)(x:Nat):aR (Mof t b none) ((2+t:Nat):Int) (some x)=Mof t b (some x):=by
 cases b<;>simp only [Mof,aR,MD (ne0 t),MQ]
theorem uE (t:Nat)(b r:Option Nat)(x:Nat):aR (cq (aR (Mof t b r) 1 (some x)) 1) 0 (some x)=(match r with | some h=>(match b with | some _=>[(0,some x),(((2+t:Nat):Int),some h)] | none=>[(((2+t:Nat):Int),some h),(0,some x)]) | none=>[(0,some x)]):=by
 cases b<;>cases r<;>simp only [Mof,aR,cq,MD (ne1 t),MD (ne2 t),MD (ne0 t),MQ,MD (show ¬ ((0:Int)=1) by omega),N2,ME]
structure DC where
 F:List MF
 R:List Int
 L:List Int
 S:List Bool
 jd:List (Option Nat)
 jt:List Int
 jb:List (List Int)
 jr:List (List (List Int))
 jk:List Bool
 B:List (List Int)
 sf:List Int
structure Lens (c c':DC):Prop where
 F:c'.F.length=c.F.length
 R:c'.R.length=c.R.length
 L:c'.L.length=c.L.length
 S:c'.S.length=c.S.length
 jd:c'.jd.length=c.jd.length
 jt:c'.jt.length=c.jt.length
 jb:c'.jb.length=c.jb.length
 jr:c'.jr.length=c.jr.length
 jk:c'.jk.length=c.jk.length
theorem Lens.refl (c:DC):Lens c c:=⟨rfl,rfl,rfl,rfl,rfl,rfl,rfl,rfl,rfl⟩
theorem Lens.trans {a b c:DC} (h:Lens a b)(k:Lens b c):Lens a c:=⟨k.F.trans h.F,k.R.trans h.R,k.L.trans h.L,k.S.trans h.S,k.jd.trans h.jd,k.jt.trans h.jt,k.jb.trans h.jb,k.jr.trans h.jr,k.jk.trans h.jk⟩
theorem qV {j:Nat} {jk:List Bool}:Ev1 (fun k=>CF k mF dR [inj (.ref 99) (some j),inj .err none,Cs jk]) (none,jk) :=
 Ev1.step (fun k=>q9 k (some j) none jk) (Ev1.pos rfl (Ev1.negD (by simp) (Ev1.now _)))
section
variable {F:List MF} {R L:List Int} {S:List Bool} {d j:Nat} {B:List (List Int)} {sf:List Int} {jd:List (Option Nat)} {jk:List Bool} {M:MF} {name:Int} {b:List Int}
end
theorem iM {j:Nat} {jk:List Bool} (h:jk.getD j false=false):Ev1 (fun k=>CF k zj lD [inj (.ref 99) (some j),Cs jk]) (false,jk):=by
 refine Ev1.step (fun k=>zD k (some j) jk) (Ev1.pos rfl (Ev1.const ?_));show some (jk.getD j false,jk)=_;rw [h]
end Go.Eng.Top
namespace Go.Eng.Top
open Go.RowKit Go.Eng Go.Eng.LVar Go.Eng.LCrc Go.Eng.LFrm
set_option maxRecDepth 100000
theorem iR {α:Type} (l:List α)(x y:α) {i:Nat} (h:i=l.length):(l++[x]).set i y=l++[y]:=by
 subst h;rw [OF _ _ (MH _)];simp
theorem aP {α:Type} (l:List α)(x z:α) {i:Nat} (h:i=l.length):(l++[x]).getD i z=x:=by
 subst h;exact bh l x z
theorem K4:Ev1 (fun k=>CF k E8 wv []) s0:=Ev1.of_rfl 40 (fun k=>by kernel_rfl)
theorem Jk:Ev1 (fun k=>CF k oz gL [inj BB []]) ([],0):=Ev1.of_rfl 10 (fun k=>by kernel_rfl)
theorem Gz {j:Nat} {jt:List Int} {t:Int} (h:jt.getD j 0=t):Ev1 (fun k=>CF k Fh p8 [inj (.ref 99) (some j),Cp jt]) (t,jt):=by
 refine Ev1.step (fun k=>FF k (some j) jt) (Ev1.pos rfl (Ev1.const ?_));show some (jt.getD j 0,jt)=_;rw [h]
theorem Dw {s:ab} (h:Inv s):(encs (stL s)).length<=100000:=by
 have h0:=h.op.rt.hi;have h1:=h.op.pl;have h2:=h.gl;have h3:=h.kl;have hl:=aG (m6 h.st);have e0:=cG acL 3 (fun _=>rfl) s.1;have e1:=cG payL 8 (fun _=>rfl) s.2.1;have e2:=cG sagL 11 (fun _=>rfl) s.2.2.1;have e3:=cG knL 10 (fun _=>rfl) s.2.2.2.1;have:(stL s).length<=5000:=by
  simp only [stL,t1,t2,t3,MC,My];omega
 omega
theorem eev {x:Nat} {es:List ab} {s:ab} (h:es.getD x ([],[],[],[],0)=s):Ev1 (fun k=>CF k eL bK [inj (.ref 30) (some x),Cn es]) (s,es):=by
 refine Ev1.step (fun k=>CO k (some x) es) (Ev1.pos rfl (Ev1.const ?_));show some (es.getD x ([],[],[],[],0),es)=_;rw [h]
theorem Ar {α:Type} (l:List α)(i:Nat)(z:α)(h:i < l.length) {x:α} (hx:l.getD i z=x):l.set i x=l:=by
 rw [bj l i z h] at hx;rw [<- hx,OE]
end Go.Eng.Top
namespace Go.Eng.Top
open Go.RowKit Go.Eng Go.Eng.LVar
set_option maxRecDepth 100000
abbrev zS:dK:=((0,0,0,0,0,0,0),0,0)
abbrev zT:ab:=([],[],[],[],0)
abbrev zR:ae:=(0,0,0,0,0,0,0)
abbrev St2:Type:=ab × List dK
def askS (p:St2)(r:ae):St2:=((doF p.1 (0,r,0,false)).1,p.2++[(r,(doF p.1 (0,r,0,false)).2)])
def actF (p:St2)(a:aD):St2 :=
 if a.1=0 then askS p a.2.1
 else if a.1=1 then (if 0 < (p.2.length:Int) then askS p (p.2.getD (Int.toNat (Int.tmod a.2.2.1 (p.2.length:Int))) zS).1 else p)
 else if a.1=2 then (if 0 < ((jz p.1).length:Int) then ((doF p.1 (1,zR,(jz p.1).getD (Int.toNat (Int.tmod a.2.2.1 ((jz p.1).length:Int))) 0,a.2.2.2)).1,p.2) else p)
 else if a.1=3 then ((doF p.1 (2,zR,0,false)).1,p.2)
 else p
structure WC where
 wd:List (Option Nat)
 we:List (Option Nat)
 ws:List (List dK)
 wn:List (List aD)
 wc:List Int
 wr:List (Option Int)
 ww:List ab
 wo:List (List aD)
 ej:List (Option Nat)
 es:List ab
 c:DC
structure Fr (W W':WC)(w x:Nat):Prop where
 wd:W'.wd=W.wd
 we:W'.we=W.we
 wc:W'.wc=W.wc
 wr:W'.wr=W.wr
 ej:W'.ej=W.ej
 ws:∀ i,i ≠ w->W'.ws.getD i []=W.ws.getD i []
 es:∀ i,i ≠ x->W'.es.getD i zT=W.es.getD i zT
 lws:W'.ws.length=W.ws.length
 lwn:W'.wn.length=W.wn.length
 lww:W'.ww.length=W.ww.length
 lwo:W'.wo.length=W.wo.length
 les:W'.es.length=W.es.length
 c:Lens W.c W'.c
noncomputable abbrev H7 (k w:Nat)(e:aD)(W:WC):=CF k E6 jR [inj (.ref 26) (some w),inj aI e,Cb W.we,Cd W.wn,Cg W.ww,Ch W.wo,Ci W.c.F,Cj W.c.R,Ck W.c.L,Cl W.c.S,Cm W.ej,Cn W.es,Co W.c.jd,Cp W.c.jt,Cq W.c.jb,Cr W.c.jr,Cs W.c.jk,Ct W.c.B,Cu W.c.sf]
abbrev outD (o:ai)(W:WC):R6:=(o,W.we,W.wn,W.ww,W.wo,W.c.F,W.c.R,W.c.L,W.c.S,W.ej,W.es,W.c.jd,W.c.jt,W.c.jb,W.c.jr,W.c.jk,W.c.B,W.c.sf)
noncomputable abbrev Ki (k w:Nat)(r:ae)(W:WC):=CF k Hx o9 [inj (.ref 26) (some w),inj aq r,Cb W.we,Cc W.ws,Cd W.wn,Cg W.ww,Ch W.wo,Ci W.c.F,Cj W.c.R,Ck W.c.L,Cl W.c.S,Cm W.ej,Cn W.es,Co W.c.jd,Cp W.c.jt,Cq W.c.jb,Cr W.c.jr,Cs W.c.jk,Ct W.c.B,Cu W.c.sf]
abbrev outK (W:WC):R5:=(W.we,W.ws,W.wn,W.ww,W.wo,W.c.F,W.c.R,W.c.L,W.c.S,W.ej,W.es,W.c.jd,W.c.jt,W.c.jb,W.c.jr,W.c.jk,W.c.B,W.c.sf)
noncomputable abbrev Kj (k w:Nat)(a:aD)(keep:Int)(W:WC):=CF k Hy uA [inj (.ref 26) (some w),inj aI a,inj I keep,Ca W.wd,Cb W.we,Cc W.ws,Cd W.wn,Ce W.wc,Cf W.wr,Cg W.ww,Ch W.wo,Ci W.c.F,Cj W.c.R,Ck W.c.L,Cl W.c.S,Cm W.ej,Cn W.es,Co W.c.jd,Cp W.c.jt,Cq W.c.jb,Cr W.c.jr,Cs W.c.jk,Ct W.c.B,Cu W.c.sf]
abbrev outW (W:WC):R3:=(W.wd,W.we,W.ws,W.wn,W.wc,W.wr,W.ww,W.wo,W.c.F,W.c.R,W.c.L,W.c.S,W.ej,W.es,W.c.jd,W.c.jt,W.c.jb,W.c.jr,W.c.jk,W.c.B,W.c.sf)
theorem yx {a:Int} (ha:0<=a) {n:Nat} (hn:0 < (n:Int)):0<=Int.tmod a (n:Int)/\Int.tmod a (n:Int) < (n:Int):=by
 rw [OI ha];exact ⟨Int.emod_nonneg _ (by omega),Int.emod_lt_of_pos _ hn⟩
theorem Bn {α:Type} (l:List α)(z:α) {i:Int} (h:0<=i/\i < (l.length:Int)):l.getD (Int.toNat i) z ∈ l:=by
 obtain ⟨n,rfl⟩:=Nl h.1;rw [MV,bj l n z (by omega)];exact Np _
end Go.Eng.Top
namespace Go.Eng.Top
open Go.RowKit Go.Eng Go.Eng.LVar
set_option maxRecDepth 100000
set_option maxHeartbeats 1000000
def oneR (n a1 a2 a3 a4 a5:Int):ae :=
 (n,a1 % 8,(if a1 % 8=0 then a2 % 3 else if 4<=a1 % 8 then a2 % 4 else 9+a2 % 6),9+a3 % 6,1+a4 * 7,(if a1 % 8=2 then a5 % 4 else 0),(if a1 % 8=3 then 1+a5 % 8 else 0))
def oneF (a0 a1 a2 a3 a4 a5 n:Int):aD :=
 if a0 % 12=0 then (1,zR,a1,false)
 else if a0 % 12 < 4 then (2,zR,a1,decide (0 < a2 % 4))
 else if a0 % 12=4 then (3,zR,0,false)
 else if a0 % 12=5 then (if 0 < a1 % 4 then (4,zR,0,false) else (5,zR,a2 % 4,false))
 else (0,oneR n a1 a2 a3 a4 a5,0,false)
theorem tm {x d:Int} (h:0<=x):Int.tmod x d=x % d:=OI h
theorem KZ (a0 a1 a2 a3 a4 a5 n:Int)(h0:0<=a0/\a0<=255)(h1:0<=a1/\a1<=255)(h2:0<=a2/\a2<=255)(h3:0<=a3/\a3<=255)(h4:0<=a4/\a4<=255)(h5:0<=a5/\a5<=255) :
  Ev1 (fun k=>CF k w9 jT [inj BB [a0,a1,a2,a3,a4,a5],inj (.int .i64) n]) (oneF a0 a1 a2 a3 a4 a5 n):=by
 refine Ev1.step (fun k=>xC k [a0,a1,a2,a3,a4,a5] n a5 rfl a2 rfl a1 rfl (a0 % 12) (tm h0.1).symm (a1 % 4) (tm h1.1).symm (a2 % 4) (tm h2.1).symm (a1 % 8) ?_ (9+a3 % 6) ?_ (9+a2 % 6) ?_ (1+a4 * 7) ?_ _ rfl _ rfl _ rfl _ rfl _ rfl _ rfl _ rfl) (Ev1.const ?_)
 ·rw [tm h1.1,aO (by omega)]
 ·show _=w64 (9+w64 (Int.tmod a3 6));rw [tm h3.1,aO (x:=a3 % 6) (by omega),aO (by omega)]
 ·show _=w64 (9+w64 (Int.tmod a2 6));rw [tm h2.1,aO (x:=a2 % 6) (by omega),aO (by omega)]
 ·show _=w64 (1+w64 (w64 a4 * 7));rw [aO (x:=a4) (by omega),aO (x:=a4 * 7) (by omega),aO (by omega)]
 rw [tm h2.1,tm h5.1,tm h5.1,aO (x:=a1) (by omega),aO (x:=a2 % 4) (by omega),aO (x:=a2 % 3) (by omega),aO (x:=a5 % 4) (by omega),aO (x:=a5 % 8) (by omega),aO (x:=1+a5 % 8) (by omega)];have q0:inb 0 [a0,a1,a2,a3,a4,a5].length=true:=rfl;have q1:inb 1 [a0,a1,a2,a3,a4,a5].length=true:=rfl;have q2:inb 2 [a0,a1,a2,a3,a4,a5].length=true:=rfl;have q3:inb 3 [a0,a1,a2,a3,a4,a5].length=true:=rfl;have q4:inb 4 [a0,a1,a2,a3,a4,a5].length=true:=rfl;have q5:inb 5 [a0,a1,a2,a3,a4,a5].length=true:=rfl;simp only [q0,q1,q2,q3,q4,q5,ME];clear q0 q1 q2 q3 q4 q5;have hb:0<=a0 % 12/\a0 % 12 < 12:=by omega
 have hc:0<=a1 % 8/\a1 % 8 < 8:=by omega
 have hd:0<=a1 % 4:=by omega
 unfold oneF oneR zR;generalize a0 % 12=m at hb ⊢;generalize a1 % 8=o at hc ⊢;generalize a1 % 4=u at hd ⊢;rcases (by omega:m=0\/m=1\/m=2\/m=3\/m=4\/m=5\/6<=m) with rfl | rfl | rfl | rfl | rfl | rfl | h
 ·rfl
 ·rfl
 ·rfl
 ·rfl
 ·rfl
 ·by_cases hu:0 < u
  ·simp [hu]
  ·simp [hu]
 ·rw [MG (by omega),MG (by omega),MG (by omega),MG (by omega)];simp only [MD (show ¬ m=0 by omega),MD (show ¬ m=1 by omega),MD (show ¬ m=2 by omega),MD (show ¬ m=3 by omega),MD (show ¬ m=4 by omega),MD (show ¬ m=5 by omega),MQ];rcases (by omega:o=0\/o=1\/o=2\/o=3\/o=4\/o=5\/o=6\/o=7) with rfl | rfl | rfl | rfl | rfl | rfl | rfl | rfl<;>rfl
def Gm (b:List Int)(i:Nat)(n:Int):aD:=oneF (b.getD (6 * i) 0) (b.getD (6 * i+1) 0) (b.getD (6 * i+2) 0) (b.getD (6 * i+3) 0) (b.getD (6 * i+4) 0) (b.getD (6 * i+5) 0) n
def acts (b:List Int):List aD:=(List.range (b.length / 6)).map fun i=>Gm b i (i:Int)
theorem Ie (b:List Int):(acts b).length=b.length / 6:=by simp [acts]
theorem E5 (b:List Int)(m j:Nat):(b.drop m).getD j 0=b.getD (m+j) 0:=by
 rw [MT,MT,NR]
theorem six6 (b:List Int)(h:6<=b.length):b.take 6=[b.getD 0 0,b.getD 1 0,b.getD 2 0,b.getD 3 0,b.getD 4 0,b.getD 5 0]:=by
 rcases b with _ | ⟨a0,_ | ⟨a1,_ | ⟨a2,_ | ⟨a3,_ | ⟨a4,_ | ⟨a5,r⟩⟩⟩⟩⟩⟩<;>first | rfl | (simp at h)
theorem byt_get {b:List Int} (h:Byt b)(i:Nat):0<=b.getD i 0/\b.getD i 0<=255:=by
 rw [MT];cases hq:b[i]? with
 | none=>simp
 | some y=>exact h y (MY hq)
theorem LO (b:List Int)(hb:Byt b)(hl:b.length<=4000000):∀ (d i:Nat),i+d=b.length / 6->Ev2 (fun k m=>h_sA k m (b.drop (6 * i)) ((List.range i).map fun j=>Gm b j (j:Int))) (acts b):=by
 intro d
 induction d with
 | zero =>
  intro i hi;refine Ev2.step (fun k m=>IH k m (b.drop (6 * i)) _ _ rfl) (Ev2.negD (by rw [NW];omega) ?_);rw [show i=b.length / 6 by omega];exact Ev2.now _
 | succ d ih =>
  intro i hi;have hle:6 * i+6<=b.length:=by omega
  have hd:(6:Int)<=((b.drop (6 * i)).length:Int):=by rw [NW];omega
  refine Ev2.step (fun k m=>IH k m (b.drop (6 * i)) _ _ rfl) (Ev2.posD hd (Ev2.posD hd ?_));rw [six6 (b.drop (6 * i)) (by omega)];simp only [E5,OD,NI,List.length_range];refine Ev2.bind (KZ _ _ _ _ _ _ (i:Int) (byt_get hb _) (byt_get hb _) (byt_get hb _) (byt_get hb _) (byt_get hb _) (byt_get hb _)) (Ev2.posD (by simp only [MC,ML];omega) (Ev2.posD hd ?_));have e1:(b.drop (6 * i)).drop 6=b.drop (6 * (i+1)):=by rw [Px,Nat.mul_succ]
  have e2:(List.range i).map (fun j=>Gm b j (j:Int))++[Gm b i (i:Int)]=(List.range (i+1)).map fun j=>Gm b j (j:Int):=by
   rw [List.range_succ,Oo];rfl
  rw [e1];have:=ih (i+1) (by omega);rw [<- e2] at this;exact this
theorem Kq (b:List Int)(hb:Byt b)(hl:b.length<=4000000):Ev1 (fun k=>CF k g_sA n_sA [inj BB b]) (acts b) :=
 Ev1.step (fun k=>f_sA k b) (Ev2.diag (f:=fun k m=>h_sA k m b []) (LO b hb hl (b.length / 6) 0 (by omega)))
theorem Hb {n a1 a2 a3 a4 a5:Int} (hn:0<=n/\n<=1000000)(h1:0<=a1/\a1<=255)(h2:0<=a2/\a2<=255)(h3:0<=a3/\a3<=255)(h4:0<=a4/\a4<=255)(h5:0<=a5/\a5<=255):I64 (rqL (oneR n a1 a2 a3 a4 a5)):=by
 simp only [oneR,rqL,I64,MO,Nf,NS,NG,Og];refine ⟨by omega,by omega,?_,by omega,by omega,?_,?_⟩
 ·split
  ·omega
  ·split<;>omega
 ·split<;>omega
 ·split<;>omega
def GQ:List Int:=[6,0,0,0,0,0,6,0,1,0,0,0,6,0,2,0,0,0,6,0,3,0,0,0,6,0,4,0,0,0,6,0,5,0,0,0,6,1,0,0,250,0,6,1,1,0,250,0,6,1,2,0,250,0,6,1,3,0,250,0,6,1,4,0,250,0,6,1,5,0,250,0]
theorem Jp:Ev1 (fun k=>CF k xj oi []) GQ:=Ev1.of_rfl 30 (fun k=>by kernel_rfl)
def allL (b:List Int):List Int:=GQ++b.take 3000
theorem BF (b:List Int)(hl:b.length<=211106232532000):Ev1 (fun k=>CF k zi iX [inj BB b]) (allL b):=by
 have he:∀ m:Int,m=minI (b.length:Int) 3000->Int.toNat m=min b.length 3000/\0<=m/\m<=(b.length:Int):=by
  intro m hm;subst hm;unfold minI;by_cases h:(3000:Int) < (b.length:Int)
  ·rw [MJ h,ME];omega
  ·rw [MD h,MQ];omega
 obtain ⟨e1,e2,e3⟩:=he _ rfl;have et:b.take (Int.toNat (minI (b.length:Int) 3000))=b.take 3000:=by
  rw [e1];by_cases h:b.length<=3000
  ·rw [Oc (by omega),Oc h]
  ·rw [show min b.length 3000=3000 by omega]
 refine Ev1.step (fun k=>zy k b _ rfl _ rfl _ rfl) (Ev1.bind Jp (Ev1.pos (by rw [MJ e2,MJ e3];rfl) ?_));rw [et];have:(b.take 3000).length<=3000:=by rw [NC];omega
 exact Ev1.posD (by show (72+(b.take 3000).length) * 1<=211106232532992;omega) (Ev1.now _)
theorem vI {b:List Int} (hb:Byt b):Byt (allL b):=by
 intro x hx;rcases MU.1 hx with hx | hx
 ·simp only [GQ,MO,Nf,NS] at hx;omega
 ·exact hb x (Oi hx)
theorem BE (b:List Int):(allL b).length<=3072:=by
 unfold allL;rw [My,NC];have:GQ.length=72:=rfl;omega
end Go.Eng.Top
namespace Go.Eng.Top
open Go.RowKit Go.Eng Go.Eng.LVar
set_option maxRecDepth 100000
structure Al (W:WC):Prop where
 we:W.we.length=W.wd.length
 ws:W.ws.length=W.wd.length
 wn:W.wn.length=W.wd.length
 wr:W.wr.length=W.wd.length
 ww:W.ww.length=W.wd.length
 wo:W.wo.length=W.wd.length
 es:W.es.length=W.ej.length
 jt:W.c.jt.length=W.c.jd.length
 jb:W.c.jb.length=W.c.jd.length
 jr:W.c.jr.length=W.c.jd.length
 jk:W.c.jk.length=W.c.jd.length
 R:W.c.R.length=W.c.F.length
 L:W.c.L.length=W.c.F.length
 S:W.c.S.length=W.c.F.length
abbrev outO (w:Nat)(W:WC):R1:=(some w,W.wd,W.we,W.ws,W.wn,W.wc,W.wr,W.ww,W.wo,W.c.F,W.c.R,W.c.L,W.c.S,W.ej,W.es,W.c.jd,W.c.jt,W.c.jb,W.c.jr,W.c.jk,W.c.B,W.c.sf)
end Go.Eng.Top
namespace Go.Eng.Top
open Go.RowKit Go.Eng Go.Eng.LVar
set_option maxRecDepth 100000
noncomputable abbrev Mg (k m:Nat)(b:List Int)(w:Nat)(ac:List aD)(i:Int)(W:WC):Option R1:=h_wR k m b (some w) ac (ac.length:Int) i W.wd W.we W.ws W.wn W.wc W.wr W.ww W.wo W.c.F W.c.R W.c.L W.c.S W.ej W.es W.c.jd W.c.jt W.c.jb W.c.jr W.c.jk W.c.B W.c.sf
def exL:List Int:=[6,2,0,3,10,2,1,0,1,0,0,0,1,0,1,0,0,0,1,0,1,0,0,0]
abbrev outT (b:Bool)(W:WC):R2:=(b,W.wd,W.we,W.ws,W.wn,W.wc,W.wr,W.ww,W.wo,W.c.F,W.c.R,W.c.L,W.c.S,W.ej,W.es,W.c.jd,W.c.jt,W.c.jb,W.c.jr,W.c.jk,W.c.B,W.c.sf)
noncomputable abbrev Gb (k:Nat)(W:WC):=CF k g_tw n_tw [Ca W.wd,Cb W.we,Cc W.ws,Cd W.wn,Ce W.wc,Cf W.wr,Cg W.ww,Ch W.wo,Ci W.c.F,Cj W.c.R,Ck W.c.L,Cl W.c.S,Cm W.ej,Cn W.es,Co W.c.jd,Cp W.c.jt,Cq W.c.jb,Cr W.c.jr,Cs W.c.jk,Ct W.c.B,Cu W.c.sf]
def exS:St2:=(acts (allL exL)).foldl actF (s0,[])
theorem IL:Byt (allL exL):=vI (by intro x hx;simp only [exL,MO,Nf,NS] at hx;omega)
theorem Lj:exS.2.length=13/\exS.1.1.length=15/\(exS.1.1.getD 9 (0,0,0)).2.1=1680/\(exS.1.1.getD 12 (0,0,0)).2.1=1822/\exS.1.2.2.1.length=0:=by decide +kernel
theorem KJ (s : ab) (hl : s.2.1.length ≤ 1000) : ∀ (d i : Nat), i + d = s.2.1.length → Ev2 (fun k m => uR k m (s.2.1.length : Int) (i : Int) s.1 s.2.1 s.2.2.1 s.2.2.2.1 s.2.2.2.2 s.1 s.2.1 s.2.2.1 s.2.2.2.1 s.2.2.2.2) true
  | 0, i, h => Ev2.step (fun k m => wU k m (s.2.1.length : Int) (i : Int) s.1 s.2.1 s.2.2.1 s.2.2.2.1 s.2.2.2.2 s.1 s.2.1 s.2.2.1 s.2.2.2.1 s.2.2.2.2 _ rfl _ rfl) (Ev2.negD (by omega) (Ev2.now _))
  | d + 1, i, h => by
    refine Ev2.step (fun k m => wU k m (s.2.1.length : Int) (i : Int) s.1 s.2.1 s.2.2.1 s.2.2.2.1 s.2.2.2.2 s.1 s.2.1 s.2.2.1 s.2.2.2.1 s.2.2.2.2 _ rfl _ rfl) (Ev2.posD (by omega) (Ev2.pos (ak (by omega) (by omega)) (Ev2.pos (ak (by omega) (by omega)) (Ev2.neg (by simp) ?_))))
    rw [wnat (by omega)]
    exact KJ s hl d (i + 1) (by omega)
theorem KH (s : ab) (hl : s.2.2.1.length ≤ 1000) : ∀ (d i : Nat), i + d = s.2.2.1.length → Ev2 (fun k m => uQ k m (s.2.2.1.length : Int) (i : Int) s.1 s.2.1 s.2.2.1 s.2.2.2.1 s.2.2.2.2 s.1 s.2.1 s.2.2.1 s.2.2.2.1 s.2.2.2.2) true
  | 0, i, h => Ev2.step (fun k m => wT k m (s.2.2.1.length : Int) (i : Int) s.1 s.2.1 s.2.2.1 s.2.2.2.1 s.2.2.2.2 s.1 s.2.1 s.2.2.1 s.2.2.2.1 s.2.2.2.2 _ rfl _ rfl) (Ev2.negD (by omega) (Ev2.now _))
  | d + 1, i, h => by
    refine Ev2.step (fun k m => wT k m (s.2.2.1.length : Int) (i : Int) s.1 s.2.1 s.2.2.1 s.2.2.2.1 s.2.2.2.2 s.1 s.2.1 s.2.2.1 s.2.2.2.1 s.2.2.2.2 _ rfl _ rfl) (Ev2.posD (by omega) (Ev2.pos (ak (by omega) (by omega)) (Ev2.pos (ak (by omega) (by omega)) (Ev2.neg (by simp) ?_))))
    rw [wnat (by omega)]
    exact KH s hl d (i + 1) (by omega)
theorem DH {s : ab} (h : Inv s) : Ev1 (fun k => CF k Mh JK [inj aB s, inj aB s]) true := by
  have h1 := h.op.rt.hi
  have h2 := h.op.pl
  have h3 := h.gl
  have h4 := h.kl
  have e15 : Ev2 (fun k m => J2 k m s.1 s.2.1 s.2.2.1 s.2.2.2.1 s.2.2.2.2 s.1 s.2.1 s.2.2.1 s.2.2.2.1 s.2.2.2.2) true :=
    Ev2.step (fun k m => J1 k m s.1 s.2.1 s.2.2.1 s.2.2.2.1 s.2.2.2.2 s.1 s.2.1 s.2.2.1 s.2.2.2.1 s.2.2.2.2) (Ev1.drop (KJ s (by omega) s.2.1.length 0 (by omega)).diag)
  have e17 : Ev2 (fun k m => J0 k m s.1 s.2.1 s.2.2.1 s.2.2.2.1 s.2.2.2.2 s.1 s.2.1 s.2.2.1 s.2.2.2.1 s.2.2.2.2) true :=
    Ev2.step (fun k m => JZ k m s.1 s.2.1 s.2.2.1 s.2.2.2.1 s.2.2.2.2 s.1 s.2.1 s.2.2.1 s.2.2.2.1 s.2.2.2.2) (Ev1.drop (KH s (by omega) s.2.2.1.length 0 (by omega)).diag)
  have f15 : Ev1 (fun k => CF k Mi JL [inj aB s, inj aB s]) true :=
    Ev1.step (fun k => Ml k s s) (Ev1.bind (Jl s.1 h1) (Ev1.neg rfl (Ev1.neg (by simp) (Ev1.neg (by simp) e15.diag))))
  have f16 : Ev1 (fun k => CF k xk jY [inj aB s, inj aB s]) true :=
    Ev1.step (fun k => xM k s s) (Ev1.bind f15 (Ev1.pos rfl (Ev1.bind (Hl s.2.2.2.1 (by omega)) (Ev1.now _))))
  exact Ev1.step (fun k => Mk k s s) (Ev1.bind f16 (Ev1.neg rfl (Ev1.neg (by simp) e17.diag)))
end Go.Eng.Top
namespace Go.Eng.Top
open Go.RowKit Go.Eng Go.Eng.LVar Go.Eng.LCrc Go.Eng.LFrm
set_option maxRecDepth 100000
theorem Il (b r:List Int)(hl:b.length<=4611686018427387904):∀ (d w i u:Nat),w < d->b.drop i=enc w++r->i<=9->u < 2 ^ (7 * i)->(i=0\/0 < w)->u+w * 2 ^ (7 * i) < 18446744073709551616 ->
  Ev2 (fun k m=>qD k m b (u:Int) (i:Int)) (yw (u+w * 2 ^ (7 * i)),r,true)
 | 0,w,i,u,h,_,_,_,_,_=>by omega
 | d+1,w,i,u,h,hd,h9,hu,h0,ht=>by
  have hil:i < b.length:=by
   rcases NA i b.length with q | q
   ·exact q
   ·rw [No q] at hd;have:=congrArg List.length hd;have h1:=OC.2 (xZ w);simp only [ML,My] at this;omega
  have hp:0 < 2 ^ (7 * i):=Nat.two_pow_pos _;have ew:w64 ((7:Int) * (i:Int))=((7 * i:Nat):Int):=by rw [aO (by omega)];omega
  rw [Nd hil] at hd
  -- the byte and what is behind it
  have one:∀ (c:Nat) (R:Int × List Int × Bool),b[i]=(c:Int)->(i=9->c<=1)->Ev2 (fun k m=>iF k m k b (u:Int) (i:Int) (c:Int)) R->Ev2 (fun k m=>qD k m b (u:Int) (i:Int)) R:=by
   intro c R hc h1 hR;refine Ev2.step (fun k m=>EX k m b (u:Int) (i:Int)) (Ev2.posD (by omega) (Ev2.posD (by omega) ?_));refine Ev3.diag (f:=fun k m m2=>qC k m m2 b (u:Int) (i:Int)) (Ev3.step (fun k m m2=>y9 k m m2 b (u:Int) (i:Int) (c:Int) (by rw [uW b i _ hil,hc])) (Ev3.pos (ak (by omega) (by omega)) ?_));by_cases q:i=9
   ·exact Ev3.posD (by omega) (Ev3.negD (by have:=h1 q;omega) hR.drop)
   ·exact Ev3.negD (by omega) hR.drop
  by_cases hb:128<=w
  ·rw [nO hb,M7] at hd;obtain ⟨hc,hd2⟩:=List.cons.inj hd;have h8:i<=8:=by
    rcases NA i 9 with q | q
    ·omega
    ·obtain rfl:i=9:=by omega
     have:=pow9;have:128 * 2 ^ (7 * 9)<=w * 2 ^ (7 * 9):=Ni _ hb;omega
   have hle:=KT i h8;have hcp:=Er (show w % 128 < 128 by omega) hp;refine one (w % 128+128) _ hc (fun q=>by omega) ?_;have e2:bY .u64 .or (u:Int) (wu64 ((wu64 (bY .u8 .and ((w % 128+128:Nat):Int) (127:Int))) * ((2:Int) ^ (min (Int.toNat ((7 * i:Nat):Int)) 64))))=((u+w % 128 * 2 ^ (7 * i):Nat):Int):=by
    rw [and8 _ (by omega),show (w % 128+128) % 128=w % 128 by omega,show wu64 ((w % 128:Nat):Int)=((w % 128:Nat):Int) from tG (by omega) (by omega),MV,O0 (by omega)];have:((w % 128:Nat):Int) * 2 ^ (7 * i)=((w % 128 * 2 ^ (7 * i):Nat):Int):=by push_cast;rfl
    rw [this,tG (by omega) (by omega)];exact or64 u (w % 128) (7 * i) hu (by omega)
   have hrec:=Il b r hl d (w / 128) (i+1) (u+w % 128 * 2 ^ (7 * i)) (by omega) hd2 (by omega) (by rw [l0];omega) (.inr (by omega)) (by
    rw [l0];have:w=w % 128+w / 128 * 128:=by omega
    have e:w / 128 * (128 * 2 ^ (7 * i))+w % 128 * 2 ^ (7 * i)=w * 2 ^ (7 * i):=by
     rw [<- PF,<- Nj];congr 1;omega
    omega)
   have e3:u+w % 128 * 2 ^ (7 * i)+w / 128 * 2 ^ (7 * (i+1))=u+w * 2 ^ (7 * i):=by
    rw [l0];have e:w / 128 * (128 * 2 ^ (7 * i))+w % 128 * 2 ^ (7 * i)=w * 2 ^ (7 * i):=by
     rw [<- PF,<- Nj];congr 1;omega
    omega
   rw [e3] at hrec;refine Ev3.diag (f:=fun k m m2=>iF k m m2 b (u:Int) (i:Int) ((w % 128+128:Nat):Int)) (Ev3.step (fun k m m2=>qA k m m2 b (u:Int) (i:Int) ((w % 128+128:Nat):Int) ((7 * i:Nat):Int) ew.symm _ e2.symm) (Ev3.posD (by omega) (Ev3.posD (by omega) ?_)));rw [wnat (by omega)];exact hrec.drop
  ·rw [gq (by omega),List.singleton_append] at hd;obtain ⟨hc,hd2⟩:=List.cons.inj hd;refine one w _ hc (fun q=>by
    subst q;have:=pow9;rcases NA w 2 with q | q
    ·omega
    ·have:2 * 2 ^ (7 * 9)<=w * 2 ^ (7 * 9):=Ni _ q;omega) ?_
   have hwp:w * 2 ^ (7 * i) < 18446744073709551616:=by omega
   have e2:bY .u64 .or (u:Int) (wu64 ((wu64 (bY .u8 .and (w:Int) (127:Int))) * ((2:Int) ^ (min (Int.toNat ((7 * i:Nat):Int)) 64))))=((u+w * 2 ^ (7 * i):Nat):Int):=by
    rw [and8 _ (by omega),show w % 128=w by omega,show wu64 (w:Int)=(w:Int) from tG (by omega) (by omega),MV,O0 (by omega)];have:((w:Nat):Int) * 2 ^ (7 * i)=((w * 2 ^ (7 * i):Nat):Int):=by push_cast;rfl
    rw [this,tG (by omega) (by omega)];exact or64 u w (7 * i) hu ht
   generalize u+w * 2 ^ (7 * i)=U at ht e2 ⊢;have fin:Ev2 (fun k m=>ka k m k b (U:Int) (i:Int)) (yw U,r,true):=by
    have hh:w64 (Int.fdiv (U:Int) 2)=((U / 2:Nat):Int):=by
     rw [Oq _ (by omega),aO (by omega)];omega
    refine Ev3.diag (f:=fun k m m2=>ka k m m2 b (U:Int) (i:Int)) (Ev3.step (fun k m m2=>y8 k m m2 b (U:Int) (i:Int) (b.length:Int) rfl ((i+1:Nat):Int) (wnat (by omega)).symm r (by rw [MV];exact hd2.symm) _ hh.symm) ?_);rw [Ko _ ht];by_cases hodd:U % 2=1
    ·refine Ev3.posD (by omega) (Ev3.pos (and2 (by omega) (by omega)) (Ev3.const ?_));rw [K3 _ (by omega)];simp only [yw,hodd,Oa]
    ·refine Ev3.negD (by omega) (Ev3.pos (and2 (by omega) (by omega)) (Ev3.const ?_));simp only [yw];rw [MG hodd]
   refine Ev3.diag (f:=fun k m m2=>iF k m m2 b (u:Int) (i:Int) (w:Int)) (Ev3.step (fun k m m2=>qA k m m2 b (u:Int) (i:Int) (w:Int) ((7 * i:Nat):Int) ew.symm _ e2.symm) (Ev3.posD (by omega) (Ev3.negD (by omega) ?_)));by_cases hi:0 < i
   ·exact Ev3.posD (by omega) (Ev3.negD (by omega) fin.drop)
   ·exact Ev3.negD (by omega) fin.drop
theorem yt {n:Int} (hn:-9223372036854775808<=n/\n<=9223372036854775807)(r:List Int)(hl:r.length<=4611686018427387000):Ev1 (fun k=>CF k E7 nh [inj BB (enc (zig n)++r)]) (n,r,true):=by
 have hz:=sq hn;have h10:=mM hz;have h:=Il (enc (zig n)++r) r (by rw [My];omega) (zig n+1) (zig n) 0 0 (by omega) rfl (by omega) (by simp) (.inl rfl) (by simpa using hz);simp only [Nat.mul_zero,Nat.pow_zero,Qm,Nz,pA] at h;exact Ev1.step (fun k=>J8 k _) h.diag
theorem bq {n:Int} (hn:-9223372036854775808<=n/\n<=9223372036854775807)(r:List Int)(hl:r.length<=4611686018427387000) {a b:Int} (h1:a<=n)(h2:n<=b):Ev1 (fun k=>CF k kp aa [.val false [.io ao (encs [n]++r,false)],inj (.int .i64) a,inj (.int .i64) b]) (n,r,false):=by
 rw [pt];exact Ev1.step (fun k=>kq k (enc (zig n)++r,false) a b _ rfl) (Ev1.bind (yt hn r hl) (Ev1.neg rfl (Ev1.neg rfl (Ev1.negD (by omega) (Ev1.negD (by omega) (Ev1.now _))))))
theorem Dj (n : Nat) (hn : n ≤ 1000) (r : List Int) (hr : r.length ≤ 1000000) : ∀ (ns out : List Int), I64 ns → out.length + ns.length = n → Ev2 (fun k m => pk k m (encs ns ++ r) (n : Int) out) (out ++ ns, r, true)
  | [], out, _, h => by
    refine Ev2.step (fun k m => tc k m (encs [] ++ r) (n : Int) out) (Ev2.negD (by simp only [ML] at h; omega) (Ev2.const ?_))
    rw [Ns]; rfl
  | x :: ns, out, hI, h => by
    obtain ⟨hx, hI2⟩ := aX.1 hI
    simp only [MC] at h
    have hl := aG hI2
    have e : encs (x :: ns) ++ r = enc (zig x) ++ (encs ns ++ r) := by simp [encs]
    rw [e]
    refine Ev2.step (fun k m => tc k m _ (n : Int) out) (Ev2.posD (by omega) (Ev2.bind (yt hx (encs ns ++ r) (by rw [My]; omega)) (Ev2.neg rfl (Ev2.posD (by simp only [MC, ML]; omega) ?_))))
    have := Dj n hn r hr ns (out ++ [x]) hI2 (by simp; omega)
    rw [M8] at this
    exact this
theorem Ak (ns r:List Int)(hI:I64 ns)(hn:ns.length<=1000)(hr:r.length<=1000000) {n:Int} (e:n=ns.length):Ev1 (fun k=>CF k Hz pa [inj BB (encs ns++r),inj (.int .i64) n]) (ns,r,true):=by
 subst e;exact Ev1.step (fun k=>HM k _ _) (Dj ns.length hn r hr ns [] hI (by simp)).diag
theorem Jt (x:ae)(r:List Int)(hI:I64 (rqL x))(hm:mayB x=true)(hr:r.length<=1000000):Ev1 (fun k=>CF k rO ig [inj BB (encs (rqL x)++r)]) (x,r,true):=by
 have hb:=ID x;rw [hm] at hb;exact Ev1.step (fun k=>rW k _) (Ev1.bind (Ak (rqL x) r hI (by simp [rqL]) hr (by simp [rqL])) (Ev1.neg rfl (Ev1.pos rfl (Ev1.pos rfl (Ev1.pos rfl (Ev1.pos rfl (Ev1.pos rfl (Ev1.pos rfl (Ev1.pos rfl (Ev1.bind hb (Ev1.neg rfl (Ev1.now _))))))))))))
theorem GY (o:ai)(r:List Int)(ho:okO o)(hr:r.length<=1000000):Ev1 (fun k=>CF k lM du [inj BB (encs [o.1,o.2]++r)]) (o,r,true):=by
 have h1:=ho.1;have h2:=ho.2.1;have h3:Ev2 (fun k m=>dy k m [o.1,o.2] r (0:Int) (0:Int)) (o,r,true):=Ev2.step (fun k m=>ke k m _ _ _ _) (Ev2.pos rfl (Ev2.pos rfl (Ev2.now _)));exact Ev1.step (fun k=>lN k _) (Ev1.bind (Ak [o.1,o.2] r (aX.2 ⟨by omega,aX.2 ⟨by omega,by simp [I64]⟩⟩) (by simp) hr (by simp)) (Ev1.neg rfl (Ev1.pos rfl (Ev1.negD (by show ¬ o.1 < 0;omega) (Ev1.pos rfl (Ev1.negD (by show ¬ 13 < o.1;omega) h3.diag))))))
theorem yI (x:ae)(r:List Int)(hI:I64 (rqL x))(hm:mayB x=true)(hr:r.length<=1000000):Ev1 (fun k=>CF k jL aC [.val false [.io ao (encs (rqL x)++r,false)]]) (x,r,false) :=
 Ev1.step (fun k=>jM k (encs (rqL x)++r,false) _ rfl) (Ev1.bind (Jt x r hI hm hr) (Ev1.neg rfl (Ev1.neg rfl (Ev1.now _))))
theorem Jo (o:ai)(r:List Int)(ho:okO o)(hr:r.length<=1000000):Ev1 (fun k=>CF k kU aK [.val false [.io ao (encs [o.1,o.2]++r,false)]]) (o,r,false) :=
 Ev1.step (fun k=>kV k (encs [o.1,o.2]++r,false) _ rfl) (Ev1.bind (GY o r ho hr) (Ev1.neg rfl (Ev1.neg rfl (Ev1.now _))))
def evR (e:aD):Prop:=(e.1=0/\mayB e.2.1=true/\I64 (rqL e.2.1)/\e.2.2=(0,false))\/(e.1=1/\e.2.1=(0,0,0,0,0,0,0)/\0<=e.2.2.1/\e.2.2.1<=4611686018427387904)\/(e=(2,(0,0,0,0,0,0,0),0,false))
theorem GZ (e:aD)(h:evR e):Ev1 (fun k=>CF k nI eI [inj BB (encs (evL e))]) (e,true):=by
 obtain ⟨w,r,key,ok⟩:=e;have fin:∀ (a b c d e f g h i:Int) (o:Bool),Ev2 (fun k m=>ct k m (0:Int) (0:Int) (0:Int) (0:Int) (0:Int) (0:Int) (0:Int) (0:Int) (0:Int) false [] false a b c d e f g h i o) ((a,(b,c,d,e,f,g,h),i,o),true):=fun a b c d e f g h i o =>
  Ev2.step (fun k m=>lL k m _ _ _ _ _ _ _ _ _ _ _ _ _ _ _ _ _ _ _ _ _ _) (Ev2.neg rfl (Ev2.negD (by simp) (Ev2.now _)))
 rcases h with ⟨h1,h2,h3,h4⟩ | ⟨h1,h2,h3,h4⟩ | h1
 ·have h1:w=0:=h1;have h4:(key,ok)=(0,false):=h4;cases h4;subst h1;have e1:encs (evL (0,r,0,false))=encs [0]++(encs (rqL r)++[]):=by
   rw [Ns,<- aH];rfl
  rw [e1];have hl:=aG h3;exact Ev1.step (fun k=>eM k _) (Ev1.bind (bq (by omega) _ (by rw [My];simp only [rqL,MC,ML] at hl ⊢;omega) (by omega) (by omega)) (Ev1.posD rfl (Ev1.bind (yI r [] h3 h2 (by simp)) (fin _ _ _ _ _ _ _ _ _ _).diag)))
 ·have h1:w=1:=h1;have h2:r=(0,0,0,0,0,0,0):=h2;have h3:0<=key:=h3;have h4:key<=4611686018427387904:=h4;subst h1 h2;have e1:encs (evL (1,(0,0,0,0,0,0,0),key,ok))=encs [1]++(encs [key]++(encs [if ok=true then 1 else 0]++[])):=by
   rw [Ns,<- aH,<- aH];rfl
  rw [e1];have hk:I64 [key]:=aX.2 ⟨by omega,by simp [I64]⟩;have ho:I64 [if ok=true then (1:Int) else 0]:=by cases ok<;>simp [I64]
  have l1:=aG hk;have l2:=aG ho;simp only [MC,ML] at l1 l2;have hd:decide ((if ok=true then (1:Int) else 0)=1)=ok:=by cases ok<;>rfl
  have hfin:=fin 1 0 0 0 0 0 0 0 key ok;refine Ev1.step (fun k=>eM k _) (Ev1.bind (bq (by omega) _ (by simp only [My,ML];omega) (by omega) (by omega)) (Ev1.negD (show ¬ (1:Int)=0 by decide) (Ev1.posD rfl (Ev1.bind (bq (by omega) _ (by simp only [My,ML];omega) (by omega) h4) (Ev1.bind (bq (by cases ok<;>simp) [] (by simp) (by cases ok<;>simp) (by cases ok<;>simp)) ?_)))));rw [hd];exact hfin.diag
 ·cases h1;have e1:encs (evL (2,(0,0,0,0,0,0,0),0,false))=encs [2]++[]:=by rw [Ns];rfl
  rw [e1];exact Ev1.step (fun k=>eM k _) (Ev1.bind (bq (by omega) [] (by simp) (by omega) (by omega)) (Ev1.negD (show ¬ (2:Int)=0 by decide) (Ev1.negD (show ¬ (2:Int)=1 by decide) (fin _ _ _ _ _ _ _ _ _ _).diag)))
theorem JB (p:ag)(h:payR p):Ev1 (fun k=>CF k ⟨[(false,.bool)],[]⟩ dO [inj aj p]) true:=by
 unfold payR at h;have hg:ze p=p.2.2.2.1 - p.2.2.2.2.1 - p.2.2.2.2.2.1:=by
  unfold ze;rw [aO (x:=p.2.2.2.1 - p.2.2.2.2.1) (by omega),aO (by omega)]
 refine Ev1.step (fun k=>qY k p _ rfl _ rfl) (Ev1.posD (by omega) (Ev1.posD (by omega) (Ev1.posD (by omega) (Ev1.posD (by omega) (Ev1.posD (by omega) (Ev1.posD (by omega) (Ev1.posD (by omega) (Ev1.posD (by omega) (Ev1.bind (zd p) (Ev1.posD (by rw [hg];omega) (Ev1.posD (by omega) (Ev1.posD (by omega) ?_))))))))))));by_cases h0:p.2.2.2.2.2.2.2=0
 ·exact Ev1.posD h0 (Ev1.now _)
 ·refine Ev1.negD h0 (Ev1.const ?_);rw [MJ (show p.2.2.2.2.2.2.2=1 by omega)]
theorem Jm (g:bk)(h:sagR g)(hl:0<=g.1.2.2.2.2.2.1/\g.1.2.2.2.2.2.1<=4):Ev1 (fun k=>CF k ⟨[(false,.bool)],[]⟩ dE [inj bB g]) true:=by
 unfold sagR at h;refine Ev1.step (fun k=>xE k g _ rfl) (Ev1.negD (by omega) (Ev1.negD (by omega) (Ev1.negD (by omega) (Ev1.negD (by omega) (Ev1.negD (by omega) (Ev1.negD (by omega) ?_))))));have h2:Ev2 (fun k m=>kc k m g.1.1 g.1.2.1 g.1.2.2.1 g.1.2.2.2.1 g.1.2.2.2.2.1 g.1.2.2.2.2.2.1 g.1.2.2.2.2.2.2 g.2.1 g.2.2.1 g.2.2.2.1 g.2.2.2.2) true:=by
  refine Ev2.step (fun k m=>rM k m _ _ _ _ _ _ _ _ _ _ _) ?_;by_cases h0:g.2.1=0
  ·refine Ev2.posD h0 (Ev2.posD (by omega) (Ev2.posD (by omega) ?_));by_cases ht:g.2.2.2.1=0
   ·exact Ev2.posD ht (Ev2.now _)
   ·refine Ev2.negD ht (Ev2.const ?_);rw [MJ (show g.2.2.1 < g.1.2.2.2.2.2.1 by omega)]
  ·refine Ev2.negD h0 (Ev2.posD (by omega) (Ev2.const ?_));rw [MD (show ¬ g.2.2.2.2=0 by omega)];rfl
 exact h2.diag
end Go.Eng.Top
namespace Go.Eng.Top
open Go.RowKit Go.Eng Go.Eng.LVar Go.Eng.LChart Go.Eng.LEnt
set_option maxRecDepth 100000
theorem LP (ac : List bt) (h : ∀ (k : Nat) (h : k < ac.length), LChart.OkAt k ac[k]) (hl : ac.length ≤ 64) : ∀ (d i : Nat), i + d = ac.length → Ev2 (fun k m => bS k m ac (ac.length : Int) (i : Int)) true
  | 0, i, e => Ev2.step (fun k m => iH k m ac (ac.length : Int) (i : Int) _ rfl) (Ev2.negD (by omega) (Ev2.now _))
  | d + 1, i, e => by
    obtain ⟨h1, h2, h3, h4, h5, h6⟩ := h i (by omega)
    refine Ev2.step (fun k m => iH k m ac (ac.length : Int) (i : Int) ac[i] (gA ac i (by omega)).symm) (Ev2.posD (by omega) (Ev2.pos (ak (by omega) (by omega)) ?_))
    refine Ev2.negD (p := ac[i].1 < 0) (by omega) (Ev2.negD (p := 3 ≤ ac[i].1) (by omega) (Ev2.negD (p := 1125899906842624 < ac[i].2.1) (by omega) (Ev2.negD (p := ac[i].2.1 < -1125899906842624) (by omega) ?_)))
    refine Ev3.diag (f := fun k m m2 => gh k m m2 (i : Int) ac (ac.length : Int) (i : Int) ac[i].1 ac[i].2.1 ac[i].2.2) (Ev3.step (fun k m m2 => nE k m m2 (i : Int) ac (ac.length : Int) (i : Int) ac[i].1 ac[i].2.1 ac[i].2.2 ((i + 1 : Nat) : Int) (wnat (by omega)).symm) ?_)
    have ih := LP ac h hl d (i + 1) (by omega)
    by_cases h9 : i < 9
    · obtain ⟨q1, q2⟩ := h5 h9
      have e3 : w64 (Int.tdiv (i : Int) 3) = ((i / 3 : Nat) : Int) := by
        rw [OY (by omega), aO (by omega)]; omega
      refine Ev3.posD (by omega) (Ev3.neg ?_ (Ev3.neg ?_ (Ev3.negD (by omega) ih.drop)))
      · rw [e3, MJ q2]; rfl
      · rw [MJ q1]; rfl
    · obtain ⟨q1, q2⟩ := h6 (by omega)
      exact Ev3.negD (by omega) (Ev3.posD (by omega) (Ev3.negD (by omega) (Ev3.negD (by omega) ih.drop)))
theorem LQ (ac:List bt)(h:Rt ac):Ev1 (fun k=>CF k ⟨[(false,.bool)],[]⟩ bH [inj (.slice af) ac]) true:=by
 have lo:=h.lo;have hi:=h.hi;have h1:Ev2 (fun k m=>jl k m ac) true:=Ev2.step (fun k m=>qH k m ac) (Ev1.drop (LP ac h.ok hi ac.length 0 (by omega)).diag);exact Ev1.step (fun k=>vk k ac _ rfl) (Ev1.negD (by omega) (Ev1.negD (by omega) h1.diag))
theorem nlen {α:Type} (l:List α)(x:α)(h:l.length < 100000):w64 ((l.length:Int)+1)=((l++[x]).length:Int):=by
 rw [aO (by omega),My];simp
theorem bp (x:Int)(l:List Int):encs (x::l)=encs [x]++encs l:=by rw [<- aH];rfl
noncomputable def HK (ps:List ag)(gs:List bk)(ks:List aM)(n i:Int)(r:List Int)(now:Int)(ac:List bt)(k m:Nat):Option (ab × Bool):=match ps,gs,ks with
 | [],[],[]=>da k m n i 0 r false now ac
 | [],[],x::x2=>cg k m n i 0 r false now ac (x::x2)
 | [],g::g2,[]=>c8 k m n i 0 r false now ac (g::g2)
 | [],g::g2,x::x2=>cd k m n i 0 r false now ac (g::g2) (x::x2)
 | p::p2,[],[]=>c9 k m n i 0 r false now ac (p::p2)
 | p::p2,[],x::x2=>cf k m n i 0 r false now ac (p::p2) (x::x2)
 | p::p2,g::g2,[]=>cZ k m n i 0 r false now ac (p::p2) (g::g2)
 | p::p2,g::g2,x::x2=>ca k m n i 0 r false now ac (p::p2) (g::g2) (x::x2)
noncomputable def HG (ps:List ag)(gs:List bk)(n i:Int)(r:List Int)(now:Int)(ac:List bt)(k m:Nat):Option (ab × Bool):=match ps,gs with
 | [],[]=>dz k m n i 0 r false now ac
 | [],g::g2=>bA k m n i 0 r false now ac (g::g2)
 | p::p2,[]=>db k m n i 0 r false now ac (p::p2)
 | p::p2,g::g2=>bw k m n i 0 r false now ac (p::p2) (g::g2)
noncomputable def HP (ps:List ag)(n i:Int)(r:List Int)(now:Int)(ac:List bt)(k m:Nat):Option (ab × Bool):=match ps with
 | []=>dA k m n i 0 r false now ac
 | p::p2=>bF k m n i 0 r false now ac (p::p2)
theorem hk_l {ac:List bt} (hac:Rt ac)(now:Int)(n:Nat)(hn:n<=256):∀ (l ks:List aM)(ps:List ag)(gs:List bk),(∀ x ∈ l,I64 (knL x)/\mayB x.1=true/\okO x.2.1)->ks.length+l.length=n ->
  Ev2 (HK ps gs ks (n:Int) (ks.length:Int) (encs (l.flatMap knL)) now ac) ((ac,ps,gs,ks++l,now),true)
 | [],ks,ps,gs,_,h=>by
  have hr:=LQ ac hac;simp only [ML] at h;rw [Ns]
  match ps,gs,ks,h with
  | [],[],[],h=>exact Ev2.step (fun k m=>eC k m _ _ 0 [] false now ac) (Ev2.negD (by omega) (Ev2.neg rfl (Ev2.negD (by simp) (Ev2.bind hr (Ev2.neg rfl (Ev2.now _))))))
  | [],[],x::x2,h=>exact Ev2.step (fun k m=>eo k m _ _ 0 [] false now ac (x::x2)) (Ev2.negD (by omega) (Ev2.neg rfl (Ev2.negD (by simp) (Ev2.bind hr (Ev2.neg rfl (Ev2.now _))))))
  | [],g::g2,[],h=>exact Ev2.step (fun k m=>eu k m _ _ 0 [] false now ac (g::g2)) (Ev2.negD (by omega) (Ev2.neg rfl (Ev2.negD (by simp) (Ev2.bind hr (Ev2.neg rfl (Ev2.now _))))))
  | [],g::g2,x::x2,h=>exact Ev2.step (fun k m=>ee k m _ _ 0 [] false now ac (g::g2) (x::x2)) (Ev2.negD (by omega) (Ev2.neg rfl (Ev2.negD (by simp) (Ev2.bind hr (Ev2.neg rfl (Ev2.now _))))))
  | p::p2,[],[],h=>exact Ev2.step (fun k m=>eA k m _ _ 0 [] false now ac (p::p2)) (Ev2.negD (by omega) (Ev2.neg rfl (Ev2.negD (by simp) (Ev2.bind hr (Ev2.neg rfl (Ev2.now _))))))
  | p::p2,[],x::x2,h=>exact Ev2.step (fun k m=>ef k m _ _ 0 [] false now ac (p::p2) (x::x2)) (Ev2.negD (by omega) (Ev2.neg rfl (Ev2.negD (by simp) (Ev2.bind hr (Ev2.neg rfl (Ev2.now _))))))
  | p::p2,g::g2,[],h=>exact Ev2.step (fun k m=>eh k m _ _ 0 [] false now ac (p::p2) (g::g2)) (Ev2.negD (by omega) (Ev2.neg rfl (Ev2.negD (by simp) (Ev2.bind hr (Ev2.neg rfl (Ev2.now _))))))
  | p::p2,g::g2,x::x2,h=>exact Ev2.step (fun k m=>ed k m _ _ 0 [] false now ac (p::p2) (g::g2) (x::x2)) (Ev2.negD (by omega) (Ev2.neg rfl (Ev2.negD (by simp) (Ev2.bind hr (Ev2.neg rfl (Ev2.now _))))))
 | y::l,ks,ps,gs,hx,h=>by
  obtain ⟨q1,q2,q3⟩:=hx y (Nw ..);have ih:=fun ks' e=>hk_l hac now n hn l ks' ps gs (fun z hz=>hx z (M0 _ hz)) e
  simp only [MC] at h;have hI:I64 (l.flatMap knL):=eV fun z hz=>(hx z (M0 _ hz)).1
  have hlen:=aG hI;have hlen2:=cG knL 10 (fun _=>rfl) l;unfold knL at q1;obtain ⟨a1,a2⟩:=cy.1 q1;obtain ⟨a3,a4⟩:=cy.1 a2;have l2:=aG a3;have l3:=aG a4;simp only [MC,ML] at l2 l3;have eb:encs ((y::l).flatMap knL)=encs (rqL y.1)++(encs [y.2.1.1,y.2.1.2]++(encs [if y.2.2=true then 1 else 0]++encs (l.flatMap knL))):=by
   rw [NQ,aH];unfold knL;rw [aH,aH,M8,M8]
  rw [eb];have e1:=yI y.1 (encs [y.2.1.1,y.2.1.2]++(encs [if y.2.2=true then 1 else 0]++encs (l.flatMap knL))) a1 q2 (by simp only [My];omega);have e2:=Jo y.2.1 (encs [if y.2.2=true then 1 else 0]++encs (l.flatMap knL)) q3 (by simp only [My];omega);have e3:=bq (n:=if y.2.2=true then 1 else 0) (by cases y.2.2<;>simp) (encs (l.flatMap knL)) (by omega) (a:=0) (b:=1) (by cases y.2.2<;>simp) (by cases y.2.2<;>simp);have hd:decide ((if y.2.2=true then (1:Int) else 0)=1)=y.2.2:=by cases y.2.2<;>rfl
  have hy:(y.1,y.2.1,decide ((if y.2.2=true then (1:Int) else 0)=1))=y:=by rw [hd]
  have nl:=nlen ks y (by omega);have ih2:=ih (ks++[y]) (by simp;omega);rw [M8] at ih2;generalize (if y.2.2=true then (1:Int) else 0)=fl at e1 e2 e3 hy ⊢
  match ps,gs,ks,h,nl,ih2 with
  | [],[],[],h,nl,ih2=>exact Ev2.step (fun k m=>eC k m _ _ 0 _ false now ac) (Ev2.posD (by omega) (Ev2.bind e1 (Ev2.bind e2 (Ev2.bind e3 (Ev2.posD (by simp only [MC,ML];omega) (by rw [hy,nl];exact ih2))))))
  | [],[],x::x2,h,nl,ih2=>exact Ev2.step (fun k m=>eo k m _ _ 0 _ false now ac (x::x2)) (Ev2.posD (by omega) (Ev2.bind e1 (Ev2.bind e2 (Ev2.bind e3 (Ev2.posD (by simp only [MC] at h;simp only [MC,ML];omega) (by rw [hy,nl];exact ih2))))))
  | [],g::g2,[],h,nl,ih2=>exact Ev2.step (fun k m=>eu k m _ _ 0 _ false now ac (g::g2)) (Ev2.posD (by omega) (Ev2.bind e1 (Ev2.bind e2 (Ev2.bind e3 (Ev2.posD (by simp only [MC,ML];omega) (by rw [hy,nl];exact ih2))))))
  | [],g::g2,x::x2,h,nl,ih2=>exact Ev2.step (fun k m=>ee k m _ _ 0 _ false now ac (g::g2) (x::x2)) (Ev2.posD (by omega) (Ev2.bind e1 (Ev2.bind e2 (Ev2.bind e3 (Ev2.posD (by simp only [MC] at h;simp only [MC,ML];omega) (by rw [hy,nl];exact ih2))))))
  | p::p2,[],[],h,nl,ih2=>exact Ev2.step (fun k m=>eA k m _ _ 0 _ false now ac (p::p2)) (Ev2.posD (by omega) (Ev2.bind e1 (Ev2.bind e2 (Ev2.bind e3 (Ev2.posD (by simp only [MC,ML];omega) (by rw [hy,nl];exact ih2))))))
  | p::p2,[],x::x2,h,nl,ih2=>exact Ev2.step (fun k m=>ef k m _ _ 0 _ false now ac (p::p2) (x::x2)) (Ev2.posD (by omega) (Ev2.bind e1 (Ev2.bind e2 (Ev2.bind e3 (Ev2.posD (by simp only [MC] at h;simp only [MC,ML];omega) (by rw [hy,nl];exact ih2))))))
  | p::p2,g::g2,[],h,nl,ih2=>exact Ev2.step (fun k m=>eh k m _ _ 0 _ false now ac (p::p2) (g::g2)) (Ev2.posD (by omega) (Ev2.bind e1 (Ev2.bind e2 (Ev2.bind e3 (Ev2.posD (by simp only [MC,ML];omega) (by rw [hy,nl];exact ih2))))))
  | p::p2,g::g2,x::x2,h,nl,ih2=>exact Ev2.step (fun k m=>ed k m _ _ 0 _ false now ac (p::p2) (g::g2) (x::x2)) (Ev2.posD (by omega) (Ev2.bind e1 (Ev2.bind e2 (Ev2.bind e3 (Ev2.posD (by simp only [MC] at h;simp only [MC,ML];omega) (by rw [hy,nl];exact ih2))))))
theorem hg_l {ac:List bt} (hac:Rt ac)(now:Int)(n:Nat)(hn:n<=16)(ks:List aM)(hks:∀ x ∈ ks,I64 (knL x)/\mayB x.1=true/\okO x.2.1)(hkl:ks.length<=256):∀ (l gs:List bk)(ps:List ag),(∀ x ∈ l,I64 (sagL x)/\mayB x.1=true/\sagR x)->gs.length+l.length=n ->
  Ev2 (HG ps gs (n:Int) (gs.length:Int) (encs (l.flatMap sagL)++encs (t3 ks)) now ac) ((ac,ps,gs++l,ks,now),true)
 | [],gs,ps,_,h=>by
  simp only [ML] at h;rw [Ns];have hI:I64 (ks.flatMap knL):=eV fun z hz=>(hks z hz).1
  have hlen:=aG hI;have hlen2:=cG knL 10 (fun _=>rfl) ks;have e1:=bq (n:=(ks.length:Int)) (by omega) (encs (ks.flatMap knL)) (by omega) (a:=0) (b:=256) (by omega) (by omega);have hk:=hk_l hac now ks.length hkl ks [] ps gs hks (by simp);have eb:encs (([]:List bk).flatMap sagL)++encs (t3 ks)=encs [(ks.length:Int)]++encs (ks.flatMap knL):=by unfold t3;rw [bp (ks.length:Int) (ks.flatMap knL)];rfl
  rw [eb]
  match ps,gs,h,hk with
  | [],[],h,hk=>exact Ev2.step (fun k m=>eZ k m _ _ 0 _ false now ac _ rfl) (Ev2.negD (by omega) (Ev2.bind e1 (Ev1.drop hk.diag)))
  | [],g::g2,h,hk=>exact Ev2.step (fun k m=>eD k m _ _ 0 _ false now ac (g::g2) _ rfl) (Ev2.negD (by omega) (Ev2.bind e1 (Ev1.drop hk.diag)))
  | p::p2,[],h,hk=>exact Ev2.step (fun k m=>eE k m _ _ 0 _ false now ac (p::p2) _ rfl) (Ev2.negD (by omega) (Ev2.bind e1 (Ev1.drop hk.diag)))
  | p::p2,g::g2,h,hk=>exact Ev2.step (fun k m=>eB k m _ _ 0 _ false now ac (p::p2) (g::g2) _ rfl) (Ev2.negD (by omega) (Ev2.bind e1 (Ev1.drop hk.diag)))
 | y::l,gs,ps,hx,h=>by
  obtain ⟨q1,q2,q3⟩:=hx y (Nw ..);have ih:=fun gs' e=>hg_l hac now n hn ks hks hkl l gs' ps (fun z hz=>hx z (M0 _ hz)) e
  simp only [MC] at h;have hI:I64 (l.flatMap sagL):=eV fun z hz=>(hx z (M0 _ hz)).1
  have hlen:=aG hI;have hlen2:=cG sagL 11 (fun _=>rfl) l;have hIk:I64 (t3 ks):=aX.2 ⟨by omega,eV fun z hz=>(hks z hz).1⟩;have hlk:=aG hIk;have hlk2:=cG knL 10 (fun _=>rfl) ks;have hlk3:(t3 ks).length=1+10 * ks.length:=by unfold t3;rw [MC,hlk2];omega
  unfold sagL at q1;obtain ⟨a1,a2⟩:=cy.1 q1;have lg:=Eu q2;have e9:=Jm y q3 lg;unfold sagR at q3;have eb:encs ((y::l).flatMap sagL)++encs (t3 ks)=encs (rqL y.1)++(encs [y.2.1]++(encs [y.2.2.1]++(encs [y.2.2.2.1]++(encs [y.2.2.2.2]++(encs (l.flatMap sagL)++encs (t3 ks)))))):=by
   rw [NQ,aH];unfold sagL;rw [aH,bp,bp y.2.2.1,bp y.2.2.2.1];simp only [M8]
  rw [eb];have b1:∀ x:Int,-9223372036854775808<=x/\x<=9223372036854775807->(encs [x]).length<=10:=fun x hx=>by
   have:=aG (ns:=[x]) (aX.2 ⟨hx,by simp [I64]⟩);simpa using this
  have c1:=b1 y.2.1 (by omega);have c2:=b1 y.2.2.1 (by omega);have c3:=b1 y.2.2.2.1 (by omega);have c4:=b1 y.2.2.2.2 (by omega);have e1:=yI y.1 (encs [y.2.1]++(encs [y.2.2.1]++(encs [y.2.2.2.1]++(encs [y.2.2.2.2]++(encs (l.flatMap sagL)++encs (t3 ks)))))) a1 q2 (by simp only [My];omega);have e2:=bq (n:=y.2.1) (by omega) (encs [y.2.2.1]++(encs [y.2.2.2.1]++(encs [y.2.2.2.2]++(encs (l.flatMap sagL)++encs (t3 ks))))) (by simp only [My];omega) (a:=0) (b:=2) (by omega) (by omega);have e3:=bq (n:=y.2.2.1) (by omega) (encs [y.2.2.2.1]++(encs [y.2.2.2.2]++(encs (l.flatMap sagL)++encs (t3 ks)))) (by simp only [My];omega) (a:=0) (b:=4) (by omega) (by omega);have e4:=bq (n:=y.2.2.2.1) (by omega) (encs [y.2.2.2.2]++(encs (l.flatMap sagL)++encs (t3 ks))) (by simp only [My];omega) (a:=0) (b:=1152921504606846976) (by omega) (by omega);have e5:=bq (n:=y.2.2.2.2) (by omega) (encs (l.flatMap sagL)++encs (t3 ks)) (by simp only [My];omega) (a:=0) (b:=13) (by omega) (by omega);have nl:=nlen gs y (by omega);have ih2:=ih (gs++[y]) (by simp;omega);rw [M8] at ih2
  match ps,gs,h,nl,ih2 with
  | [],[],h,nl,ih2=>exact Ev2.step (fun k m=>eZ k m _ _ 0 _ false now ac _ rfl) (Ev2.posD (by omega) (Ev2.bind e1 (Ev2.bind e2 (Ev2.bind e3 (Ev2.bind e4 (Ev2.bind e5 (Ev2.neg rfl (Ev2.bind e9 (Ev2.posD (by simp only [MC,ML];omega) (by rw [nl];exact ih2))))))))))
  | [],g::g2,h,nl,ih2=>exact Ev2.step (fun k m=>eD k m _ _ 0 _ false now ac (g::g2) _ rfl) (Ev2.posD (by omega) (Ev2.bind e1 (Ev2.bind e2 (Ev2.bind e3 (Ev2.bind e4 (Ev2.bind e5 (Ev2.neg rfl (Ev2.bind e9 (Ev2.posD (by simp only [MC] at h;simp only [MC,ML];omega) (by rw [nl];exact ih2))))))))))
  | p::p2,[],h,nl,ih2=>exact Ev2.step (fun k m=>eE k m _ _ 0 _ false now ac (p::p2) _ rfl) (Ev2.posD (by omega) (Ev2.bind e1 (Ev2.bind e2 (Ev2.bind e3 (Ev2.bind e4 (Ev2.bind e5 (Ev2.neg rfl (Ev2.bind e9 (Ev2.posD (by simp only [MC,ML];omega) (by rw [nl];exact ih2))))))))))
  | p::p2,g::g2,h,nl,ih2=>exact Ev2.step (fun k m=>eB k m _ _ 0 _ false now ac (p::p2) (g::g2) _ rfl) (Ev2.posD (by omega) (Ev2.bind e1 (Ev2.bind e2 (Ev2.bind e3 (Ev2.bind e4 (Ev2.bind e5 (Ev2.neg rfl (Ev2.bind e9 (Ev2.posD (by simp only [MC] at h;simp only [MC,ML];omega) (by rw [nl];exact ih2))))))))))
theorem hp_l {ac:List bt} (hac:Rt ac)(now:Int)(n:Nat)(hn:n<=64)(gs:List bk)(hgs:∀ x ∈ gs,I64 (sagL x)/\mayB x.1=true/\sagR x)(hgl:gs.length<=16)(ks:List aM)(hks:∀ x ∈ ks,I64 (knL x)/\mayB x.1=true/\okO x.2.1)(hkl:ks.length<=256):∀ (l ps:List ag),(∀ x ∈ l,rJ ac.length x)->ps.length+l.length=n ->
  Ev2 (HP ps (n:Int) (ps.length:Int) (encs (l.flatMap payL)++encs (t2 gs ks)) now ac) ((ac,ps++l,gs,ks,now),true)
 | [],ps,_,h=>by
  simp only [ML] at h;rw [Ns];have hI:I64 (gs.flatMap sagL):=eV fun z hz=>(hgs z hz).1
  have hlen:=aG hI;have hlen2:=cG sagL 11 (fun _=>rfl) gs;have hIk:I64 (t3 ks):=aX.2 ⟨by omega,eV fun z hz=>(hks z hz).1⟩;have hlk:=aG hIk;have hlk2:=cG knL 10 (fun _=>rfl) ks;have hlk3:(t3 ks).length=1+10 * ks.length:=by unfold t3;rw [MC,hlk2];omega
  have e1:=bq (n:=(gs.length:Int)) (by omega) (encs (gs.flatMap sagL)++encs (t3 ks)) (by simp only [My];omega) (a:=0) (b:=16) (by omega) (by omega);have hk:=hg_l hac now gs.length hgl ks hks hkl gs [] ps hgs (by simp);have eb:encs (([]:List ag).flatMap payL)++encs (t2 gs ks)=encs [(gs.length:Int)]++(encs (gs.flatMap sagL)++encs (t3 ks)):=by unfold t2;rw [bp (gs.length:Int),aH];rfl
  rw [eb]
  match ps,h,hk with
  | [],h,hk=>exact Ev2.step (fun k m=>fb k m _ _ 0 _ false now ac _ rfl) (Ev2.negD (by omega) (Ev2.bind e1 (Ev1.drop hk.diag)))
  | p::p2,h,hk=>exact Ev2.step (fun k m=>fa k m _ _ 0 _ false now ac (p::p2) _ rfl) (Ev2.negD (by omega) (Ev2.bind e1 (Ev1.drop hk.diag)))
 | y::l,ps,hx,h=>by
  have q:=hx y (Nw ..);have q1:=q.from_;have q2:=q.to_;have q3:=q.right;have hal:=hac.hi;have e9:=JB y q3;unfold payR at q3;have ih:=fun ps' e=>hp_l hac now n hn gs hgs hgl ks hks hkl l ps' (fun z hz=>hx z (M0 _ hz)) e
  simp only [MC] at h;have hI:I64 (l.flatMap payL):=eV fun z hz=>(hx z (M0 _ hz)).i64
  have hlen:=aG hI;have hlen2:=cG payL 8 (fun _=>rfl) l;have hIk:I64 (t2 gs ks):=aX.2 ⟨by omega,cy.2 ⟨eV fun z hz=>(hgs z hz).1,aX.2 ⟨by omega,eV fun z hz=>(hks z hz).1⟩⟩⟩;have hlk:=aG hIk;have hlk1:=cG sagL 11 (fun _=>rfl) gs;have hlk2:=cG knL 10 (fun _=>rfl) ks;have hlk3:(t2 gs ks).length=2+11 * gs.length+10 * ks.length:=by unfold t2 t3;rw [MC,My,MC,hlk1,hlk2];omega
  have eb:encs ((y::l).flatMap payL)++encs (t2 gs ks)=encs [y.1]++(encs [y.2.1]++(encs [y.2.2.1]++(encs [y.2.2.2.1]++(encs [y.2.2.2.2.1]++(encs [y.2.2.2.2.2.1]++(encs [y.2.2.2.2.2.2.1]++(encs [y.2.2.2.2.2.2.2]++(encs (l.flatMap payL)++encs (t2 gs ks))))))))):=by
   rw [NQ,aH];unfold payL;rw [bp,bp y.2.1,bp y.2.2.1,bp y.2.2.2.1,bp y.2.2.2.2.1,bp y.2.2.2.2.2.1,bp y.2.2.2.2.2.2.1];simp only [M8]
  rw [eb];have b1:∀ x:Int,-9223372036854775808<=x/\x<=9223372036854775807->(encs [x]).length<=10:=fun x hx=>by
   have:=aG (ns:=[x]) (aX.2 ⟨hx,by simp [I64]⟩);simpa using this
  have c0:=b1 y.1 (by omega);have c1:=b1 y.2.1 (by omega);have c2:=b1 y.2.2.1 (by omega);have c3:=b1 y.2.2.2.1 (by omega);have c4:=b1 y.2.2.2.2.1 (by omega);have c5:=b1 y.2.2.2.2.2.1 (by omega);have c6:=b1 y.2.2.2.2.2.2.1 (by omega);have c7:=b1 y.2.2.2.2.2.2.2 (by omega);have d0:=bq (n:=y.1) (by omega) (encs [y.2.1]++(encs [y.2.2.1]++(encs [y.2.2.2.1]++(encs [y.2.2.2.2.1]++(encs [y.2.2.2.2.2.1]++(encs [y.2.2.2.2.2.2.1]++(encs [y.2.2.2.2.2.2.2]++(encs (l.flatMap payL)++encs (t2 gs ks))))))))) (by simp only [My];omega) (a:=0) (b:=64) (by omega) (by omega);have d1:=bq (n:=y.2.1) (by omega) (encs [y.2.2.1]++(encs [y.2.2.2.1]++(encs [y.2.2.2.2.1]++(encs [y.2.2.2.2.2.1]++(encs [y.2.2.2.2.2.2.1]++(encs [y.2.2.2.2.2.2.2]++(encs (l.flatMap payL)++encs (t2 gs ks)))))))) (by simp only [My];omega) (a:=0) (b:=64) (by omega) (by omega);have d2:=bq (n:=y.2.2.1) (by omega) (encs [y.2.2.2.1]++(encs [y.2.2.2.2.1]++(encs [y.2.2.2.2.2.1]++(encs [y.2.2.2.2.2.2.1]++(encs [y.2.2.2.2.2.2.2]++(encs (l.flatMap payL)++encs (t2 gs ks))))))) (by simp only [My];omega) (a:=(-1152921504606846976)) (b:=1152921504606846976) (by omega) (by omega);have d3:=bq (n:=y.2.2.2.1) (by omega) (encs [y.2.2.2.2.1]++(encs [y.2.2.2.2.2.1]++(encs [y.2.2.2.2.2.2.1]++(encs [y.2.2.2.2.2.2.2]++(encs (l.flatMap payL)++encs (t2 gs ks)))))) (by simp only [My];omega) (a:=(-1152921504606846976)) (b:=1152921504606846976) (by omega) (by omega);have d4:=bq (n:=y.2.2.2.2.1) (by omega) (encs [y.2.2.2.2.2.1]++(encs [y.2.2.2.2.2.2.1]++(encs [y.2.2.2.2.2.2.2]++(encs (l.flatMap payL)++encs (t2 gs ks))))) (by simp only [My];omega) (a:=(-1152921504606846976)) (b:=1152921504606846976) (by omega) (by omega);have d5:=bq (n:=y.2.2.2.2.2.1) (by omega) (encs [y.2.2.2.2.2.2.1]++(encs [y.2.2.2.2.2.2.2]++(encs (l.flatMap payL)++encs (t2 gs ks)))) (by simp only [My];omega) (a:=(-1152921504606846976)) (b:=1152921504606846976) (by omega) (by omega);have d6:=bq (n:=y.2.2.2.2.2.2.1) (by omega) (encs [y.2.2.2.2.2.2.2]++(encs (l.flatMap payL)++encs (t2 gs ks))) (by simp only [My];omega) (a:=(-1152921504606846976)) (b:=1152921504606846976) (by omega) (by omega);have d7:=bq (n:=y.2.2.2.2.2.2.2) (by omega) (encs (l.flatMap payL)++encs (t2 gs ks)) (by simp only [My];omega) (a:=0) (b:=1) (by omega) (by omega);have nl:=nlen ps y (by omega);have ih2:=ih (ps++[y]) (by simp;omega);rw [M8] at ih2
  match ps,h,nl,ih2 with
  | [],h,nl,ih2=>exact Ev2.step (fun k m=>fb k m _ _ 0 _ false now ac _ rfl) (Ev2.posD (by omega) (Ev2.bind d0 (Ev2.bind d1 (Ev2.bind d2 (Ev2.bind d3 (Ev2.bind d4 (Ev2.bind d5 (Ev2.bind d6 (Ev2.bind d7 (Ev2.neg rfl (Ev2.bind e9 (Ev2.posD (by simp only [MC,ML];omega) (by rw [nl];exact ih2)))))))))))))
  | p::p2,h,nl,ih2=>exact Ev2.step (fun k m=>fa k m _ _ 0 _ false now ac (p::p2) _ rfl) (Ev2.posD (by omega) (Ev2.bind d0 (Ev2.bind d1 (Ev2.bind d2 (Ev2.bind d3 (Ev2.bind d4 (Ev2.bind d5 (Ev2.bind d6 (Ev2.bind d7 (Ev2.neg rfl (Ev2.bind e9 (Ev2.posD (by simp only [MC] at h;simp only [MC,ML];omega) (by rw [nl];exact ih2)))))))))))))
theorem ha_l {all:List bt} (hac:Rt all)(now:Int)(ps:List ag)(hps:∀ x ∈ ps,rJ all.length x)(hpl:ps.length<=64)(gs:List bk)(hgs:∀ x ∈ gs,I64 (sagL x)/\mayB x.1=true/\sagR x)(hgl:gs.length<=16)(ks:List aM)(hks:∀ x ∈ ks,I64 (knL x)/\mayB x.1=true/\okO x.2.1)(hkl:ks.length<=256):∀ (l:List bt)(a:bt)(az:List bt),(a::az)++l=all ->
  Ev2 (fun k m=>cB k m (all.length:Int) ((a::az).length:Int) 0 (encs (l.flatMap acL)++encs (t1 ps gs ks)) false now (a::az)) ((all,ps,gs,ks,now),true)
 | l,a,az,h=>by
  have hal:=hac.hi;have hIk:I64 (t2 gs ks):=aX.2 ⟨by omega,cy.2 ⟨eV fun z hz=>(hgs z hz).1,aX.2 ⟨by omega,eV fun z hz=>(hks z hz).1⟩⟩⟩;have hlk:=aG hIk;have hlk1:=cG sagL 11 (fun _=>rfl) gs;have hlk2:=cG knL 10 (fun _=>rfl) ks;have hlk3:(t2 gs ks).length=2+11 * gs.length+10 * ks.length:=by unfold t2 t3;rw [MC,My,MC,hlk1,hlk2];omega
  have hI:I64 (ps.flatMap payL):=eV fun z hz=>(hps z hz).i64
  have hlp:=aG hI;have hlp2:=cG payL 8 (fun _=>rfl) ps;have hlx:(encs (t1 ps gs ks)).length<=60000:=by
   unfold t1;rw [bp,aH];have:=aG (ns:=[(ps.length:Int)]) (aX.2 ⟨by omega,by simp [I64]⟩);simp only [My,MC,ML] at this ⊢;omega
  cases l with
  | nil =>
   rw [Ns] at h;have e1:=bq (n:=(ps.length:Int)) (by omega) (encs (ps.flatMap payL)++encs (t2 gs ks)) (by simp only [My];omega) (a:=0) (b:=64) (by omega) (by omega);have hk:=hp_l hac now ps.length hpl gs hgs hgl ks hks hkl ps [] hps (by simp);rw [<- h] at hk ⊢;have eb:encs (([]:List bt).flatMap acL)++encs (t1 ps gs ks)=encs [(ps.length:Int)]++(encs (ps.flatMap payL)++encs (t2 gs ks)):=by unfold t1;rw [bp (ps.length:Int),aH];rfl
   rw [eb];exact Ev2.step (fun k m=>fc k m _ _ 0 _ false now (a::az)) (Ev2.negD (by omega) (Ev2.bind e1 (Ev1.drop hk.diag)))
  | cons y l =>
   have hlt:az.length+1 < all.length:=by rw [<- h];simp
   have hy:all[az.length+1]=y:=by subst h;simp
   obtain ⟨r1,r2,r3,r4,r5,r6⟩:=hac.ok (az.length+1) hlt;rw [hy] at r1 r2 r3 r4 r5 r6;have rh:0<=y.2.2/\y.2.2<=1125899906842624:=by
    by_cases h9:az.length+1 < 9
    ·have:=r5 h9;omega
    ·have:=r6 (by omega);omega
   have hIl:I64 (l.flatMap acL):=eV fun z hz=>Iw hac z (by rw [<- h];simp [hz])
   have hll:=aG hIl;have hll2:=cG acL 3 (fun _=>rfl) l;have hl64:l.length<=64:=by rw [<- h] at hal;simp only [My,MC] at hal;omega
   have b1:∀ x:Int,-9223372036854775808<=x/\x<=9223372036854775807->(encs [x]).length<=10:=fun x hx=>by
    have:=aG (ns:=[x]) (aX.2 ⟨hx,by simp [I64]⟩);simpa using this
   have c1:=b1 y.2.1 (by omega);have c2:=b1 y.2.2 (by omega);have eb:encs ((y::l).flatMap acL)++encs (t1 ps gs ks)=encs [y.1]++(encs [y.2.1]++(encs [y.2.2]++(encs (l.flatMap acL)++encs (t1 ps gs ks)))):=by
    rw [NQ,aH];unfold acL;rw [bp,bp y.2.1];simp only [M8]
   rw [eb];have e1:=bq (n:=y.1) (by omega) (encs [y.2.1]++(encs [y.2.2]++(encs (l.flatMap acL)++encs (t1 ps gs ks)))) (by simp only [My];omega) (a:=0) (b:=2) (by omega) (by omega);have e2:=bq (n:=y.2.1) (by omega) (encs [y.2.2]++(encs (l.flatMap acL)++encs (t1 ps gs ks))) (by simp only [My];omega) (a:=-1125899906842624) (b:=1125899906842624) (by omega) (by omega);have e3:=bq (n:=y.2.2) (by omega) (encs (l.flatMap acL)++encs (t1 ps gs ks)) (by simp only [My];omega) (a:=0) (b:=1125899906842624) (by omega) (by omega);have ih:=ha_l hac now ps hps hpl gs hgs hgl ks hks hkl l a (az++[y]) (by rw [<- h];simp);have nl:=nlen (a::az) y (by simp only [MC];omega);refine Ev2.step (fun k m=>fc k m _ _ 0 _ false now (a::az)) (Ev2.posD (by simp only [MC];omega) (Ev2.bind e1 (Ev2.bind e2 (Ev2.bind e3 (Ev2.posD (by simp only [MC,ML];omega) ?_)))));rw [nl];exact ih
 termination_by l=>l.length
theorem GX {s:ab} (h:Inv s):Ev1 (fun k=>CF k nH eH [inj BB (encs (stL s))]) (s,true):=by
 have hac:=h.op.rt;have lo:=hac.lo;have hi:=hac.hi;have hn:=h.now;have hst:=h.st;have hpl:=h.op.pl;have hgs:∀ x ∈ s.2.2.1,I64 (sagL x)/\mayB x.1=true/\sagR x:=fun x hx=>⟨h.gs x hx,h.gr x hx⟩
 have hks:∀ x ∈ s.2.2.2.1,I64 (knL x)/\mayB x.1=true/\okO x.2.1:=fun x hx=>⟨h.ks x hx,h.kr x hx⟩
 obtain ⟨ac,ps,gs,ks,now⟩:=s;have hlen:=aG (m6 hst)
 match ac,hac,lo,hi,hpl,hgs,hks,h,hst,hlen with
 | [],_,lo,_,_,_,_,_,_,_=>simp at lo
 | y::l,hac,lo,hi,hpl,hgs,hks,h,hst,hlen =>
  have hk:=ha_l hac now ps h.op.ps hpl gs hgs h.gl ks hks h.kl l y [] rfl;obtain ⟨r1,r2,r3,r4,r5,r6⟩:=hac.ok 0 (by simp);have r5:=r5 (by omega);simp only [List.getElem_cons_zero] at r1 r2 r3 r4 r5;have eb:encs (stL (y::l,ps,gs,ks,now))=encs [now]++(encs [((y::l).length:Int)]++(encs [y.1]++(encs [y.2.1]++(encs [y.2.2]++(encs (l.flatMap acL)++encs (t1 ps gs ks)))))):=by
   unfold stL;dsimp only;rw [bp,bp ((y::l).length:Int),aH,NQ,aH];unfold acL;rw [bp y.1,bp y.2.1];simp only [M8]
  have hsl:(stL (y::l,ps,gs,ks,now)).length<=5000:=by
   have e0:=cG acL 3 (fun _=>rfl) (y::l);have e1:=cG payL 8 (fun _=>rfl) ps;have e2:=cG sagL 11 (fun _=>rfl) gs;have e3:=cG knL 10 (fun _=>rfl) ks;have h3:=h.gl;have h4:=h.kl;dsimp only at h3 h4 hpl hi;simp only [stL,t1,t2,t3,MC,My];simp only [MC] at e0 hi;omega
  rw [eb] at hlen ⊢;simp only [My] at hlen;have e1:=bq (n:=now) (by dsimp only at hn;omega) (encs [((y::l).length:Int)]++(encs [y.1]++(encs [y.2.1]++(encs [y.2.2]++(encs (l.flatMap acL)++encs (t1 ps gs ks)))))) (by simp only [My];omega) (a:=0) (b:=1073741824) hn.1 hn.2;have e2:=bq (n:=((y::l).length:Int)) (by dsimp only at hi;omega) (encs [y.1]++(encs [y.2.1]++(encs [y.2.2]++(encs (l.flatMap acL)++encs (t1 ps gs ks))))) (by simp only [My];omega) (a:=0) (b:=64) (by omega) (by dsimp only at hi;omega);have e3:=bq (n:=y.1) (by omega) (encs [y.2.1]++(encs [y.2.2]++(encs (l.flatMap acL)++encs (t1 ps gs ks)))) (by simp only [My];omega) (a:=0) (b:=2) (by omega) (by omega);have e4:=bq (n:=y.2.1) (by omega) (encs [y.2.2]++(encs (l.flatMap acL)++encs (t1 ps gs ks))) (by simp only [My];omega) (a:=-1125899906842624) (b:=1125899906842624) (by omega) (by omega);have e5:=bq (n:=y.2.2) (by omega) (encs (l.flatMap acL)++encs (t1 ps gs ks)) (by simp only [My];omega) (a:=0) (b:=1125899906842624) (by omega) (by omega);have h2:Ev2 (fun k m=>eK k m ((y::l).length:Int) 0 0 (encs [y.1]++(encs [y.2.1]++(encs [y.2.2]++(encs (l.flatMap acL)++encs (t1 ps gs ks))))) false now) ((y::l,ps,gs,ks,now),true) :=
   Ev2.step (fun k m=>lJ k m _ _ 0 _ false now) (Ev2.posD (by simp only [MC];omega) (Ev2.bind e3 (Ev2.bind e4 (Ev2.bind e5 (Ev2.posD (by simp) hk)))))
  exact Ev1.step (fun k=>nN k _) (Ev1.bind e1 (Ev1.bind e2 h2.diag))
end Go.Eng.Top
namespace Go.Eng.Top
open Go.RowKit Go.Eng Go.Eng.LVar Go.Eng.LCrc Go.Eng.LFrm
set_option maxRecDepth 100000
theorem Ee (b:List Int)(hb:Byt b)(hl:b.length<=211106232532992):Ev1 (fun k=>CF k zl iZ [inj BB b]) (ans1 (rec1 b)):=by
 have h0:=byt_get hb 0;have h1:=byt_get hb 1;have h2:=byt_get hb 2;have h3:=byt_get hb 3;have h4:=byt_get hb 4;have h5:=byt_get hb 5;have hn:bY .i64 .or (w64 (w64 (b.getD 0 0) * 256)) (w64 (b.getD 1 0))=lenOf b:=by
  unfold lenOf;obtain ⟨x,hx⟩:=Nl h0.1;obtain ⟨y,hy⟩:=Nl h1.1;rw [hx] at h0;rw [hy] at h1;rw [hx,hy];rw [aO (x:=(x:Int)) (by omega),aO (x:=(y:Int)) (by omega),aO (by omega)];have:=KY x y (by omega) (by omega);rw [show ((x * 256:Nat):Int)=(x:Int) * 256 by omega] at this;rw [this];omega
 have hs:bY .u32 .or (bY .u32 .or (bY .u32 .or (w32 (w32 (b.getD 2 0) * 16777216)) (w32 (w32 (b.getD 3 0) * 65536))) (w32 (w32 (b.getD 4 0) * 256))) (w32 (b.getD 5 0))=smOf b:=by
  unfold smOf;obtain ⟨x,hx⟩:=Nl h2.1;obtain ⟨y,hy⟩:=Nl h3.1;obtain ⟨z,hz⟩:=Nl h4.1;obtain ⟨u,hu⟩:=Nl h5.1;rw [hx] at h2;rw [hy] at h3;rw [hz] at h4;rw [hu] at h5;rw [hx,hy,hz,hu];rw [Lh x y z u (by omega) (by omega) (by omega) (by omega)];omega
 have hl0:0<=lenOf b/\lenOf b<=65535:=by unfold lenOf;omega
 have e6:w64 (6+lenOf b)=6+lenOf b:=aO (by omega);refine Ev1.step (fun k=>zF k b _ rfl (lenOf b) hn.symm) ?_;rw [e6];unfold rec1;by_cases c1:b.length < 6
 ·rw [MK (.inl c1)];exact Ev1.posD (by omega) (Ev1.now _)
 ·refine Ev1.negD (by omega) (Ev1.pos (ak (by omega) (by omega)) (Ev1.pos (ak (by omega) (by omega)) ?_));by_cases c2:16384 < lenOf b
  ·rw [MK (.inr (.inl c2))];exact Ev1.posD c2 (Ev1.now _)
  ·refine Ev1.negD c2 ?_;by_cases c3:(b.length:Int) < 6+lenOf b
   ·rw [MK (.inr (.inr c3))];exact Ev1.posD c3 (Ev1.now _)
   ·rw [MG (by omega)];have e:(6+lenOf b).toNat - 6=(lenOf b).toNat:=by omega
    have hlx:((b.drop 6).take (lenOf b).toNat).length=(lenOf b).toNat:=by rw [NC,NW];omega
    refine Ev1.negD c3 (Ev2.diag (f:=fun k m=>lI k m b (lenOf b)) (Ev2.step (fun k m=>uT k m b (lenOf b) _ e6.symm ((b.drop 6).take (lenOf b).toNat) (by rw [e])) ?_));refine Ev2.pos (ak (by omega) (by omega)) (Ev2.pos (ak (by omega) (by omega)) (Ev2.pos (ak (by omega) (by omega)) (Ev2.pos (ak (by omega) (by omega)) (Ev2.pos (and2 (by omega) (by omega)) (Ev2.bind (Iq _ (by omega)) ?_)))));rw [hs];by_cases c4:oJ ((b.drop 6).take (lenOf b).toNat)=smOf b
    ·rw [MK c4];refine Ev2.neg (by rw [MJ c4];rfl) (Ev2.posD (by omega) (Ev2.const ?_));simp only [ans1,hlx];congr 3;omega
    ·rw [MG c4];exact Ev2.pos (by rw [MD c4];rfl) (Ev2.now _)
def frs (rs:List (List Int)):List Int:=rs.flatMap fr
theorem po (rs:List (List Int))(x:List Int):frs (rs++[x])=frs rs++fr x:=by simp [frs]
theorem Br (x:List Int)(rs:List (List Int)):frs (x::rs)=fr x++frs rs:=by simp [frs]
theorem J5 {rs:List (List Int)} (h:∀ r ∈ rs,Byt r):Byt (frs rs):=by
 induction rs with
 | nil=>intro x hx;cases hx
 | cons r rs ih =>
  rw [Br];exact Byt.append (Bs (h r (Nw ..))) (ih fun q hq=>h q (M0 _ hq))
def torn (t:List Int):Prop:=Byt t/\rec1 t=none
theorem oZ:torn []:=⟨fun x hx=>(by cases hx),rfl⟩
theorem GB {x:List Int} (hx:Byt x)(hl:x.length<=16384)(q:Nat)(hq:q < 6+x.length):torn ((fr x).take q):=⟨fun y hy=>Bs hx y (Oi hy),HZ x hl q hq⟩
theorem It (t:List Int)(ht:torn t):∀ (rs done:List (List Int)),(∀ r ∈ rs,Byt r/\r.length<=16384)->(∀ r ∈ done,Byt r)->(frs (done++rs)++t).length<=1000000->done.length+rs.length<=1000000 ->
  Ev2 (fun k m=>gX k m (frs (done++rs)++t) ((frs done).length:Int) done) (done++rs,((frs (done++rs)).length:Int))
 | [],done,_,hd,hl,hn=>by
  rw [Ns] at hl ⊢;have h1:=Ee t ht.1 (by rw [My] at hl;omega);rw [ht.2] at h1;have e:(frs done++t).drop (Int.toNat ((frs done).length:Int))=t:=by rw [MV,List.drop_left]
  refine Ev2.step (fun k m=>ll k m _ _ _) (Ev2.pos (and2 (by omega) (by rw [My];omega)) ?_);rw [e];exact Ev2.bind h1 (Ev2.pos rfl (Ev2.now _))
 | r::rs,done,hr,hd,hl,hn=>by
  obtain ⟨q1,q2⟩:=hr r (Nw ..);have hb:Byt (fr r++(frs rs++t)):=Byt.append (Bs q1) (Byt.append (J5 fun x hx=>(hr x (M0 _ hx)).1) ht.1);have e0:frs (done++r::rs)++t=frs done++(fr r++(frs rs++t)):=by simp [frs]
  have h1:=Ee (fr r++(frs rs++t)) hb (by rw [e0,My] at hl;omega);rw [AQ r _ q2] at h1;have ih:=It t ht rs (done++[r]) (fun x hx=>hr x (M0 _ hx)) (fun x hx=>by
   rcases MU.1 hx with hx | hx
   ·exact hd x hx
   ·rw [Na.1 hx];exact q1) (by simpa using hl) (by simp only [My,MC,ML] at hn ⊢;omega)
  rw [show done++[r]++rs=done++r::rs by simp,po,My,iJ] at ih;have e:(frs done++(fr r++(frs rs++t))).drop (Int.toNat ((frs done).length:Int))=fr r++(frs rs++t):=by rw [MV,List.drop_left]
  have hl2:(frs done).length+(6+r.length)<=1000000:=by
   rw [e0] at hl;simp only [My,iJ] at hl;omega
  refine Ev2.step (fun k m=>ll k m _ _ _) (Ev2.pos (and2 (by omega) (by rw [e0,My];omega)) ?_);rw [show (frs (done++r::rs)++t).drop (Int.toNat ((frs done).length:Int))=fr r++(frs rs++t) by rw [e0];exact e];refine Ev2.bind h1 (Ev2.neg rfl (Ev2.posD (by simp only [MC,ML] at hn ⊢;omega) ?_));simp only [ans1];rw [aO (by omega),show ((frs done).length:Int)+(6+(r.length:Int))=(((frs done).length+(6+r.length):Nat):Int) by omega];exact ih
theorem GM (rs:List (List Int))(t:List Int)(ht:torn t)(hr:∀ r ∈ rs,Byt r/\r.length<=16384)(hl:(frs rs++t).length<=1000000)(hn:rs.length<=1000000):Ev1 (fun k=>CF k oz gL [inj BB (frs rs++t)]) (rs,((frs rs).length:Int)):=by
 have h:=It t ht rs [] hr (fun r h=>by cases h) hl (by simpa using hn);exact Ev1.step (fun k=>xQ k _) h.diag
end Go.Eng.Top
namespace Go.Eng.Top
open Go.RowKit Go.Eng
set_option maxRecDepth 100000
structure OkL (L:List Int)(d:Nat):Prop where
 h:d < L.length
 lo:-1<=L.getD d 0
 hi:L.getD d 0<=1000000
structure Dg (F:List MF)(R L:List Int)(S:List Bool)(d rho:Nat):Prop where
 hd:d < F.length
 hR:R.getD d 0=(rho:Int)
 rho:rho<=262144
 L:OkL L d
 hS:d < S.length
 live:S.getD d false=false
def Nx (L L':List Int)(d:Nat):Prop:=L'.length=L.length/\(L.getD d 0=-1->L'.getD d 0=-1)
section
variable {F:List MF} {R L:List Int} {S:List Bool} {d rho:Nat} {B:List (List Int)} {sf:List Int}
theorem px (h:Dg F R L S d rho):(∃ L',OkL L' d/\Nx L L' d/\Ev1 (fun k=>CF k nG dH [inj (.ref 29) (some d),Ck L,Cl S]) (true,L',S)) \/
  (L.getD d 0 ≠ -1/\Ev1 (fun k=>CF k nG dH [inj (.ref 29) (some d),Ck L,Cl S]) (false,L,S.set d true)):=by
 have hl:=h.L;by_cases h0:L.getD d 0=0
 ·refine .inr ?_;have h2:Ev2 (fun k m=>eJ k m (some d) L (S.set d true)) (false,L,S.set d true):=by
   refine Ev2.step (fun k m=>hP k m (some d) L (S.set d true) _ rfl) (Ev2.pos rfl (Ev2.negD ?_ (Ev2.pos rfl (Ev2.const ?_))))
   ·show ¬ (0 < L.getD d 0);omega
   ·show some (!((S.set d true).getD d false),L,S.set d true)=_;rw [ah _ _ _ _ h.hS];rfl
  exact ⟨by omega,Ev1.step (fun k=>kP k (some d) L S) (Ev1.pos rfl (Ev1.posD h0 (Ev1.pos rfl h2.diag)))⟩
 ·by_cases h1:0 < L.getD d 0
  ·refine .inl ⟨L.set d (L.getD d 0 - 1),⟨by rw [MB];exact hl.h,by rw [ah _ _ _ _ hl.h];omega,by rw [ah _ _ _ _ hl.h];have:=hl.hi;omega⟩,⟨MB,fun h=>by omega⟩,?_⟩;have h2:Ev2 (fun k m=>eJ k m (some d) L S) (true,L.set d (L.getD d 0 - 1),S):=by
    refine Ev2.step (fun k m=>hP k m (some d) L S _ rfl) (Ev2.pos rfl (Ev2.posD h1 (Ev2.pos rfl (Ev2.pos rfl (Ev2.pos rfl (Ev2.const ?_))))));show some (!(S.getD d false),L.set d (w64 (L.getD d 0 - 1)),S)=_;rw [h.live,aO (by have:=hl.hi;omega)];rfl
   exact Ev1.step (fun k=>kP k (some d) L S) (Ev1.pos rfl (Ev1.negD h0 h2.diag))
  ·refine .inl ⟨L,hl,⟨rfl,fun h=>h⟩,?_⟩;have h2:Ev2 (fun k m=>eJ k m (some d) L S) (true,L,S):=by
    refine Ev2.step (fun k m=>hP k m (some d) L S _ rfl) (Ev2.pos rfl (Ev2.negD h1 (Ev2.pos rfl (Ev2.const ?_))));show some (!(S.getD d false),L,S)=_;rw [h.live];rfl
   exact Ev1.step (fun k=>kP k (some d) L S) (Ev1.pos rfl (Ev1.negD h0 h2.diag))
section
variable {M:MF} {name:Int} {b:List Int}
theorem Ae (h:Dg F R L S d rho)(hM:F.getD d []=M)(ha:allS M=true)(hs:sumL B M<=1000000)(hb:b.length<=1000000)(hf:rho < sumL B M+b.length) :
  Ev1 (fun k=>CF k gj dw [inj (.ref 29) (some d),inj (.int .i64) name,inj BB b,Ci F,Cj R,Ck L,Cl S,Ct B,Cu sf]) (some 8,F,R,L,S,B,sf):=by
 refine Ev1.step (fun k=>gm k (some d) name b F R L S B sf) (Ev1.pos rfl (Ev1.neg h.live (Ev1.bind (pz M hM ha (by omega)) (Ev1.pos rfl (Ev1.posD ?_ (Ev1.now _))))));show R.getD d 0 < w64 ((sumL B M:Int)+(b.length:Int));rw [h.hR,bN (by omega) (by omega)];omega
theorem Ac (h:Dg F R L S d rho)(hM:F.getD d []=M)(ha:allS M=true)(hs:sumL B M+b.length<=rho) {g:Nat} (hg:aL none M name=some g)(hl:(B.getD g []).length<=1000000) :
  (∃ L',OkL L' d/\Nx L L' d/\Ev1 (fun k=>CF k gj dw [inj (.ref 29) (some d),inj (.int .i64) name,inj BB b,Ci F,Cj R,Ck L,Cl S,Ct B,Cu sf]) (none,F,R,L',S,B.set g (B.getD g []++b),sf)) \/
  (L.getD d 0 ≠ -1/\Ev1 (fun k=>CF k gj dw [inj (.ref 29) (some d),inj (.int .i64) name,inj BB b,Ci F,Cj R,Ck L,Cl S,Ct B,Cu sf]) (some 12,F,R,L,S.set d true,B.set g (B.getD g []++b),sf)):=by
 have hrho:=h.rho;have hroom:¬ (R.getD d 0 < w64 ((sumL B M:Int)+(b.length:Int))):=by rw [h.hR,bN (by omega) (by omega)];omega
 rcases px h with ⟨L',hL,hll,hw⟩ | ⟨hne,hw⟩
 ·refine .inl ⟨L',hL,hll,Ev1.step (fun k=>gm k (some d) name b F R L S B sf) (Ev1.pos rfl (Ev1.neg h.live (Ev1.bind (pz M hM ha (by omega)) (Ev1.pos rfl (Ev1.negD hroom (Ev1.bind hw (Ev1.pos rfl ?_)))))))⟩;simp only [MN];rw [hM,hg];have h2:Ev2 (fun k m=>fy k m (some d) b true (some g) F R L' S B sf) (none,F,R,L',S,B.set g (B.getD g []++b),sf) :=
   Ev2.step (fun k m=>kj k m (some d) b true (some g) F R L' S B sf _ rfl _ rfl) (Ev2.pos rfl (Ev2.posD (by simp only [MN];omega) (Ev2.pos rfl (Ev2.pos (by simp) (Ev2.neg rfl (Ev2.now _))))))
  exact Ev1.neg rfl h2.diag
 ·refine .inr ⟨hne,Ev1.step (fun k=>gm k (some d) name b F R L S B sf) (Ev1.pos rfl (Ev1.neg h.live (Ev1.bind (pz M hM ha (by omega)) (Ev1.pos rfl (Ev1.negD hroom (Ev1.bind hw (Ev1.pos rfl ?_)))))))⟩;simp only [MN];rw [hM,hg];have h2:Ev2 (fun k m=>fy k m (some d) b false (some g) F R L (S.set d true) B sf) (some 12,F,R,L,S.set d true,B.set g (B.getD g []++b),sf) :=
   Ev2.step (fun k m=>kj k m (some d) b false (some g) F R L (S.set d true) B sf _ rfl _ rfl) (Ev2.pos rfl (Ev2.posD (by simp only [MN];omega) (Ev2.pos rfl (Ev2.pos (by simp) (Ev2.pos rfl (Ev2.now _))))))
  exact Ev1.neg rfl h2.diag
theorem Ad (h:Dg F R L S d rho)(hM:F.getD d []=M)(ha:allS M=true)(hs:sumL B M+b.length<=rho)(hg:aL none M name=none) :
  (∃ L',OkL L' d/\Nx L L' d/\Ev1 (fun k=>CF k gj dw [inj (.ref 29) (some d),inj (.int .i64) name,inj BB b,Ci F,Cj R,Ck L,Cl S,Ct B,Cu sf]) (none,F.set d (aR M name (some B.length)),R,L',S,B++[b],sf++[0])) \/
  (L.getD d 0 ≠ -1/\Ev1 (fun k=>CF k gj dw [inj (.ref 29) (some d),inj (.int .i64) name,inj BB b,Ci F,Cj R,Ck L,Cl S,Ct B,Cu sf]) (some 12,F.set d (aR M name (some B.length)),R,L,S.set d true,B++[b],sf++[0])):=by
 have hrho:=h.rho;have hroom:¬ (R.getD d 0 < w64 ((sumL B M:Int)+(b.length:Int))):=by rw [h.hR,bN (by omega) (by omega)];omega
 rcases px h with ⟨L',hL,hll,hw⟩ | ⟨hne,hw⟩
 ·refine .inl ⟨L',hL,hll,Ev1.step (fun k=>gm k (some d) name b F R L S B sf) (Ev1.pos rfl (Ev1.neg h.live (Ev1.bind (pz M hM ha (by omega)) (Ev1.pos rfl (Ev1.negD hroom (Ev1.bind hw (Ev1.pos rfl ?_)))))))⟩;simp only [MN];rw [hM,hg];have h2:Ev2 (fun k m=>ji k m (some d) b true B.length (F.set d (aR M name (some B.length))) R L' S (B++[[]]) (sf++[0])) (none,F.set d (aR M name (some B.length)),R,L',S,B++[b],sf++[0]):=by
   refine Ev2.step (fun k m=>mC k m (some d) b true B.length _ R L' S (B++[[]]) _ _ rfl _ rfl) ?_;rw [bh,OF _ _ (MH _),PQ];exact Ev2.posD (by simp;omega) (Ev2.pos (by simp) (Ev2.neg rfl (Ev2.now _)))
  exact Ev1.pos rfl (Ev1.pos rfl h2.diag)
 ·refine .inr ⟨hne,Ev1.step (fun k=>gm k (some d) name b F R L S B sf) (Ev1.pos rfl (Ev1.neg h.live (Ev1.bind (pz M hM ha (by omega)) (Ev1.pos rfl (Ev1.negD hroom (Ev1.bind hw (Ev1.pos rfl ?_)))))))⟩;simp only [MN];rw [hM,hg];have h2:Ev2 (fun k m=>ji k m (some d) b false B.length (F.set d (aR M name (some B.length))) R L (S.set d true) (B++[[]]) (sf++[0])) (some 12,F.set d (aR M name (some B.length)),R,L,S.set d true,B++[b],sf++[0]):=by
   refine Ev2.step (fun k m=>mC k m (some d) b false B.length _ R L (S.set d true) (B++[[]]) _ _ rfl _ rfl) ?_;rw [bh,OF _ _ (MH _),PQ];exact Ev2.posD (by simp;omega) (Ev2.pos (by simp) (Ev2.pos rfl (Ev2.now _)))
  exact Ev1.pos rfl (Ev1.pos rfl h2.diag)
end
theorem Io (h:Dg F R L S d rho) {M:MF} (hM:F.getD d []=M) {name:Int} {g:Nat} (hg:aL none M name=some g) :
  (∃ L',OkL L' d/\Nx L L' d/\Ev1 (fun k=>CF k xr mj [inj (.ref 29) (some d),inj (.int .i64) name,Ci F,Ck L,Cl S,Ct B,Cu sf]) (none,F,L',S,B,sf.set g ((B.getD g []).length:Int))) \/
  (L.getD d 0 ≠ -1/\Ev1 (fun k=>CF k xr mj [inj (.ref 29) (some d),inj (.int .i64) name,Ci F,Ck L,Cl S,Ct B,Cu sf]) (some 12,F,L,S.set d true,B,sf)):=by
 rcases px h with ⟨L',hL,hll,hw⟩ | ⟨hne,hw⟩
 ·refine .inl ⟨L',hL,hll,Ev1.step (fun k=>xT k (some d) name F L S B sf _ rfl) (Ev1.pos rfl (Ev1.pos rfl (Ev1.neg h.live ?_)))⟩;simp only [MN];rw [hM,hg];exact Ev1.neg rfl (Ev1.bind hw (Ev1.neg rfl (Ev1.pos rfl (Ev1.pos rfl (Ev1.now _)))))
 ·refine .inr ⟨hne,Ev1.step (fun k=>xT k (some d) name F L S B sf _ rfl) (Ev1.pos rfl (Ev1.pos rfl (Ev1.neg h.live ?_)))⟩;simp only [MN];rw [hM,hg];exact Ev1.neg rfl (Ev1.bind hw (Ev1.pos rfl (Ev1.now _)))
theorem GV (h:Dg F R L S d rho) {M:MF} (hM:F.getD d []=M) {name:Int} {g:Nat} (hg:aL none M name=some g) :
  (∃ L',OkL L' d/\Nx L L' d/\Ev1 (fun k=>CF k gi cP [inj (.ref 29) (some d),inj (.int .i64) name,Ci F,Ck L,Cl S]) (none,F.set d (cq M name),L',S)) \/
  (L.getD d 0 ≠ -1/\Ev1 (fun k=>CF k gi cP [inj (.ref 29) (some d),inj (.int .i64) name,Ci F,Ck L,Cl S]) (some 12,F,L,S.set d true)):=by
 rcases px h with ⟨L',hL,hll,hw⟩ | ⟨hne,hw⟩
 ·refine .inl ⟨L',hL,hll,Ev1.step (fun k=>lO k (some d) name F L S) (Ev1.pos rfl (Ev1.neg h.live (Ev1.pos rfl ?_)))⟩;simp only [MN];rw [hM,hg];exact Ev1.neg rfl (Ev1.bind hw (Ev1.neg rfl (Ev1.pos rfl (Ev1.now _))))
 ·refine .inr ⟨hne,Ev1.step (fun k=>lO k (some d) name F L S) (Ev1.pos rfl (Ev1.neg h.live (Ev1.pos rfl ?_)))⟩;simp only [MN];rw [hM,hg];exact Ev1.neg rfl (Ev1.bind hw (Ev1.pos rfl (Ev1.now _)))
theorem GU (h:Dg F R L S d rho) {M:MF} (hM:F.getD d []=M) {from_ to_:Int} {g:Nat} (hg:aL none M from_=some g) :
  (∃ L',OkL L' d/\Nx L L' d/\Ev1 (fun k=>CF k qQ jc [inj (.ref 29) (some d),inj (.int .i64) from_,inj (.int .i64) to_,Ci F,Ck L,Cl S]) (none,F.set d (aR (cq M from_) to_ (some g)),L',S)) \/
  (L.getD d 0 ≠ -1/\Ev1 (fun k=>CF k qQ jc [inj (.ref 29) (some d),inj (.int .i64) from_,inj (.int .i64) to_,Ci F,Ck L,Cl S]) (some 12,F,L,S.set d true)):=by
 rcases px h with ⟨L',hL,hll,hw⟩ | ⟨hne,hw⟩
 ·refine .inl ⟨L',hL,hll,Ev1.step (fun k=>ra k (some d) from_ to_ F L S) (Ev1.pos rfl (Ev1.pos rfl (Ev1.neg h.live ?_)))⟩;simp only [MN];rw [hM,hg];refine Ev1.neg rfl (Ev1.bind hw (Ev1.neg rfl (Ev1.pos rfl (Ev1.pos rfl ?_))));rw [ah _ _ _ _ h.hd,Qk];exact Ev1.now _
 ·refine .inr ⟨hne,Ev1.step (fun k=>ra k (some d) from_ to_ F L S) (Ev1.pos rfl (Ev1.pos rfl (Ev1.neg h.live ?_)))⟩;simp only [MN];rw [hM,hg];exact Ev1.neg rfl (Ev1.bind hw (Ev1.pos rfl (Ev1.now _)))
theorem Li {j:Nat} {jk:List Bool}:Ev1 (fun k=>CF k mF dR [inj (.ref 99) (some j),inj .err (some 8),Cs jk]) (some 8,jk) :=
 Ev1.step (fun k=>q9 k (some j) (some 8) jk) (Ev1.pos rfl (Ev1.negD (by simp) (Ev1.now _)))
theorem nK {j:Nat} {jk:List Bool}:Ev1 (fun k=>CF k mF dR [inj (.ref 99) (some j),inj .err (some 12),Cs jk]) (some 12,jk.set j true) :=
 Ev1.step (fun k=>q9 k (some j) (some 12) jk) (Ev1.pos rfl (Ev1.posD rfl (Ev1.pos rfl (Ev1.now _))))
theorem Dg.next {F':List MF} {L':List Int} (h:Dg F R L S d rho)(hF:F'.length=F.length)(hL:OkL L' d):Dg F' R L' S d rho:=⟨by rw [hF];exact h.hd,h.hR,h.rho,hL,h.hS,h.live⟩
section
variable {j:Nat} {jd:List (Option Nat)} {jk:List Bool} {M:MF} {name:Int} {b:List Int}
noncomputable abbrev lS (k j:Nat)(name:Int)(b:List Int)(F:List MF)(R L:List Int)(S:List Bool)(jd:List (Option Nat))(jk:List Bool)(B:List (List Int))(sf:List Int):=CF k HC pe [inj (.ref 99) (some j),inj (.int .i64) name,inj BB b,Ci F,Cj R,Ck L,Cl S,Co jd,Cs jk,Ct B,Cu sf]
theorem AL (h:Dg F R L S d rho)(hj:jd.getD j none=some d)(hM:F.getD d []=M)(ha:allS M=true)(hs:sumL B M<=1000000)(hb:b.length<=1000000)(hf:rho < sumL B M+b.length) :
  Ev1 (fun k=>lS k j name b F R L S jd jk B sf) (some 8,F,R,L,S,jd,jk,B,sf):=by
 refine Ev1.step (fun k=>vh k (some j) name b F R L S jd jk B sf) (Ev1.pos rfl ?_);simp only [MN];rw [hj];exact Ev1.bind (Ae h hM ha hs hb hf) (Ev1.pos rfl (Ev1.bind Li (Ev1.now _)))
theorem G0 (h:Dg F R L S d rho)(hj:jd.getD j none=some d)(hM:F.getD d []=M)(ha:allS M=true)(hs:sumL B M+b.length<=rho) {g:Nat} (hg:aL none M name=some g)(hgB:g < B.length)(hl:(B.getD g []).length<=1000000) :
  (∃ L',OkL L' d/\Nx L L' d/\Ev1 (fun k=>lS k j name b F R L S jd jk B sf) (none,F,R,L',S,jd,jk,B.set g (B.getD g []++b),sf.set g ((B.getD g []++b).length:Int))) \/
  (∃ L',OkL L' d/\Nx L L' d/\L.getD d 0 ≠ -1/\Ev1 (fun k=>lS k j name b F R L S jd jk B sf) (some 12,F,R,L',S.set d true,jd,jk.set j true,B.set g (B.getD g []++b),sf)):=by
 have e1:(B.set g (B.getD g []++b)).getD g []=B.getD g []++b:=ah _ _ _ _ hgB;have st:=fun k=>vh k (some j) name b F R L S jd jk B sf
 rcases Ac (b:=b) (sf:=sf) h hM ha hs hg hl with ⟨L1,hL1,hl1,ha1⟩ | ⟨hne,ha1⟩
 ·rcases Io (B:=B.set g (B.getD g []++b)) (sf:=sf) (h.next rfl hL1) hM hg with ⟨L2,hL2,hl2,hs2⟩ | ⟨hne,hs2⟩
  ·refine .inl ⟨L2,hL2,⟨hl2.1.trans hl1.1,fun h=>hl2.2 (hl1.2 h)⟩,Ev1.step st (Ev1.pos rfl ?_)⟩;simp only [MN];rw [hj];rw [e1] at hs2;exact Ev1.bind ha1 (Ev1.neg rfl (Ev1.pos rfl (Ev1.bind hs2 (Ev1.bind qV (Ev1.now _)))))
  ·refine .inr ⟨L1,hL1,hl1,fun h=>hne (hl1.2 h),Ev1.step st (Ev1.pos rfl ?_)⟩;simp only [MN];rw [hj];exact Ev1.bind ha1 (Ev1.neg rfl (Ev1.pos rfl (Ev1.bind hs2 (Ev1.bind nK (Ev1.now _)))))
 ·refine .inr ⟨L,h.L,⟨rfl,fun h=>h⟩,hne,Ev1.step st (Ev1.pos rfl ?_)⟩;simp only [MN];rw [hj];exact Ev1.bind ha1 (Ev1.pos rfl (Ev1.bind nK (Ev1.now _)))
theorem AK (h:Dg F R L S d rho)(hj:jd.getD j none=some d)(hM:F.getD d []=M)(ha:allS M=true)(hs:sumL B M+b.length<=rho)(hg:aL none M name=none)(hsf:sf.length=B.length) :
  (∃ L',OkL L' d/\Nx L L' d/\Ev1 (fun k=>lS k j name b F R L S jd jk B sf) (none,F.set d (aR M name (some B.length)),R,L',S,jd,jk,B++[b],sf++[(b.length:Int)])) \/
  (∃ L',OkL L' d/\Nx L L' d/\L.getD d 0 ≠ -1/\Ev1 (fun k=>lS k j name b F R L S jd jk B sf) (some 12,F.set d (aR M name (some B.length)),R,L',S.set d true,jd,jk.set j true,B++[b],sf++[0])):=by
 have e1:(B++[b]).getD B.length []=b:=bh _ _ _;have e2:(sf++[0]).set B.length (b.length:Int)=sf++[(b.length:Int)]:=by rw [<- hsf,OF _ _ (MH _),PQ];rfl
 have st:=fun k=>vh k (some j) name b F R L S jd jk B sf
 rcases Ad (b:=b) (sf:=sf) h hM ha hs hg with ⟨L1,hL1,hl1,ha1⟩ | ⟨hne,ha1⟩
 ·rcases Io (B:=B++[b]) (sf:=sf++[0]) (h.next (F':=F.set d (aR M name (some B.length))) MB hL1) (ah _ _ _ _ h.hd) (nA M name (some B.length)) with ⟨L2,hL2,hl2,hs2⟩ | ⟨hne,hs2⟩
  ·refine .inl ⟨L2,hL2,⟨hl2.1.trans hl1.1,fun h=>hl2.2 (hl1.2 h)⟩,Ev1.step st (Ev1.pos rfl ?_)⟩;simp only [MN];rw [hj];rw [e1,e2] at hs2;exact Ev1.bind ha1 (Ev1.neg rfl (Ev1.pos rfl (Ev1.bind hs2 (Ev1.bind qV (Ev1.now _)))))
  ·refine .inr ⟨L1,hL1,hl1,fun h=>hne (hl1.2 h),Ev1.step st (Ev1.pos rfl ?_)⟩;simp only [MN];rw [hj];exact Ev1.bind ha1 (Ev1.neg rfl (Ev1.pos rfl (Ev1.bind hs2 (Ev1.bind nK (Ev1.now _)))))
 ·refine .inr ⟨L,h.L,⟨rfl,fun h=>h⟩,hne,Ev1.step st (Ev1.pos rfl ?_)⟩;simp only [MN];rw [hj];exact Ev1.bind ha1 (Ev1.pos rfl (Ev1.bind nK (Ev1.now _)))
end
end
end Go.Eng.Top
namespace Go.Eng.Top
open Go.RowKit Go.Eng Go.Eng.LVar Go.Eng.LCrc Go.Eng.LFrm
set_option maxRecDepth 100000
def lenO (B:List (List Int)):Option Nat->Nat
 | none=>0
 | some g=>(B.getD g []).length
theorem cR (B:List (List Int))(g:Nat):lenO B (some g)=(B.getD g []).length:=rfl
theorem wJ (B:List (List Int)):lenO B none=0:=rfl
theorem fp (B:List (List Int))(t:Nat)(b r:Option Nat):sumL B (Mof t b r)=lenO B b+lenO B r:=by
 cases b<;>cases r<;>simp [Mof,sumL,lenO]
theorem AX (t:Nat)(b r:Option Nat)(x:Nat):aR (Mof t b r) 1 (some x)=Mof t b r++[(1,some x)]:=by
 cases b<;>cases r<;>simp only [Mof,aR,MD (ne1 t),MQ,MD (show ¬ ((0:Int)=1) by omega),NL,M7]
def fX (t:Nat)(e:Int × Option Nat):Bool:=decide (e.1=0) || decide (e.1=((2+t:Nat):Int))
theorem uK (t:Nat)(b r:Option Nat):(Mof t b r).filter (fX t)=Mof t b r:=by
 cases b<;>cases r<;>simp [Mof,fX]
theorem EN (t:Nat)(b r:Option Nat)(x:Nat):(Mof t b r++[(1,some x)]).filter (fX t)=Mof t b r:=by
 rw [List.filter_append,uK];have:fX t (1,some x)=false:=by
  unfold fX;rw [MD (show ¬ ((1:Int)=0) by omega),MD (show ¬ ((1:Int)=((2+t:Nat):Int)) by omega)];rfl
 simp [this]
structure Ah (B:List (List Int))(sf:List Int)(t:Nat)(bs:List Int)(rs:List (List Int))(p:List Int)(b r:Option Nat):Prop where
 bz:b=none ↔ t=0
 bok:∀ g,b=some g->g < B.length/\B.getD g []=fr (encs [(t:Int)]++bs)/\sf.getD g 0=((B.getD g []).length:Int)
 bl:t ≠ 0->(encs [(t:Int)]++bs).length<=16384/\Byt bs
 rok:∀ h,r=some h->h < B.length/\B.getD h []=frs rs++p/\sf.getD h 0=((frs rs).length:Int)
 rz:r=none->rs=[]/\p=[]
 ne:∀ g h,b=some g->r=some h->g ≠ h
structure JG (c:DC)(j d rho t:Nat)(bs:List Int)(rs:List (List Int)):Prop where
 dg:Dg c.F c.R c.L c.S d rho
 jd:c.jd.getD j none=some d
 jt:j < c.jt.length/\c.jt.getD j 0=(t:Int)
 jb:j < c.jb.length
 jr:j < c.jr.length/\c.jr.getD j []=rs
 jk:j < c.jk.length/\c.jk.getD j false=false
 bsf:c.sf.length=c.B.length
 files:∃ b r,c.F.getD d []=Mof t b r/\Ah c.B c.sf t bs rs [] b r
 sum:sumL c.B (c.F.getD d [])<=rho
 rcs:∀ x ∈ rs,Byt x/\x.length<=80
 tb:t<=1000000
structure DSt (c:DC)(d rho t:Nat)(bs:List Int)(rs:List (List Int))(p:List Int):Prop where
 hd:d < c.F.length
 hR:c.R.getD d 0=(rho:Int)
 rhl:rho<=262144
 hL:d < c.L.length
 hS:d < c.S.length
 stop:c.S.getD d false=true
 bsf:c.sf.length=c.B.length
 nk:nodI ((c.F.getD d []).map (·.1))=true
 ni:nodN ((c.F.getD d []).map fun e=>e.2.getD 0)=true
 l3:(c.F.getD d []).length<=3
 all:∀ e ∈ c.F.getD d [],∃ g,e.2=some g/\g < c.B.length/\(c.B.getD g []).length<=1000000/\0<=c.sf.getD g 0/\c.sf.getD g 0<=((c.B.getD g []).length:Int)
 sum:sumL c.B (c.F.getD d [])<=rho
 files:∃ b r,(c.F.getD d []).filter (fX t)=Mof t b r/\Ah c.B c.sf t bs rs p b r
 rcs:∀ x ∈ rs,Byt x/\x.length<=80
 pok:p=[]\/∃ e,p=fr e/\Byt e/\e.length<=80
 tb:t<=1000001
theorem Ah.app {B:List (List Int)} {sf:List Int} {t:Nat} {bs:List Int} {rs:List (List Int)} {p:List Int} {b r:Option Nat} (h:Ah B sf t bs rs p b r)(x:List Int)(y:Int)(hs:sf.length=B.length):Ah (B++[x]) (sf++[y]) t bs rs p b r :=
 ⟨h.bz,fun g hg=>by
  obtain ⟨q1,q2,q3⟩:=h.bok g hg;rw [ch _ _ _ q1,ch _ _ _ (by omega),My];exact ⟨by omega,q2,q3⟩,h.bl,fun g hg=>by
  obtain ⟨q1,q2,q3⟩:=h.rok g hg;rw [ch _ _ _ q1,ch _ _ _ (by omega),My];exact ⟨by omega,q2,q3⟩,h.rz,h.ne⟩
theorem AW (t:Nat)(b r:Option Nat):nodI ((Mof t b r).map (·.1))=true:=by
 have e:¬ ((0:Int)=((2+t:Nat):Int)):=ne0 t;cases b<;>cases r<;>simp only [Mof,MW,N1,nodI,NO,Od,Ob,Oe,N4,NM e]
theorem Ei (t:Nat)(b r:Option Nat)(x:Nat):nodI ((Mof t b r++[(1,some x)]:MF).map (·.1))=true:=by
 have e:¬ ((0:Int)=((2+t:Nat):Int)):=ne0 t;have e1:¬ (((2+t:Nat):Int)=1):=ne1 t;have e2:¬ ((0:Int)=1):=by omega
 cases b<;>cases r<;>simp only [Mof,NL,M7,MW,N1,nodI,NO,Od,Ob,Oe,N4,NM e,NM e1,NM e2]
theorem AU (t:Nat) {b r:Option Nat} (h:∀ g h,b=some g->r=some h->g ≠ h):nodN ((Mof t b r).map fun e=>e.2.getD 0)=true:=by
 cases b with
 | none=>cases r<;>rfl
 | some g=>cases r with
  | none=>rfl
  | some k =>
   have:=h g k rfl rfl;simp only [Mof,MW,N1,nodN,MN,NO,Od,Ob,Oe,N4,NM this]
theorem Eg (t:Nat) {b r:Option Nat} (h:∀ g h,b=some g->r=some h->g ≠ h) {x:Nat} (hb:∀ g,b=some g->g < x)(hr:∀ g,r=some g->g < x):nodN ((Mof t b r++[(1,some x)]:MF).map fun e=>e.2.getD 0)=true:=by
 cases b with
 | none=>cases r with
  | none=>rfl
  | some k =>
   have h1:k ≠ x:=by have:=hr k rfl;omega
   simp only [Mof,NL,M7,MW,N1,nodN,MN,NO,Od,Ob,Oe,N4,NM h1]
 | some g =>
  have h1:g ≠ x:=by have:=hb g rfl;omega
  cases r with
  | none=>simp only [Mof,NL,M7,MW,N1,nodN,MN,NO,Od,Ob,Oe,N4,NM h1]
  | some k =>
   have h2:=h g k rfl rfl;have h3:k ≠ x:=by have:=hr k rfl;omega
   simp only [Mof,NL,M7,MW,N1,nodN,MN,NO,Od,Ob,Oe,N4,NM h1,NM h2,NM h3]
theorem Af {t:Nat} {b r:Option Nat} {P:Nat->Prop} (hb:∀ g,b=some g->P g)(hr:∀ g,r=some g->P g):∀ e ∈ Mof t b r,∃ g,e.2=some g/\P g:=by
 intro e he;cases b with
 | none=>cases r with
  | none=>simp [Mof] at he
  | some k=>simp only [Mof,Na] at he;rw [he];exact ⟨k,rfl,hr k rfl⟩
 | some g=>cases r with
  | none=>simp only [Mof,Na] at he;rw [he];exact ⟨g,rfl,hb g rfl⟩
  | some k =>
   simp only [Mof,MO,Nf,NS] at he;rcases he with he | he
   ·rw [he];exact ⟨g,rfl,hb g rfl⟩
   ·rw [he];exact ⟨k,rfl,hr k rfl⟩
theorem Et (t:Nat)(b r:Option Nat):(Mof t b r).length<=2:=by cases b<;>cases r<;>simp [Mof]
noncomputable abbrev lT (k j:Nat)(b:List Int)(c:DC):=CF k zk iY [inj (.ref 99) (some j),inj (.slice BB) [b],Ci c.F,Cj c.R,Ck c.L,Cl c.S,Co c.jd,Cp c.jt,Cr c.jr,Cs c.jk,Ct c.B,Cu c.sf]
abbrev wm (e:Option Int)(c:DC):R12:=(e,c.F,c.R,c.L,c.S,c.jd,c.jt,c.jr,c.jk,c.B,c.sf)
theorem iC {B:List (List Int)} {t:Nat} {b r:Option Nat}:(∀ g,b=some g->(B.getD g []).length<=sumL B (Mof t b r))/\(∀ g,r=some g->(B.getD g []).length<=sumL B (Mof t b r)):=by
 rw [fp];exact ⟨fun g hg=>by rw [hg];simp [lenO],fun g hg=>by rw [hg];simp [lenO]⟩
theorem Bq (rs:List (List Int)):rs.length * 6<=(frs rs).length:=by
 induction rs with
 | nil=>simp [frs]
 | cons r rs ih=>rw [Br,My,iJ,MC];omega
theorem AH {c:DC} {j d rho t:Nat} {bs:List Int} {rs:List (List Int)} (h:JG c j d rho t bs rs):rs.length<=50000:=by
 obtain ⟨b,r,hF,hf⟩:=h.files;have hs:=h.sum;have hrho:=h.dg.rho;rw [hF] at hs;cases hr:r with
 | none=>rw [(hf.rz hr).1];simp
 | some g =>
  have h1:=(iC (B:=c.B) (t:=t) (b:=b) (r:=r)).2 g hr;rw [(hf.rok g hr).2.1,Ns] at h1;have:=Bq rs;omega
def Calm (c:DC)(d u:Nat):Prop:=c.L.getD d 0=-1/\sumL c.B (c.F.getD d [])<=u
theorem wL (c:DC) {j d rho t:Nat} {bs:List Int} {rs:List (List Int)} (h:JG c j d rho t bs rs)(b:List Int)(hb:Byt b/\b.length<=80) :
  (Ev1 (fun k=>lT k j b c) (wm (some 8) c)/\∀ u,Calm c d u->rho < u+(fr b).length) \/
  (∃ c',Ev1 (fun k=>lT k j b c) (wm none c')/\c'.jb=c.jb/\JG c' j d rho t bs (rs++[b])/\Lens c c'/\∀ u,Calm c d u->Calm c' d (u+(fr b).length)) \/
  (∃ c',Ev1 (fun k=>lT k j b c) (wm (some 12) c')/\c'.jb=c.jb/\DSt c' d rho t bs rs (fr b)/\Lens c c'/\∀ u,¬ Calm c d u):=by
 obtain ⟨b0,r,hF,hf⟩:=h.files;have hsum:=h.sum;have hrho:=h.dg.rho;have hfl:=iJ b;have htb:=h.tb;have hfew:=AH h;obtain ⟨lb,lr⟩:=iC (B:=c.B) (t:=t) (b:=b0) (r:=r);rw [hF] at hsum;have ename:w64 (2+c.jt.getD j 0)=((2+t:Nat):Int):=by rw [h.jt.2,bN (by omega) (by omega)];omega
 have hm:=EB b (by omega);rw [MG (by omega)] at hm
 -- up to the bytes' laying
 have pre:∀ R:R12,Ev2 (fun k m=>gb k m (some j) [b] [b] 1 1 (fr b) c.F c.R c.L c.S c.jd c.jt c.jr c.jk c.B c.sf) R->Ev1 (fun k=>lT k j b c) R:=fun R hR=>by
  have ha1:Ev2 (fun k m=>gb k m (some j) [b] [b] 1 0 [] c.F c.R c.L c.S c.jd c.jt c.jr c.jk c.B c.sf) R :=
   Ev2.step (fun k m=>mB k m (some j) [b] [b] 1 0 [] c.F c.R c.L c.S c.jd c.jt c.jr c.jk c.B c.sf) (Ev2.posD (by omega) (Ev2.pos rfl (Ev2.bind hm (Ev2.neg rfl (Ev2.posD (by simp only [ML];omega) hR)))))
  exact Ev1.step (fun k=>zE k (some j) [b] c.F c.R c.L c.S c.jd c.jt c.jr c.jk c.B c.sf) (Ev1.pos rfl (Ev1.neg h.jk.2 ha1.diag))
 have stp:=fun k m=>mB k m (some j) [b] [b] 1 1 (fr b) c.F c.R c.L c.S c.jd c.jt c.jr c.jk c.B c.sf
 by_cases hroom:rho < sumL c.B (Mof t b0 r)+(fr b).length
 ·refine .inl ⟨pre _ (Ev2.step stp (Ev2.negD (by omega) (Ev2.pos rfl ?_))),fun u hu=>by have:=hu.2;rw [hF] at this;omega⟩;simp only [MN];rw [ename];exact Ev2.bind (AL h.dg h.jd hF (qg t b0 r) (by omega) (by omega) hroom) (Ev2.pos rfl (Ev2.now _))
 -- behind it
 have post:∀ F' L' B' sf',Ev1 (fun k=>lS k j ((2+t:Nat):Int) (fr b) c.F c.R c.L c.S c.jd c.jk c.B c.sf) (none,F',c.R,L',c.S,c.jd,c.jk,B',sf') ->
   Ev1 (fun k=>lT k j b c) (wm none ⟨F',c.R,L',c.S,c.jd,c.jt,c.jb,c.jr.set j (rs++[b]),c.jk,B',sf'⟩):=fun F' L' B' sf' e=>by
  have hr2:∀ s2,Ev2 (fun k m=>dS k m (some j) [b] 1 1 F' c.R L' c.S c.jd c.jt s2 c.jk B' sf') (none,F',c.R,L',c.S,c.jd,c.jt,s2,c.jk,B',sf'):=fun s2 =>
   Ev2.step (fun k m=>kf k m (some j) [b] 1 1 F' c.R L' c.S c.jd c.jt s2 c.jk B' sf' _ rfl _ rfl) (Ev2.negD (by omega) (Ev2.now _))
  have hr1:Ev2 (fun k m=>dS k m (some j) [b] 1 0 F' c.R L' c.S c.jd c.jt c.jr c.jk B' sf') (none,F',c.R,L',c.S,c.jd,c.jt,c.jr.set j (rs++[b]),c.jk,B',sf') :=
   Ev2.step (fun k m=>kf k m (some j) [b] 1 0 F' c.R L' c.S c.jd c.jt c.jr c.jk B' sf' b rfl rs h.jr.2.symm) (Ev2.posD (by omega) (Ev2.pos rfl (Ev2.pos rfl (Ev2.posD (by omega) (Ev2.posD (by simp only [MC,ML];omega) (Ev2.pos rfl (Ev2.pos (by simp) (hr2 _))))))))
  refine pre _ (Ev2.step stp (Ev2.negD (by omega) (Ev2.pos rfl ?_)));simp only [MN];rw [ename];exact Ev2.bind e (Ev2.neg rfl (Ev1.drop hr1.diag))
 have crash:∀ F' L' S' jk' B' sf',Ev1 (fun k=>lS k j ((2+t:Nat):Int) (fr b) c.F c.R c.L c.S c.jd c.jk c.B c.sf) (some 12,F',c.R,L',S',c.jd,jk',B',sf') ->
   Ev1 (fun k=>lT k j b c) (wm (some 12) ⟨F',c.R,L',S',c.jd,c.jt,c.jb,c.jr,jk',B',sf'⟩):=fun F' L' S' jk' B' sf' e=>by
  refine pre _ (Ev2.step stp (Ev2.negD (by omega) (Ev2.pos rfl ?_)));simp only [MN];rw [ename];exact Ev2.bind e (Ev2.pos rfl (Ev2.now _))
 have hrec:∀ x ∈ rs++[b],Byt x/\x.length<=80:=fun x hx=>by
  rcases MU.1 hx with hx | hx
  ·exact h.rcs x hx
  ·rw [Na.1 hx];exact hb
 have hjr:j < (c.jr.set j (rs++[b])).length/\(c.jr.set j (rs++[b])).getD j []=rs++[b]:=⟨by rw [MB];exact h.jr.1,ah _ _ _ _ h.jr.1⟩
 cases hr:r with
 | some g =>
  subst hr;obtain ⟨g1,g2,g3⟩:=hf.rok g rfl;rw [Ns] at g2;have hgl:=lr g rfl;have e2:(c.B.set g (c.B.getD g []++fr b)).getD g []=frs rs++fr b:=by rw [ah _ _ _ _ g1,g2]
  have hs2:sumL (c.B.set g (c.B.getD g []++fr b)) (Mof t b0 (some g))=sumL c.B (Mof t b0 (some g))+(fr b).length:=by
   rw [fp,fp];have:lenO (c.B.set g (c.B.getD g []++fr b)) b0=lenO c.B b0:=by
    cases hb0:b0 with
    | none=>rfl
    | some g0=>rw [cR,cR,getD_set_ne _ _ _ (Ne.symm (hf.ne g0 g hb0 rfl))]
   rw [this,cR,cR,e2,g2,My];omega
  rcases G0 (b:=fr b) (jk:=c.jk) (sf:=c.sf) h.dg h.jd hF (qg t b0 (some g)) (by omega) (uF t b0 (some g)) g1 (by omega) with ⟨L',hL,hll,e⟩ | ⟨L',hL,hll,hne,e⟩
  ·refine .inr (.inl ⟨_,post _ _ _ _ e,rfl,⟨h.dg.next rfl hL,h.jd,h.jt,h.jb,hjr,h.jk,by simp only [MB];exact h.bsf,⟨b0,some g,hF,⟨hf.bz,fun g0 hg0=>?_,hf.bl,fun g0 hg0=>?_,fun hn=>(by cases hn),hf.ne⟩⟩,?_,hrec,htb⟩,⟨rfl,rfl,hll.1,rfl,rfl,rfl,rfl,MB,rfl⟩,fun u hu=>⟨hll.2 hu.1,by have:=hu.2;dsimp only at this ⊢;rw [hF] at this ⊢;rw [hs2];omega⟩⟩)
   ·obtain ⟨q1,q2,q3⟩:=hf.bok g0 hg0;have hne:=Ne.symm (hf.ne g0 g hg0 rfl);dsimp only;rw [getD_set_ne _ _ _ hne,getD_set_ne _ _ _ hne,MB];exact ⟨q1,q2,q3⟩
   ·cases hg0;dsimp only;rw [e2,MB,ah _ _ _ _ (by rw [h.bsf];exact g1),po,g2,Ns];exact ⟨g1,rfl,rfl⟩
   ·dsimp only;rw [hF,hs2];omega
  ·refine .inr (.inr ⟨_,crash _ _ _ _ _ _ e,rfl,⟨h.dg.hd,h.dg.hR,hrho,hL.h,by simp only [MB];exact h.dg.hS,ah _ _ _ _ h.dg.hS,by simp only [MB];exact h.bsf,?_,?_,?_,?_,?_,⟨b0,some g,?_,⟨hf.bz,fun g0 hg0=>?_,hf.bl,fun g0 hg0=>?_,fun hn=>(by cases hn),hf.ne⟩⟩,h.rcs,.inr ⟨b,rfl,hb⟩,by omega⟩,⟨rfl,rfl,hll.1,by simp only [MB],rfl,rfl,rfl,rfl,by simp only [MB]⟩,fun u hu=>hne hu.1⟩)
   ·dsimp only;rw [hF];exact AW t b0 (some g)
   ·dsimp only;rw [hF];exact AU t hf.ne
   ·dsimp only;rw [hF];have:=Et t b0 (some g);omega
   ·dsimp only;rw [hF];refine Af (fun g0 hg0=>?_) (fun g0 hg0=>?_)
    ·obtain ⟨q1,q2,q3⟩:=hf.bok g0 hg0;have hne:=Ne.symm (hf.ne g0 g hg0 rfl);rw [getD_set_ne _ _ _ hne,MB];have:=lb g0 hg0;exact ⟨q1,by omega,by omega,by omega⟩
    ·cases hg0;rw [e2,MB,g3,My];rw [g2] at hgl;exact ⟨g1,by omega,by omega,by omega⟩
   ·dsimp only;rw [hF,hs2];omega
   ·dsimp only;rw [hF];exact uK t b0 (some g)
   ·obtain ⟨q1,q2,q3⟩:=hf.bok g0 hg0;have hne:=Ne.symm (hf.ne g0 g hg0 rfl);dsimp only;rw [getD_set_ne _ _ _ hne,MB];exact ⟨q1,q2,q3⟩
   ·cases hg0;dsimp only;rw [e2,MB];exact ⟨g1,rfl,g3⟩
 | none =>
  subst hr;obtain ⟨z1,_⟩:=hf.rz rfl;subst z1;have hs2:sumL (c.B++[fr b]) (Mof t b0 (some c.B.length))=sumL c.B (Mof t b0 none)+(fr b).length:=by
   rw [fp,fp];have:lenO (c.B++[fr b]) b0=lenO c.B b0:=by
    cases hb0:b0 with
    | none=>rfl
    | some g0=>rw [cR,cR,ch _ _ _ (hf.bok g0 hb0).1]
   rw [this,cR,wJ,bh];omega
  have hFs:(c.F.set d (aR (Mof t b0 none) ((2+t:Nat):Int) (some c.B.length))).getD d []=Mof t b0 (some c.B.length):=by rw [ah _ _ _ _ h.dg.hd,JO]
  have hnel:∀ g h,b0=some g->some c.B.length=some h->g ≠ h:=fun g0 h0 q1 q2=>by cases q2;have:=(hf.bok g0 q1).1;omega
  rcases AK (b:=fr b) (jk:=c.jk) (sf:=c.sf) h.dg h.jd hF (qg t b0 none) (by omega) (uF t b0 none) h.bsf with ⟨L',hL,hll,e⟩ | ⟨L',hL,hll,hne,e⟩
  ·have hf2:=hf.app (fr b) ((fr b).length:Int) h.bsf;refine .inr (.inl ⟨_,post _ _ _ _ e,rfl,⟨h.dg.next MB hL,h.jd,h.jt,h.jb,hjr,h.jk,by simp only [My,MC,ML];rw [h.bsf],⟨b0,some c.B.length,hFs,⟨hf.bz,hf2.bok,hf.bl,fun g0 hg0=>?_,fun hn=>(by cases hn),hnel⟩⟩,?_,hrec,htb⟩,⟨MB,rfl,hll.1,rfl,rfl,rfl,rfl,MB,rfl⟩,fun u hu=>⟨hll.2 hu.1,by have:=hu.2;dsimp only at this ⊢;rw [hF] at this;rw [hFs,hs2];omega⟩⟩)
   ·cases hg0;dsimp only;rw [bh,aP _ _ _ h.bsf.symm,My,po];simp [frs]
   ·dsimp only;rw [hFs,hs2];omega
  ·have hf2:=hf.app (fr b) 0 h.bsf;refine .inr (.inr ⟨_,crash _ _ _ _ _ _ e,rfl,⟨by dsimp only;rw [MB];exact h.dg.hd,h.dg.hR,hrho,hL.h,by simp only [MB];exact h.dg.hS,ah _ _ _ _ h.dg.hS,by simp only [My,MC,ML];rw [h.bsf],?_,?_,?_,?_,?_,⟨b0,some c.B.length,?_,⟨hf.bz,hf2.bok,hf.bl,fun g0 hg0=>?_,fun hn=>(by cases hn),hnel⟩⟩,h.rcs,.inr ⟨b,rfl,hb⟩,by omega⟩,⟨by simp only [MB],rfl,hll.1,by simp only [MB],rfl,rfl,rfl,rfl,by simp only [MB]⟩,fun u hu=>hne hu.1⟩)
   ·dsimp only;rw [hFs];exact AW t b0 _
   ·dsimp only;rw [hFs];exact AU t hnel
   ·dsimp only;rw [hFs];have:=Et t b0 (some c.B.length);omega
   ·dsimp only;rw [hFs];refine Af (fun g0 hg0=>?_) (fun g0 hg0=>?_)
    ·obtain ⟨q1,q2,q3⟩:=hf2.bok g0 hg0;have:=lb g0 hg0;rw [ch _ _ _ (hf.bok g0 hg0).1] at q3 ⊢;exact ⟨q1,by omega,by omega,by omega⟩
    ·cases hg0;rw [bh,aP _ _ _ h.bsf.symm,My];exact ⟨by simp,by omega,by omega,by omega⟩
   ·dsimp only;rw [hFs,hs2];omega
   ·dsimp only;rw [hFs];exact uK t b0 _
   ·cases hg0;dsimp only;rw [bh,aP _ _ _ h.bsf.symm,My];simp [frs]
end Go.Eng.Top
namespace Go.Eng.Top
open Go.RowKit Go.Eng Go.Eng.LVar Go.Eng.LCrc Go.Eng.LFrm
set_option maxRecDepth 100000
theorem An (B:List (List Int)):∀ (M N:MF),sumL B (M++N)=sumL B M+sumL B N
 | [],N=>by simp [sumL]
 | e::M,N=>by
  show (B.getD (e.2.getD 0) []).length+sumL B (M++N)=((B.getD (e.2.getD 0) []).length+sumL B M)+sumL B N;rw [An B M N];omega
theorem Dv {B:List (List Int)} {x:List Int} {t:Nat} {b r:Option Nat} (hb:∀ g,b=some g->g < B.length)(hr:∀ g,r=some g->g < B.length):sumL (B++[x]) (Mof t b r)=sumL B (Mof t b r):=by
 rw [fp,fp];have e:∀ o:Option Nat,(∀ g,o=some g->g < B.length)->lenO (B++[x]) o=lenO B o:=fun o ho=>by
  cases o with
  | none=>rfl
  | some g=>rw [cR,cR,ch _ _ _ (ho g rfl)]
 rw [e b hb,e r hr]
theorem Bu {c:DC} {j d rho t:Nat} {bs:List Int} {rs:List (List Int)} (h:JG c j d rho t bs rs) {b r:Option Nat} (hF:c.F.getD d []=Mof t b r)(hf:Ah c.B c.sf t bs rs [] b r)(x:List Int)(y:Int)(hy:0<=y/\y<=(x.length:Int))(hx:sumL c.B (Mof t b r)+x.length<=rho)
  {L':List Int} {jd:List (Option Nat)} {jt:List Int} {jb:List (List Int)} {jr:List (List (List Int))} {jk:List Bool} (hL:d < L'.length) :
  DSt ⟨c.F.set d (Mof t b r++[(1,some c.B.length)]),c.R,L',c.S.set d true,jd,jt,jb,jr,jk,c.B++[x],c.sf++[y]⟩ d rho t bs rs []:=by
 have hrho:=h.dg.rho;have htb:=h.tb;have hFs:(c.F.set d (Mof t b r++[(1,some c.B.length)])).getD d []=Mof t b r++[(1,some c.B.length)]:=ah _ _ _ _ h.dg.hd;have hf2:=hf.app x y h.bsf;obtain ⟨lb,lr⟩:=iC (B:=c.B) (t:=t) (b:=b) (r:=r);have hbl:∀ g,b=some g->g < c.B.length:=fun g hg=>(hf.bok g hg).1
 have hrl:∀ g,r=some g->g < c.B.length:=fun g hg=>(hf.rok g hg).1
 refine ⟨by dsimp only;rw [MB];exact h.dg.hd,h.dg.hR,hrho,hL,by dsimp only;rw [MB];exact h.dg.hS,ah _ _ _ _ h.dg.hS,by dsimp only;rw [My,My,h.bsf];rfl,?_,?_,?_,?_,?_,⟨b,r,?_,hf2⟩,h.rcs,.inl rfl,by omega⟩
 ·dsimp only;rw [hFs];exact Ei t b r _
 ·dsimp only;rw [hFs];exact Eg t hf.ne hbl hrl
 ·dsimp only;rw [hFs,My];have:=Et t b r;simp only [MC,ML];omega
 ·dsimp only;rw [hFs];intro e he;rcases MU.1 he with he | he
  ·refine Af (P:=fun g=>g < (c.B++[x]).length/\((c.B++[x]).getD g []).length<=1000000/\0<=(c.sf++[y]).getD g 0/\(c.sf++[y]).getD g 0<=(((c.B++[x]).getD g []).length:Int)) (fun g0 hg0=>?_) (fun g0 hg0=>?_) e he
   ·obtain ⟨q1,q2,q3⟩:=hf2.bok g0 hg0;have:=lb g0 hg0;rw [ch _ _ _ (hbl g0 hg0)] at q3 ⊢;exact ⟨q1,by omega,by omega,by omega⟩
   ·obtain ⟨q1,q2,q3⟩:=hf2.rok g0 hg0;have:=lr g0 hg0;rw [ch _ _ _ (hrl g0 hg0)] at q2 ⊢;rw [Ns] at q2;rw [q3,q2] at *;exact ⟨q1,by omega,by omega,by omega⟩
  ·rw [Na.1 he];refine ⟨c.B.length,rfl,by simp,?_⟩;rw [bh,aP _ _ _ h.bsf.symm];exact ⟨by omega,by omega,by omega⟩
 ·dsimp only;rw [hFs,An,Dv hbl hrl];simp only [sumL,MN];rw [bh];omega
 ·dsimp only;rw [hFs];exact EN t b r _
noncomputable abbrev jv (k j:Nat)(b:List Int)(c:DC):=CF k Fi p9 [inj (.ref 99) (some j),inj BB b,Ci c.F,Cj c.R,Ck c.L,Cl c.S,Co c.jd,Cp c.jt,Cq c.jb,Cr c.jr,Cs c.jk,Ct c.B,Cu c.sf]
abbrev iU (e:Option Int)(c:DC):R11:=(e,c.F,c.R,c.L,c.S,c.jd,c.jt,c.jb,c.jr,c.jk,c.B,c.sf)
theorem JV (c:DC) {j d rho t:Nat} {bs:List Int} {rs:List (List Int)} (h:JG c j d rho t bs rs)(b:List Int)(hb:Byt b/\b.length<=1000000)(ht:t < 1000000) :
  (∃ e,(e=13/\16384 < (encs [((t+1:Nat):Int)]++b).length\/e=8)/\Ev1 (fun k=>jv k j b c) (iU (some e) c)) \/
  (∃ c',Ev1 (fun k=>jv k j b c) (iU none c')/\JG c' j d rho (t+1) b []/\Lens c c') \/
  (∃ c',Ev1 (fun k=>jv k j b c) (iU (some 12) c')/\(DSt c' d rho t bs rs []\/DSt c' d rho (t+1) b [] [])/\Lens c c'):=by
 obtain ⟨b0,r,hF,hf⟩:=h.files;have hsum:=h.sum;have hrho:=h.dg.rho;rw [hF] at hsum;have e1:w64 (c.jt.getD j 0+1)=((t+1:Nat):Int):=by rw [h.jt.2,bN (by omega) (by omega)];omega
 have e2:w64 (2+c.jt.getD j 0)=((2+t:Nat):Int):=by rw [h.jt.2,bN (by omega) (by omega)];omega
 have hi:I64 [((t+1:Nat):Int)]:=by simp [I64];omega
 have hl:=aG hi;simp only [MC,ML] at hl;have hbyt:Byt (encs [((t+1:Nat):Int)]++b):=Byt.append (mJ _) hb.1;have hm:=EB (encs [((t+1:Nat):Int)]++b) (by rw [My];omega);have st:=fun k=>FG k (some j) b c.F c.R c.L c.S c.jd c.jt c.jb c.jr c.jk c.B c.sf _ rfl _ rfl _ rfl _ rfl _ rfl _ rfl
 by_cases hbig:16384 < (encs [((t+1:Nat):Int)]++b).length
 ·rw [MK hbig] at hm;refine .inl ⟨13,.inl ⟨rfl,hbig⟩,Ev1.step st (Ev1.pos rfl (Ev1.neg h.jk.2 (Ev1.pos rfl ?_)))⟩;simp only [MN];rw [e1];exact Ev1.bind (iO _ hi (by simp)) (Ev1.posD (by omega) (Ev1.bind hm (Ev1.pos rfl (Ev1.now _))))
 rw [MG hbig] at hm;have hfl:=iJ (encs [((t+1:Nat):Int)]++b);have hxe:fr (encs [((t+1:Nat):Int)]++b)=fr (encs [((t+1:Nat):Int)]++b):=rfl;generalize hx:fr (encs [((t+1:Nat):Int)]++b)=x at hm hfl
 -- up to the bytes' laying
 by_cases hroom:rho < sumL c.B (Mof t b0 r)+x.length
 ·refine .inl ⟨8,.inr rfl,Ev1.step st (Ev1.pos rfl (Ev1.neg h.jk.2 (Ev1.pos rfl ?_)))⟩;simp only [MN];rw [e1];exact Ev1.bind (iO _ hi (by simp)) (Ev1.posD (by omega) (Ev1.bind hm (Ev1.neg rfl (Ev1.bind (AL (b:=x) h.dg h.jd hF (qg t b0 r) (by omega) (by omega) hroom) (Ev1.pos rfl (Ev1.now _))))))
 rcases AK (b:=x) (jk:=c.jk) (sf:=c.sf) h.dg h.jd hF (qg t b0 r) (by omega) (JP t b0 r) h.bsf with ⟨L1,hL1,hl1,ep⟩ | ⟨L1,hL1,hl1,_,ep⟩
 rotate_left
 ·refine .inr (.inr ⟨⟨c.F.set d (Mof t b0 r++[(1,some c.B.length)]),c.R,L1,c.S.set d true,c.jd,c.jt,c.jb,c.jr,c.jk.set j true,c.B++[x],c.sf++[0]⟩,Ev1.step st (Ev1.pos rfl (Ev1.neg h.jk.2 (Ev1.pos rfl ?_))),.inl (Bu h hF hf x 0 ⟨Py _,by omega⟩ (by omega) hL1.h),⟨MB,rfl,hl1.1,MB,rfl,rfl,rfl,rfl,MB⟩⟩);simp only [MN];rw [e1];rw [AX] at ep;exact Ev1.bind (iO _ hi (by simp)) (Ev1.posD (by omega) (Ev1.bind hm (Ev1.neg rfl (Ev1.bind ep (Ev1.pos rfl (Ev1.now _))))))
 have d1:Dg (c.F.set d (aR (Mof t b0 r) 1 (some c.B.length))) c.R L1 c.S d rho:=h.dg.next MB hL1;have hF1:(c.F.set d (aR (Mof t b0 r) 1 (some c.B.length))).getD d []=aR (Mof t b0 r) 1 (some c.B.length):=ah _ _ _ [] h.dg.hd;rcases GU d1 hF1 (from_:=1) (to_:=0) (nA (Mof t b0 r) 1 (some c.B.length)) with ⟨L2,hL2,hl2,er⟩ | ⟨_,er⟩
 rotate_left
 ·refine .inr (.inr ⟨⟨c.F.set d (Mof t b0 r++[(1,some c.B.length)]),c.R,L1,c.S.set d true,c.jd,c.jt,c.jb,c.jr,c.jk.set j true,c.B++[x],c.sf++[(x.length:Int)]⟩,Ev1.step st (Ev1.pos rfl (Ev1.neg h.jk.2 (Ev1.pos rfl ?_))),.inl (Bu h hF hf x (x.length:Int) ⟨by omega,Py _⟩ (by omega) hL1.h),⟨MB,rfl,hl1.1,MB,rfl,rfl,rfl,rfl,MB⟩⟩);simp only [MN];rw [e1,e2];rw [<- AX];refine Ev1.bind (iO _ hi (by simp)) (Ev1.posD (by omega) (Ev1.bind hm (Ev1.neg rfl (Ev1.bind ep (Ev1.neg rfl (Ev1.pos rfl ?_))))));simp only [];rw [h.jd];exact Ev1.bind er (Ev1.pos rfl (Ev1.bind nK (Ev1.now _)))
 -- it is the snapshot now
 have hbl:∀ g,b0=some g->g < c.B.length:=fun g hg=>(hf.bok g hg).1
 have hrl:∀ g,r=some g->g < c.B.length:=fun g hg=>(hf.rok g hg).1
 have oA:∀ (R:R11) (M2:MF),aR (cq (aR (Mof t b0 r) 1 (some c.B.length)) 1) 0 (some c.B.length)=M2 ->
   Ev1 (fun k=>((CF k qR fV [inj (.ref 29) (some d),inj (.int .i64) ((2+t:Nat):Int),Ci ((c.F.set d (aR (Mof t b0 r) 1 (some c.B.length))).set d M2),Ct (c.B++[x])]).bind fun r_4 =>
    (bif r_4.2.1 then (bif (some j).isSome then ((CF k gi cP [inj (.ref 29) (some d),inj (.int .i64) ((2+t:Nat):Int),Ci r_4.2.2.1,Ck L2,Cl c.S]).bind fun r_5 =>
     ((CF k mF dR [inj (.ref 99) (some j),inj .err r_5.1,Cs c.jk]).bind fun r_6 =>
      some (r_6.1,r_5.2.1,c.R,r_5.2.2.1,r_5.2.2.2,c.jd,c.jt.set j ((t+1:Nat):Int),c.jb.set j b,c.jr.set j [],r_6.2,r_4.2.2.2,c.sf++[(x.length:Int)]))) else none)
     else some (none,r_4.2.2.1,c.R,L2,c.S,c.jd,c.jt.set j ((t+1:Nat):Int),c.jb.set j b,c.jr.set j [],c.jk,r_4.2.2.2,c.sf++[(x.length:Int)])):Option R11)) R ->
   Ev1 (fun k=>jv k j b c) R:=fun R M2 hM2 hR=>by
  subst hM2;refine Ev1.step st (Ev1.pos rfl (Ev1.neg h.jk.2 (Ev1.pos rfl ?_)));simp only [MN];rw [e1,e2];refine Ev1.bind (iO _ hi (by simp)) (Ev1.posD (by omega) (Ev1.bind hm (Ev1.neg rfl (Ev1.bind ep (Ev1.neg rfl (Ev1.pos rfl ?_))))));simp only [];rw [h.jd];exact Ev1.bind er (Ev1.neg rfl (Ev1.pos rfl (Ev1.pos rfl (Ev1.pos rfl (Ev1.posD (by omega) (Ev1.pos rfl (Ev1.pos rfl (Ev1.pos rfl hR))))))))
 -- done
 have files1:Ah (c.B++[x]) (c.sf++[(x.length:Int)]) (t+1) b [] [] (some c.B.length) none:=by
  refine ⟨by simp,fun g hg=>?_,fun _=>⟨by omega,hb.1⟩,fun g hg=>(by cases hg),fun _=>⟨rfl,rfl⟩,fun _ _ _ hg=>(by cases hg)⟩;cases hg;rw [bh,aP _ _ _ h.bsf.symm,My];exact ⟨by simp,hx.symm,rfl⟩
 have done:∀ F3 L3,F3.length=c.F.length->OkL L3 d->L3.length=c.L.length->F3.getD d []=Mof (t+1) (some c.B.length) none ->
   JG ⟨F3,c.R,L3,c.S,c.jd,c.jt.set j ((t+1:Nat):Int),c.jb.set j b,c.jr.set j [],c.jk,c.B++[x],c.sf++[(x.length:Int)]⟩ j d rho (t+1) b []:=fun F3 L3 q1 q2 q3 q4=>by
  refine ⟨h.dg.next q1 q2,h.jd,⟨by rw [MB];exact h.jt.1,ah _ _ _ _ h.jt.1⟩,by dsimp only;rw [MB];exact h.jb,⟨by rw [MB];exact h.jr.1,ah _ _ _ _ h.jr.1⟩,h.jk,by dsimp only;rw [My,My,h.bsf];rfl,⟨some c.B.length,none,q4,files1⟩,?_,fun x hx=>(by cases hx),by omega⟩;dsimp only;rw [q4,fp,cR,wJ,bh];omega
 cases r with
 | none =>
  have hset:((c.F.set d (aR (Mof t b0 none) 1 (some c.B.length))).set d [(0,some c.B.length)]).getD d []=([(0,some c.B.length)]:MF):=ah _ _ _ [] (by rw [MB];exact h.dg.hd);refine .inr (.inl ⟨_,oA _ _ (uE t b0 none c.B.length) (Ev1.bind (pN hset ?_) (Ev1.neg rfl (Ev1.now (iU none ⟨_,c.R,L2,c.S,c.jd,c.jt.set j ((t+1:Nat):Int),c.jb.set j b,c.jr.set j [],c.jk,c.B++[x],c.sf++[(x.length:Int)]⟩)))),done _ _ (by simp) hL2 (hl2.1.trans hl1.1) hset,⟨by simp,rfl,hl2.1.trans hl1.1,rfl,rfl,MB,MB,MB,rfl⟩⟩);simp only [aL,MD (ne0 t),MQ]
 | some g =>
  have hg:=hf.rok g rfl;have hgl:=(iC (B:=c.B) (t:=t) (b:=b0) (r:=some g)).2 g rfl;have hgl2:((c.B++[x]).getD g []).length<=1000000:=by rw [ch _ _ _ hg.1];omega
  have key:∀ M2:MF,aR (cq (aR (Mof t b0 (some g)) 1 (some c.B.length)) 1) 0 (some c.B.length)=M2->aL none M2 ((2+t:Nat):Int)=some g->cq M2 ((2+t:Nat):Int)=Mof (t+1) (some c.B.length) none ->
    nodI (M2.map (·.1))=true->nodN (M2.map fun e=>e.2.getD 0)=true->M2.length=2->(∀ e ∈ M2,e.2=some c.B.length\/e.2=some g)->sumL (c.B++[x]) M2=x.length+(c.B.getD g []).length->M2.filter (fX (t+1))=Mof (t+1) (some c.B.length) none ->
    (∃ c',Ev1 (fun k=>jv k j b c) (iU none c')/\JG c' j d rho (t+1) b []/\Lens c c') \/
    (∃ c',Ev1 (fun k=>jv k j b c) (iU (some 12) c')/\(DSt c' d rho t bs rs []\/DSt c' d rho (t+1) b [] [])/\Lens c c'):=fun M2 hM2 k1 k2 k3 k4 k5 k6 k7 k8=>by
   have hset:((c.F.set d (aR (Mof t b0 (some g)) 1 (some c.B.length))).set d M2).getD d []=M2:=ah _ _ _ [] (by rw [MB];exact h.dg.hd);have d2:Dg ((c.F.set d (aR (Mof t b0 (some g)) 1 (some c.B.length))).set d M2) c.R L2 c.S d rho:=h.dg.next (by simp) hL2;rcases GV d2 hset k1 with ⟨L3,hL3,hl3,em⟩ | ⟨_,em⟩
   ·refine .inl ⟨_,oA _ M2 hM2 (Ev1.bind (jQ hset k1 hgl2) (Ev1.pos rfl (Ev1.pos rfl (Ev1.bind em (Ev1.bind qV (Ev1.now (iU none ⟨_,c.R,L3,c.S,c.jd,c.jt.set j ((t+1:Nat):Int),c.jb.set j b,c.jr.set j [],c.jk,c.B++[x],c.sf++[(x.length:Int)]⟩))))))),done _ _ (by simp) hL3 (hl3.1.trans (hl2.1.trans hl1.1)) ?_,⟨by simp,rfl,hl3.1.trans (hl2.1.trans hl1.1),rfl,rfl,MB,MB,MB,rfl⟩⟩;rw [ah _ _ _ _ d2.hd,k2]
   ·refine .inr ⟨_,oA _ M2 hM2 (Ev1.bind (jQ hset k1 hgl2) (Ev1.pos rfl (Ev1.pos rfl (Ev1.bind em (Ev1.bind nK (Ev1.now (iU (some 12) ⟨_,c.R,L2,c.S.set d true,c.jd,c.jt.set j ((t+1:Nat):Int),c.jb.set j b,c.jr.set j [],c.jk.set j true,c.B++[x],c.sf++[(x.length:Int)]⟩))))))),.inr ?_,⟨by simp,rfl,hl2.1.trans hl1.1,MB,rfl,MB,MB,MB,MB⟩⟩;refine ⟨d2.hd,h.dg.hR,hrho,hL2.h,by dsimp only;rw [MB];exact h.dg.hS,ah _ _ _ _ h.dg.hS,by dsimp only;rw [My,My,h.bsf];rfl,by dsimp only;rw [hset];exact k3,by dsimp only;rw [hset];exact k4,by dsimp only;rw [hset];omega,?_,?_,⟨some c.B.length,none,by dsimp only;rw [hset];exact k8,files1⟩,fun x hx=>(by cases hx),.inl rfl,by omega⟩
    ·dsimp only;rw [hset];intro e he;rcases k6 e he with q | q
     ·refine ⟨_,q,by rw [My];simp,?_⟩;rw [bh,aP _ _ _ h.bsf.symm];exact ⟨by omega,by omega,Py _⟩
     ·refine ⟨_,q,by rw [My];have:=hg.1;omega,hgl2,?_⟩;rw [ch _ _ _ hg.1,ch _ _ _ (by rw [h.bsf];exact hg.1),hg.2.2,hg.2.1,Ns];exact ⟨by omega,Py _⟩
    ·dsimp only;rw [hset,k7];rw [fp,cR] at hroom;omega
  have hgne:g ≠ c.B.length:=by have:=hg.1;omega
  have hz:fX (t+1) (((2+t:Nat):Int),some g)=false:=by
   unfold fX;rw [MD (ne2 t),MD (show ¬ (((2+t:Nat):Int)=((2+(t+1):Nat):Int)) by omega)];rfl
  have hk0:fX (t+1) (0,some c.B.length)=true:=by unfold fX;rw [MJ rfl];rfl
  have e01:¬ ((0:Int)=((2+t:Nat):Int)):=ne0 t;have e10:¬ (((2+t:Nat):Int)=(0:Int)):=ne2 t;cases b0 with
  | none =>
   refine .inr (key [(((2+t:Nat):Int),some g),(0,some c.B.length)] (uE t none (some g) c.B.length) (by simp only [aL,N2,ME]) (by simp only [cq,N2,ME,Mof]) ?_ ?_ rfl (fun e he=>?_) ?_ ?_)
   ·simp only [MW,N1,nodI,NO,Od,Ob,Oe,N4,NM e10]
   ·simp only [MW,N1,nodN,MN,NO,Od,Ob,Oe,N4,NM hgne]
   ·simp only [MO,Nf,NS] at he;rcases he with he | he
    ·rw [he];exact .inr rfl
    ·rw [he];exact .inl rfl
   ·simp only [sumL,MN];rw [bh,ch _ _ _ hg.1];omega
   ·rw [N6,hz,N6,hk0];rfl
  | some g0 =>
   refine .inr (key [(0,some c.B.length),(((2+t:Nat):Int),some g)] (uE t (some g0) (some g) c.B.length) (by simp only [aL,MD e01,MQ,N2,ME]) (by simp only [cq,MD e01,MQ,N2,ME,Mof]) ?_ ?_ rfl (fun e he=>?_) ?_ ?_)
   ·simp only [MW,N1,nodI,NO,Od,Ob,Oe,N4,NM e01]
   ·simp only [MW,N1,nodN,MN,NO,Od,Ob,Oe,N4,NM hgne.symm]
   ·simp only [MO,Nf,NS] at he;rcases he with he | he
    ·rw [he];exact .inl rfl
    ·rw [he];exact .inr rfl
   ·simp only [sumL,MN];rw [bh,ch _ _ _ hg.1];omega
   ·rw [N6,hk0,N6,hz];rfl
end Go.Eng.Top
