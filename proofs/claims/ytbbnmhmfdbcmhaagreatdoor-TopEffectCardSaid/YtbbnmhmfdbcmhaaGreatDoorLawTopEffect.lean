/- Proved: the given statement TopEffect, out of its pure law and the machine's soundness. Conditions: the statement's own, no more. -/
import Derived.Test.YtbbnmhmfdbcmhaaGreatDoorRows
import Derived.Test.YtbbnmhmfdbcmhaaGreatDoorF8
import Derived.Test.YtbbnmhmfdbcmhaaGreatDoorF6
import Derived.Test.YtbbnmhmfdbcmhaaGreatDoorTie
import Derived.Test.YtbbnmhmfdbcmhaaGreatDoorCards
import Derived.SevenTiedAt
import Derived.WalkKit
import Derived.ProofKit
import Derived.OpenShut
import Derived.ShutString
import Derived.ChangeOld
import Derived.Below
import Derived.SizedLaws
import Derived.Lib.SmallJoins
set_option linter.all false
set_option linter.unusedVariables false
set_option linter.unusedSimpArgs false
set_option linter.deprecated false
namespace Go.Proofs.YtbbnmhmfdbcmhaaGreatDoor.topEffect
open Go.ChangeShapes Go.WideShapes Go.ChangeAt Go.RowKit Go.Joins Go.Eng Go.Eng.Top
open Go.ChangeMaps (open_string shut_string)
open Go.Proofs.YtbbnmhmfdbcmhaaGreatDoorW
theorem own:ownKnob Tryz.prog.godebug=none:=by kernel_rfl
theorem laidOut:laidOutB Tryz.prog=true:=by kernel_rfl
def cos0:List CoD:=[coE 26 0 .dat (.ref 29),coE 26 1 .dat (.ref 30),coE 26 2 .own (.slice (.strct (.prod (.strct (.prod (.int .i64) (.prod (.int .i64) (.prod (.int .i64) (.prod (.int .i64) (.prod (.int .i64) (.prod (.int .i64) (.int .i64)))))))) (.strct (.prod (.int .i64) (.int .i64)))))),coE 26 3 .own (.slice (.strct (.prod (.int .i64) (.prod (.strct (.prod (.int .i64) (.prod (.int .i64) (.prod (.int .i64) (.prod (.int .i64) (.prod (.int .i64) (.prod (.int .i64) (.int .i64)))))))) (.prod (.int .i64) .bool))))),coE 26 4 .dat (.int .i64),coE 26 5 .dat .err,coE 26 6 .dat (.strct (.prod (.slice (.strct (.prod (.int .i64) (.prod (.int .i64) (.int .i64))))) (.prod (.slice (.strct (.prod (.int .i64) (.prod (.int .i64) (.prod (.int .i64) (.prod (.int .i64) (.prod (.int .i64) (.prod (.int .i64) (.prod (.int .i64) (.int .i64)))))))))) (.prod (.slice (.strct (.prod (.strct (.prod (.int .i64) (.prod (.int .i64) (.prod (.int .i64) (.prod (.int .i64) (.prod (.int .i64) (.prod (.int .i64) (.int .i64)))))))) (.prod (.int .i64) (.prod (.int .i64) (.prod (.int .i64) (.int .i64))))))) (.prod (.slice (.strct (.prod (.strct (.prod (.int .i64) (.prod (.int .i64) (.prod (.int .i64) (.prod (.int .i64) (.prod (.int .i64) (.prod (.int .i64) (.int .i64)))))))) (.prod (.strct (.prod (.int .i64) (.int .i64))) .bool)))) (.int .i64)))))),coE 26 11 .own (.slice (.strct (.prod (.int .i64) (.prod (.strct (.prod (.int .i64) (.prod (.int .i64) (.prod (.int .i64) (.prod (.int .i64) (.prod (.int .i64) (.prod (.int .i64) (.int .i64)))))))) (.prod (.int .i64) .bool))))),coE 29 0 .mp (.slice (.prod (.int .i64) (.ref 219))),coE 29 1 .dat (.int .i64),coE 29 2 .dat (.int .i64),coE 29 3 .dat .bool,coE 30 0 .dat (.ref 99),coE 30 1 .dat (.strct (.prod (.slice (.strct (.prod (.int .i64) (.prod (.int .i64) (.int .i64))))) (.prod (.slice (.strct (.prod (.int .i64) (.prod (.int .i64) (.prod (.int .i64) (.prod (.int .i64) (.prod (.int .i64) (.prod (.int .i64) (.prod (.int .i64) (.int .i64)))))))))) (.prod (.slice (.strct (.prod (.strct (.prod (.int .i64) (.prod (.int .i64) (.prod (.int .i64) (.prod (.int .i64) (.prod (.int .i64) (.prod (.int .i64) (.int .i64)))))))) (.prod (.int .i64) (.prod (.int .i64) (.prod (.int .i64) (.int .i64))))))) (.prod (.slice (.strct (.prod (.strct (.prod (.int .i64) (.prod (.int .i64) (.prod (.int .i64) (.prod (.int .i64) (.prod (.int .i64) (.prod (.int .i64) (.int .i64)))))))) (.prod (.strct (.prod (.int .i64) (.int .i64))) .bool)))) (.int .i64)))))),coE 99 0 .dat (.ref 29),coE 99 1 .dat (.int .i64),coE 99 2 .dat (.slice (.int .u8)),coE 99 3 .own (.slice (.slice (.int .u8))),coE 99 4 .dat .bool,coE 219 0 .own (.slice (.int .u8)),coE 219 1 .dat (.int .i64)]
def W0:WC:=⟨[],[],[],[],[],[],[],[],[],[],⟨[],[],[],[],[],[],[],[],[],[],[]⟩⟩
theorem al0:Al W0:=⟨rfl,rfl,rfl,rfl,rfl,rfl,rfl,rfl,rfl,rfl,rfl,rfl,rfl,rfl⟩
theorem byt_of {l:List Int}(h:∀x∈l,(Lit.int .u8 x).wf=true):Byt l:=λx hx=>by have:=L5 (h x hx);omega
set_option maxHeartbeats 1000000 in
theorem hlay0:∀t,wQ (Go.Eng.Top.A.man t):=by
 intro t;show wQ (aMan t);unfold aMan;split<;>(unfold wQ;simp only[List.mem_cons,List.not_mem_nil,or_false,forall_eq_or_imp,forall_eq];refine⟨?_,?_⟩<;>(repeat' apply And.intro)<;>first|decide|exact .inl rfl|exact .inr (.inl (by decide))|exact .inr (.inr (by decide))|(intro a h;cases h))
theorem hnod0:(cos0.map (·.cid)).Nodup:=by decide
theorem hcos0:∀d∈cos0,d.xs=[]/\d.cid=aX d.t d.off/\(d.off,d.m,d.k)∈Go.Eng.Top.A.man d.t:=by
 intro d hd;simp only[cos0,List.mem_cons,List.not_mem_nil,or_false]at hd;rcases hd with rfl|rfl|rfl|rfl|rfl|rfl|rfl|rfl|rfl|rfl|rfl|rfl|rfl|rfl|rfl|rfl|rfl|rfl|rfl|rfl|rfl<;>refine⟨rfl,rfl,?_⟩<;>(first|exact List.Mem.head _|exact List.Mem.tail _ (List.Mem.head _)|exact List.Mem.tail _ (List.Mem.tail _ (List.Mem.head _))|exact List.Mem.tail _ (List.Mem.tail _ (List.Mem.tail _ (List.Mem.head _)))|exact List.Mem.tail _ (List.Mem.tail _ (List.Mem.tail _ (List.Mem.tail _ (List.Mem.head _))))|exact List.Mem.tail _ (List.Mem.tail _ (List.Mem.tail _ (List.Mem.tail _ (List.Mem.tail _ (List.Mem.head _)))))|exact List.Mem.tail _ (List.Mem.tail _ (List.Mem.tail _ (List.Mem.tail _ (List.Mem.tail _ (List.Mem.tail _ (List.Mem.head _))))))|exact List.Mem.tail _ (List.Mem.tail _ (List.Mem.tail _ (List.Mem.tail _ (List.Mem.tail _ (List.Mem.tail _ (List.Mem.tail _ (List.Mem.head _))))))))
set_option maxRecDepth 100000 in
theorem lifted (os:Os)(started:os.Started)(H:Type)(enc:TypeId×Value->H):
  ReturnsInHanded {} Tryz.checked os 6 .any (fun w args => (Rows.topEffectSpec.pre enc Tryz.prog Tryz.f6 [] false w args /\ laidMetH Tryz.prog [("errors.errorType", Rows.laid_errors_errorType)] w) /\ sizedMet enc Tryz.prog Tryz.f6 (OpenSpec.ofChange Rows.topEffectSpec) false w args) (Rows.topEffectSpec.post enc Tryz.prog Tryz.f6 false true false false) := by
 refine returnsInHanded_of_change_and (C := Tryz.checked) (X := fun w _ => laidMetH Tryz.prog [("errors.errorType", Rows.laid_errors_errorType)] w) (fun _ _ _ hh h => h.of_heap hh) own started (by kernel_rfl) Tryz.func6
  (ChangeSpec.witness_at (enc := enc) (C := Tryz.checked) (os := os) (X := fun w _ => laidMetH Tryz.prog [("errors.errorType", Rows.laid_errors_errorType)] w) false (Laid.laidWorld os) #[.slice none 0 0, .int .u16 0] 8 rfl (by kernel_rfl) (by kernel_rfl) (by kernel_rfl) (by kernel_rfl) (by kernel_rfl) (Laid.laidWorld_met os _)) ?_
 intro W base args ds gs before hval0 hW hcnd hsz0 hL _;have hg:As.GH W:=Laid.handle_of_laid hL;have hsz:(DataW.weightsEach Tryz.prog (Tryz.f6.params.toList++Rows.topEffectSpec.plain.varTypes Tryz.prog) (ds++gs)).all (·<=reachBytes)=true:=hsz0;have hval:∀(j:Nat) t v,Tryz.f6.params[j]?=some t->args[j]?=some v->Value.okWide Tryz.prog W .any base t v:=hval0;have hW':=hW;obtain⟨p,q,hA0,hV,rfl,hfz,hnd⟩:=hW;have hA:DataW.TrodAll enc Tryz.prog W 0 (λ_=>true) true Tryz.f6.params.toList args.toList ds p:=hA0;rw[Tryz.params6]at hA hval hsz;obtain⟨v0,vs0,d0,ds0,p0,q0,hargs,rfl,rfl,h0,r0⟩:=trodAll_cons hA;obtain⟨v1,vs1,d1,ds1,p1,q1,rfl,rfl,rfl,h1,r1⟩:=trodAll_cons r0;obtain⟨rfl,rfl,rfl⟩:=trodAll_nil r1;obtain rfl:args=#[v0,v1]:=by cases args;simp_all
 obtain⟨rfl,rfl⟩:=trodVars_none hV;obtain⟨a0,len0,cap0,rfl⟩:=okWide_slice Tryz.underlying22 (hval 0 22 v0 rfl rfl);have k0:=h0;have lt0:∀x∈p0,x.block<W.heap.size:=by obtain⟨m,hm⟩:=k0;exact DataW.trod_lt m _ _ _ hm
 obtain⟨y0,hy0,ok0⟩:∃y_:((.slice (.int .u8)):K).T,RepT (te00 Go.Eng.Top.A) W (allB W) ((.slice (.int .u8)):K) y_ (Value.cells (.slice a0 len0 cap0)).toList/\((y_:List ((.int .u8):K).T).length*1<=140737488351232/\∀x_∈(y_:List ((.int .u8):K).T),(Lit.int .u8 x_).wf=true):=by
  obtain⟨fuel,hf⟩:=h0;exact(Dq (b:=1) Tryz.underlying22 (H7 Tryz.underlying5) (by kernel_rfl) (by decide) (by kernel_rfl)) H enc fuel _ _ hf (λn_ hn_=>by simpa using List.all_eq_true.1 hsz n_ (DataW.weights_mem_each (j:=0) (t:=22) rfl rfl n_ hn_))
 obtain⟨y1,rfl,rfl,rfl,ok1⟩:=open_int Tryz.underlying54 (hval 1 54 v1 rfl rfl) h1;clear hA0 hval0 hsz0 hsz;obtain⟨W2,fuel_,hE_⟩:=topEffect y0 (byt_of ok0.2) (by have:=ok0.1;omega) y1 (LA ok1) W0 al0 rfl;have h:Go.Eng.Top.CF fuel_ kQ 6 ([inj ((.slice (.int .u8)):K) y0,inj ((.int .u16):K) y1]++cos0.map coAV)=some (outT true W2):=hE_ fuel_ (Nat.le_refl _);have hgw:∀(w:World) (Sb:Nat->Prop),Glob (GlOf W) Sb w->As.GH w:=by
  intro w Sb hG;have hg0:=hg;unfold As.GH at hg0 ⊢;cases hq:W.heap[0]? with
  |none=>unfold World.cell? at hg0;simp only[hq]at hg0;cases hg0
  |some o=>
   rw[<- hg0];exact World.cell?_of_block (a:=⟨0,0,none⟩) ((hG 0 o (by unfold GlOf;rw[if_pos rfl];exact hq)).2.trans hq.symm)
 have hX:Hi Tryz.prog Go.Eng.Top.A (GlOf W) (XTox 36 83 139 112 82 114):=Due.xtox_ok λte w Sb e hte hG=>by
  cases e with
  |none=>exact As.number_nil w
  |some c=>
   have:=As.number_some c w (hgw w Sb hG);unfold errV;rw[hte];exact this
 have hpl:∀z_∈[inj ((.slice (.int .u8)):K) y0,inj ((.int .u16):K) y1],(∀k_ xs_,z_=AV.val false [.mv k_ xs_]->False)/\(∀k_ x_,z_=AV.val false [.io k_ x_]->False):=by
  intro z_ ha;simp only[List.mem_cons,List.not_mem_nil,or_false]at ha;rcases ha with rfl|rfl
  ·exact km _ _
  ·exact km _ _
 have hco:∀z_∈[inj ((.slice (.int .u8)):K) y0,inj ((.int .u16):K) y1],isCo z_=false:=by
  intro z_ ha;simp only[List.mem_cons,List.not_mem_nil,or_false]at ha;rcases ha with rfl|rfl
  ·rfl
  ·rfl
 refine(FB (w:=W) (vs:=#[_,_]) (cos:=cos0) (CW (A:=Go.Eng.Top.A) hX (by kernel_rfl) fuel_) h rfl hlay0 hnod0 hcos0 hco hpl (λb o hb=>by unfold GlOf at hb;split at hb;(rename_i e;subst e;exact hb);(cases hb)) ⟨HO hy0 (λh=>by cases h) (λ_=>rfl),⟨aB ⟨rfl,Jz ok1⟩,trivial⟩⟩).mono ?_;rintro e W' ⟨he,bel⟩;subst he;exact⟨_,rfl,_,_,_,[],_,[],hW',trodAll_mk1 (shut_bool Tryz.underlying4 _),(trodAll_cons_mk (Below.trod laidOut (by kernel_rfl) (of_decide_eq_true (by kernel_rfl)) k0 bel lt0) (trodAll_cons_mk (shut_int Tryz.underlying54 ok1) trodAll_mk0)),rfl,bel.frame _,λh=>by cases h⟩
theorem over:Rows.topEffectRow.holds Tryz.pinned (OpenSpec.ofChange Rows.topEffectSpec):=
 OpenClaim.holds_of_wide 6 Tryz.f6 rfl rfl rfl rfl rfl rfl rfl ⟨rfl,rfl,rfl,rfl,rfl⟩ rfl rfl rfl rfl rfl (by kernel_rfl) Tryz.func6 (by kernel_rfl)
  (of_decide_eq_true (by kernel_rfl)) (by unfold Func.isWrapper;first|(rw[if_pos (by decide +kernel)];kernel_rfl)|(rw[if_neg (by decide +kernel)];exact⟨rfl,rfl⟩))
  (λos started H enc _=>lifted os started H enc)
set_option maxRecDepth 100000 in
theorem proved:Rows.TopEffectCardSaid:=
 Claim7.holds_tied_plain_at .later [] [.handle] true (true, "7990f236dd59e9b1919ee85c8c5afc49c04689f532d1cfd7683ec3dae0a1d398") true
  over (λ_ h=>by cases h) (by kernel_rfl) (λ_ h=>by cases h) topEffect_row_tie rfl ⟨rfl,rfl⟩ (by kernel_rfl) rfl
  (λf fn hf hfn=>by
   obtain rfl : f = 6 := Option.some.inj ((show Tryz.prog.funcNamed "hawala/hawalatop.TopEffect" = some 6 by kernel_rfl).symm.trans hf) |>.symm
   obtain rfl:fn=Tryz.f6:=(Option.some.inj (Tryz.func6.symm.trans hfn)).symm;exact⟨by kernel_rfl,λj t ht=>by
    rw[Tryz.params6]at ht;have hT:t∈[22,54]:=by
     rw[List.getElem?_toArray]at ht;exact List.mem_of_getElem? ht
    have hA:∀t∈[22,54],Tryz.prog.wantsStandIn t=false:=by
     intro t ht;simp only[List.mem_cons,List.not_mem_nil,or_false]at ht;rcases ht with rfl|rfl
     ·exact(show Tryz.prog.wantsStandIn 22=false by kernel_rfl)
     ·exact(show Tryz.prog.wantsStandIn 54=false by kernel_rfl)
    exact hA t hT⟩)
  (by kernel_rfl)
#print axioms proved
end Go.Proofs.YtbbnmhmfdbcmhaaGreatDoor.topEffect
namespace Go.Proofs.YtbbnmhmfdbcmhaaGreatDoor
theorem topEffect_holds:Rows.TopEffectCardSaid:=topEffect.proved
end Go.Proofs.YtbbnmhmfdbcmhaaGreatDoor
