/- Definitions and lemmas for the law TopBank: what the program's functions come to. Conditions: as each lemma says. -/
import Derived.Test.YtbbnmhmfdbcmhaaGreatDoorG0
import Derived.MapKept
set_option linter.all false
set_option linter.unusedVariables false
set_option linter.unusedSimpArgs false
set_option linter.deprecated false
namespace Go.Eng
open Go.RowKit
theorem sem_bind_pure {α:Type}:∀ (e:Sem α),Sem.bind e Sem.pure=e:=by
 intro e
 induction e with
 | pure a=>rfl
 | load m a k ih=>simp only [Sem.bind];congr 1;funext x;exact ih x
 | store m a v k ih=>simp only [Sem.bind,ih]
 | new o k ih=>simp only [Sem.bind];congr 1;funext x;exact ih x
 | shape r k ih=>simp only [Sem.bind];congr 1;funext x;exact ih x
 | freeze a n k ih=>simp only [Sem.bind,ih]
 | frozen a k ih=>simp only [Sem.bind];congr 1;funext x;exact ih x
 | getObj r k ih=>simp only [Sem.bind];congr 1;funext x;exact ih x
 | setObj r o k ih=>simp only [Sem.bind,ih]
 | choose q k ih=>simp only [Sem.bind];congr 1;funext x;exact ih x
 | sys c k ih=>simp only [Sem.bind];congr 1;funext x;exact ih x
 | program k ih=>simp only [Sem.bind];congr 1;funext x;exact ih x
 | mark m k ih=>simp only [Sem.bind,ih]
 | halt h=>rfl
theorem sem_assoc {α β γ:Type}:∀ (e:Sem α)(f:α->Sem β)(g:β->Sem γ),Sem.bind (Sem.bind e f) g=Sem.bind e (fun a=>Sem.bind (f a) g):=by
 intro e f g
 induction e with
 | pure a=>rfl
 | load m a k ih=>simp only [Sem.bind];congr 1;funext x;exact ih x
 | store m a v k ih=>simp only [Sem.bind,ih]
 | new o k ih=>simp only [Sem.bind];congr 1;funext x;exact ih x
 | shape r k ih=>simp only [Sem.bind];congr 1;funext x;exact ih x
 | freeze a n k ih=>simp only [Sem.bind,ih]
 | frozen a k ih=>simp only [Sem.bind];congr 1;funext x;exact ih x
 | getObj r k ih=>simp only [Sem.bind];congr 1;funext x;exact ih x
 | setObj r o k ih=>simp only [Sem.bind,ih]
 | choose q k ih=>simp only [Sem.bind];congr 1;funext x;exact ih x
 | sys c k ih=>simp only [Sem.bind];congr 1;funext x;exact ih x
 | program k ih=>simp only [Sem.bind];congr 1;funext x;exact ih x
 | mark m k ih=>simp only [Sem.bind,ih]
 | halt h=>rfl
theorem lawful : LawfulMonad Sem := LawfulMonad.mk' (m := Sem) (id_map := fun x => sem_bind_pure x) (pure_bind := fun _ _ => rfl) (bind_assoc := fun x f g => sem_assoc x f g)
theorem run_listMapM {α β:Type} {P:Program} {w:World} {f:α->Sem β} {g:α->β}:∀ (l:List α),(∀ a ∈ l,(f a).run P w=.ok (g a) w)->(l.mapM f).run P w=.ok (l.map g) w
 | [],_=>rfl
 | a::r,h=>by
  haveI:=lawful
  rw [List.mapM_cons,run_ok (h a (by simp)),run_ok (run_listMapM r (fun b hb=>h b (by simp [hb])))];rfl
theorem run_mapM {α β:Type} {P:Program} {w:World} {f:α->Sem β} {g:α->β} (arr:Array α)(h:∀ a ∈ arr.toList,(f a).run P w=.ok (g a) w):(arr.mapM f).run P w=.ok (arr.map g) w:=by
 haveI:=lawful
 rw [Array.mapM_eq_mapM_toList]
 show (Sem.bind (arr.toList.mapM f) (fun x=>Sem.pure x.toArray)).run P w=_
 rw [run_bind,run_listMapM arr.toList h]
 show Result.ok _ _=_
 congr 1
 apply Array.ext';simp
theorem arrOver_toList (vs:List Value)(arr:Array Value)(o:Nat)(h:o+vs.length<=arr.size):(arrOver arr o vs).toList=arr.toList.take o++vs++arr.toList.drop (o+vs.length):=by
 apply List.ext_getElem?
 intro j
 rw [Array.getElem?_toList,arrOver_get vs arr o j h]
 have ht:(arr.toList.take o).length=o:=by simp;omega
 by_cases h1:j < o
 ·rw [if_neg (by omega),List.append_assoc,List.getElem?_append_left (by omega),List.getElem?_take,if_pos h1,Array.getElem?_toList]
 ·rw [List.append_assoc,List.getElem?_append_right (by omega),ht]
  by_cases h2:j < o+vs.length
  ·rw [if_pos ⟨by omega,h2⟩,List.getElem?_append_left (by omega)]
  ·rw [if_neg (by omega),List.getElem?_append_right (by omega),List.getElem?_drop,Array.getElem?_toList]
   congr 1;omega
theorem LR.wr {α β:Type} {R:α->β->Prop} {X new X':List α} {vx vn:List β} {o:Nat} (h:LR R X vx)(hn:LR R new vn)(e:X'=X.take o++new++X.drop (o+new.length)):LR R X' (vx.take o++vn++vx.drop (o+vn.length)):=by
 rw [e,<- hn.length]
 exact ((h.take o).append hn).append (h.drop _)
theorem zip_over (off:Nat):∀ (l:List Value)(k:Nat)(arr:Array Value),(l.zipIdx k).foldl (fun cs p=>cs.setIfInBounds (off+p.2) p.1) arr=arrOver arr (off+k) l
 | [],_,_=>rfl
 | v::r,k,arr=>by
  simp only [List.zipIdx_cons,List.foldl_cons,arrOver]
  exact zip_over off r (k+1) _
theorem fill_ok {c:Cx} {ρ:Operand->AV} {r:Operand->Value} (hr:∀ x,RepV c (ρ x) (r x)) {size place:Nat->Option (Nat × Nat)} (hp:∀ i p,size i=some p->place i=some p) :
  ∀ (parts:List (Nat × Operand)) (cs cs':List S) (arr:Array Value),fillP size ρ parts cs=some cs'->LR (RepS c) cs arr.toList ->
   ∃ arr',Instr.fill place arr (parts.map fun (i,x)=>(i,r x))=some arr'/\LR (RepS c) cs' arr'.toList/\arr'.size=arr.size
 | [],cs,cs',arr,h,hl=>by
  simp [fillP] at h;subst h
  exact ⟨arr,rfl,hl,rfl⟩
 | (i,x)::ps,cs,cs',arr,h,hl=>by
  simp only [fillP] at h
  have hx:=hr x
  split at h
  ·rename_i off sz g new hs ex
   rw [ex] at hx
   cases hb:Nat.beq new.length sz with
   | false=>rw [hb] at h;cases h
   | true =>
    rw [hb] at h
    simp only [cond_true] at h
    have hn:=Nat.eq_of_beq_eq_true hb
    split at h
    ·rename_i cs2 h2
     obtain ⟨w1,w2⟩:=setP_eq _ _ _ _ h2 (by intro s hs;simp at hs;subst hs;trivial)
     have e0:pathOff [PStep.fld off]=off:=by simp [pathOff,stepOff]
     rw [e0] at w1 w2
     have hc:=repV_cells hx
     have hlen:=hc.length
     have hlen2:=hl.length
     have hsz:off+(r x).cells.toList.length<=arr.size:=by simp at hlen2;omega
     have hl2:LR (RepS c) cs2 (arrOver arr off (r x).cells.toList).toList:=by
      rw [arrOver_toList _ _ _ hsz]
      exact hl.wr hc w2
     obtain ⟨arr',q1,q2,q3⟩:=fill_ok hr hp ps cs2 cs' _ h hl2
     refine ⟨arr',?_,q2,by rw [q3,arrOver_size]⟩
     simp only [List.map_cons,Instr.fill]
     rw [hp i _ hs]
     simp only []
     have hsize:(r x).cells.size=sz:=by rw [<- hn,hlen];simp
     rw [if_neg (by simp at hsz;simp [hsize];omega)]
     have ez:((r x).cells.zipIdx.foldl (fun cs (p:Value × Nat)=>cs.setIfInBounds (off+p.2) p.1) arr)=arrOver arr off (r x).cells.toList:=by
      rw [<- Array.foldl_toList,Array.toList_zipIdx]
      exact zip_over off _ 0 arr
     rw [<- q1]
     congr 1
    ·cases h
  ·cases h
section
variable {P:Program} {A:Ann} {fid:Nat} {w0:World} {M:MS} {c:Cx} {ρ:Operand->AV} {r:Operand->Value} {hp:Nat->Option Obj} {o:Oper} {v:AV} {u:Upd}
theorem core_build (hm:Mem w0 M c)(hr:∀ x,RepV c (ρ x) (r x)) {t:TypeId} {parts:Array (Nat × Operand)} (ho:o.op=.build t parts)(h:core P A fid ρ hp o=.ok true v u) :
  StepOk w0 M c ((execOp r o).run P c.w) v u:=by
 simp only [core,ho] at h
 simp only [execOp,ho]
 split at h
 ·rename_i z fs hz hu
  cases hall:fs.toList.all (fun f=>(sizeT P f.type).isSome) with
  | false=>rw [hall] at h;cases h
  | true =>
   rw [hall] at h
   simp only [cond_true] at h
   split at h
   ·rename_i cs hcs
    simp only [Out.ok.injEq,true_and] at h
    obtain ⟨rfl,rfl⟩:=h
    obtain ⟨zv,h1,h2,h3⟩:=run_zeroValue hz c.w
    have hplaces:(fs.mapM fun f=>(do pure (f.offset,<- sizeOf f.type):Sem (Nat × Nat))).run P c.w=.ok (fs.map fun f=>(f.offset,(sizeT P f.type).getD 0)) c.w:=by
     refine run_mapM fs fun f hf=>?_
     have:=List.all_eq_true.1 hall f hf
     cases hs:sizeT P f.type with
     | none=>rw [hs] at this;cases this
     | some n=>rw [run_ok (run_sizeOf hs c.w)];rfl
    obtain ⟨arr',q1,q2,_⟩:=fill_ok (c:=c) hr (size:=fieldAt P fs) (place:=fun i=>(fs.map fun f=>(f.offset,(sizeT P f.type).getD 0))[i]?) (fun i p hi=>by
     obtain ⟨off,sz⟩:=p
     obtain ⟨fl,t1,t2,t3⟩:=fieldAt_some hi
     simp [t1,t2,t3]) parts.toList _ cs zv.cells hcs (by rw [h2];exact rep_ofVs c z h3)
    refine .quiet hm (run_val (v:=.agg arr') ?_) ⟨arr',rfl,q2⟩
    unfold Instr.build
    rw [run_ok h1,run_ok (run_underlying hu c.w)]
    simp only []
    rw [run_ok hplaces]
    have:Instr.fill (fun i=>(fs.map fun f=>(f.offset,(sizeT P f.type).getD 0))[i]?) zv.cells (parts.map fun (i,x)=>(i,r x)).toList=some arr':=by
     rw [Array.toList_map];exact q1
    simp only [this];rfl
   ·cases h
 ·rename_i z n e hz hu
  split at h
  ·rename_i s hs
   split at h
   ·rename_i cs hcs
    simp only [Out.ok.injEq,true_and] at h
    obtain ⟨rfl,rfl⟩:=h
    obtain ⟨zv,h1,h2,h3⟩:=run_zeroValue hz c.w
    obtain ⟨arr',q1,q2,_⟩:=fill_ok (c:=c) hr (size:=fun i=>some (i * s,s)) (place:=fun i=>some (i * s,s)) (fun i p hi=>hi) parts.toList _ cs zv.cells hcs (by rw [h2];exact rep_ofVs c z h3)
    refine .quiet hm (run_val (v:=.agg arr') ?_) ⟨arr',rfl,q2⟩
    unfold Instr.build
    rw [run_ok h1,run_ok (run_underlying hu c.w)]
    simp only []
    rw [run_ok (run_sizeOf hs c.w)]
    have:Instr.fill (fun i=>some (i * s,s)) zv.cells (parts.map fun (i,x)=>(i,r x)).toList=some arr':=by
     rw [Array.toList_map];exact q1
    simp only [this];rfl
   ·cases h
  ·cases h
 ·cases h
theorem flat_zero {α:Type} [Inhabited α] (z:List α)(n:Nat):((Array.range (n * z.length)).map fun i=>z.toArray[i % z.toArray.size]!).toList=(List.replicate n z).flatten:=by
 apply List.ext_getElem?
 intro j
 simp only [Array.toList_map,Array.toList_range,List.getElem?_map,List.size_toArray]
 by_cases hj:j < n * z.length
 ·rw [List.getElem?_range hj]
  simp only [Option.map_some]
  induction n generalizing j with
  | zero=>simp at hj
  | succ n ih =>
   rw [List.replicate_succ,List.flatten_cons]
   have hz:0 < z.length:=by
    rcases Nat.eq_zero_or_pos z.length with q | q
    ·rw [q] at hj;simp at hj
    ·exact q
   by_cases h1:j < z.length
   ·rw [List.getElem?_append_left h1,Nat.mod_eq_of_lt h1,List.getElem?_eq_getElem h1]
    simp [h1]
   ·rw [List.getElem?_append_right (by omega)]
    have e:=ih (j - z.length) (by rw [Nat.add_mul] at hj;omega)
    rw [<- e,Nat.mod_eq_sub_mod (by omega)]
 ·rw [List.getElem?_eq_none (by simp;omega)]
  rw [List.getElem?_eq_none];rfl
  simp;omega
theorem reiN_cl {c c1:Cx} {w0:World} {M:MS} (hm:Mem w0 M c)(hw:c1.w=c.w)(he:Ext c c1) {hp:Nat->Option Obj} (hh:∀ id o,hp id=some o->c.hp id=some o) {k:K} :
  ∀ (n:Nat) (cs:List S) (vs:List Value) (xs:List k.T),(∀ id ∈ idsOf cs,∀ b,c.β id=some b->c1.S b)->LR (RepS c) cs vs->reiN hp k n cs=some xs->Cl c1 k xs vs/\xs.length=n
 | 0,cs,vs,xs,_,hl,h=>by
  match cs,vs,hl,h with
  | [],[],_,h =>
   simp [reiN] at h;subst h
   exact ⟨⟨by simp,by simp,by simp⟩,rfl⟩
  | _::_,_,_,h=>simp [reiN] at h
 | n+1,cs,vs,xs,hi,hl,h=>by
  simp only [reiN] at h
  split at h
  ·rename_i x rest hx
   split at h
   ·rename_i l hl2
    simp only [Option.some.injEq] at h;subst h
    obtain ⟨v1,v2,rfl,p1,p2,p3⟩:=rei_rep hm hh he.sub k cs vs x rest hi hl hx
    obtain ⟨⟨q1,q2,q3⟩,q4⟩:=reiN_cl hm hw he hh n rest v2 l (fun id hid=>hi id (p3 id hid)) p2 hl2
    have hlen:=RepT.len p1
    have p1':RepT c1.te c1.w c1.S k x v1:=by rw [he.te,hw];exact p1
    refine ⟨⟨by simp [q1,hlen,Nat.add_mul];omega,?_,?_⟩,by simp [q4]⟩
    ·intro v hv
     exact LR.ones hl v hv
    ·intro i y hy
     cases i with
     | zero =>
      simp at hy;subst hy
      refine ⟨v1,p1',fun j v hv=>?_⟩
      have hj:j < v1.length:=by
       obtain ⟨hj,_⟩:=List.getElem?_eq_some_iff.1 hv;exact hj
      rw [Nat.zero_mul,Nat.zero_add,List.getElem?_append_left hj];exact hv
     | succ i =>
      obtain ⟨vs',t1,t2⟩:=q3 i y (by simpa using hy)
      refine ⟨vs',t1,fun j v hv=>?_⟩
      rw [List.getElem?_append_right (by rw [hlen,Nat.add_mul];omega)]
      have:=t2 j v hv
      rw [hlen,show (i+1) * k.size+j - k.size=i * k.size+j by rw [Nat.add_mul];omega]
      exact this
   ·cases h
  ·cases h
theorem StepOk.after {w0:World} {M:MS} {c c1:Cx} {nx:Result Next} {v:AV} {u u1:Upd} (he:Ext c c1)(hp:c1.hp=hpU u1 c.hp)(h:StepOk w0 M c1 nx v u)(hu:∀ id,hpU u (hpU u1 c.hp) id=hpU (u++u1) c.hp id):StepOk w0 M c nx v (u++u1):=by
 obtain ⟨nv,c2,h1,h2,h3,h4,h5⟩:=h
 exact ⟨nv,c2,h1,h2,he.trans h3,by rw [h4,hp];funext id;exact hu id,h5⟩
theorem hget_append (u u1:Upd)(id:Nat):hget (u++u1) id=match hget u id with | some o=>some o | none=>hget u1 id:=by
 induction u with
 | nil=>rfl
 | cons p r ih =>
  simp only [List.cons_append,hget]
  cases Nat.beq p.1 id<;>simp [ih]
theorem hpU_append (u u1:Upd)(hp:Nat->Option Obj)(id:Nat):hpU u (hpU u1 hp) id=hpU (u++u1) hp id:=by
 unfold hpU
 rw [hget_append]
 cases hget u id<;>simp
theorem core_buildSlice (hm:Mem w0 M c)(hh:∀ id o,hp id=some o->c.hp id=some o)(hf:∀ d,o.dst=some d->hp d=none->c.hp d=none)(hr:∀ x,RepV c (ρ x) (r x)) {t:TypeId} {n:Nat} {parts:Array (Nat × Operand)} (ho:o.op=.buildSlice t n parts)(h:core P A fid ρ hp o=.ok true v u) :
  StepOk w0 M c ((execOp r o).run P c.w) v u:=by
 simp only [core,ho] at h
 simp only [execOp,ho]
 split at h
 ·rename_i e d hel hfr
  obtain ⟨hd,hd2⟩:=fresh_some hfr
  have hu:P.underlying t=some (.slice e):=by
   unfold elemT at hel
   split at hel
   ·rename_i e' he';simp only [Option.some.injEq] at hel;subst hel;exact he'
   ·cases hel
  split at h
  ·rename_i k z s hk hz hs
   cases hb:(Nat.ble (n * s) 16777216 && Nat.beq z.length s && Nat.beq s k.size) with
   | false=>rw [hb] at h;cases h
   | true =>
    rw [hb] at h
    simp only [cond_true] at h
    simp only [Bool.and_eq_true] at hb
    have hlim:=Nat.le_of_ble_eq_true hb.1.1
    have hzl:=Nat.eq_of_beq_eq_true hb.1.2
    have hsk:=Nat.eq_of_beq_eq_true hb.2
    split at h
    ·rename_i cs hcs
     split at h
     ·rename_i xs uf hxs huf
      simp only [Out.ok.injEq,true_and] at h
      obtain ⟨rfl,rfl⟩:=h
      obtain ⟨zv,h1,h2,h3⟩:=run_zeroValue hz c.w
      have hzarr:zv.cells=z.toArray:=by apply Array.ext';simp [h2]
      have hflat:∀ l:List (List Value),(∀ x ∈ l,x.all one=true)->l.flatten.all one=true:=by
       intro l hl;rw [List.all_flatten];exact List.all_eq_true.2 hl
      have hinit:LR (RepS c) (List.replicate n (z.map ofV)).flatten ((Array.range (n * s)).map (fun i=>zv.cells[i % zv.cells.size]!)).toList:=by
       rw [<- hzl,hzarr,flat_zero]
       rw [show (List.replicate n (z.map ofV)).flatten=(List.replicate n z).flatten.map ofV by simp [List.map_flatten,List.map_replicate]]
       exact rep_ofVs c _ (hflat _ fun x hx=>by rw [(List.mem_replicate.1 hx).2];exact h3)
      obtain ⟨arr',q1,q2,q3⟩:=fill_ok (c:=c) hr (size:=fun i=>some (i * s,s)) (place:=fun i=>some (i * s,s)) (fun i p hi=>hi) parts.toList _ cs _ hcs hinit
      obtain ⟨c1,e1,e2,m1,x1,p1,p2⟩:=frz_ok hm hh huf
      obtain ⟨hcl,hln⟩:=reiN_cl hm e1 x1 hh n cs arr'.toList xs p2 q2 hxs
      have hd1:c1.hp d=none:=by
       rw [p1]
       unfold hpU
       split
       ·rename_i o' ho'
        obtain ⟨k',xs',gen',hist',frz',t1,_⟩:=frzU_get huf ho'
        rw [hd2] at t1;cases t1
       ·exact hf d hd hd2
      have hrun:(do pure (Next.value (<- Instr.buildSlice t n (parts.map fun (i,x)=>(i,r x)))):Sem Next).run P c.w=.ok (.value (.slice (some ⟨c1.w.heap.size,0,none⟩) xs.length n)) (pushW c1.w (.cells arr' e (0,0))):=by
       refine run_val ?_
       rw [e1,hln]
       unfold Instr.buildSlice
       rw [run_ok (run_underlying hu c.w)]
       simp only []
       rw [run_ok (run_sizeOf hs c.w)]
       rw [if_neg (by omega)]
       have hfill:Instr.fill (fun i=>some (i * s,s)) ((Array.range (n * s)).map (fun i=>zv.cells[i % zv.cells.size]!)) (parts.map fun (i,x)=>(i,r x)).toList=some arr':=by
        rw [Array.toList_map];exact q1
       by_cases h0:n * s=0
       ·rw [if_pos h0]
        have:Instr.fill (fun i=>some (i * s,s)) ((Array.range (n * s)).map (fun i=>(#[]:Array Value)[i % (#[]:Array Value).size]!)) (parts.map fun (i,x)=>(i,r x)).toList=some arr':=by
         have e0:∀ f:Nat->Value,(Array.range 0).map f=#[]:=fun f=>Array.ext' (by simp [Array.toList_range])
         rw [<- hfill,h0,e0,e0]
        show ((pure (#[]:Array Value):Sem (Array Value)) >>= _).run P c.w=_
        rw [run_pb]
        simp only [this]
        rw [run_ok (run_newRow e arr')];rfl
       ·rw [if_neg h0]
        rw [run_ok h1,run_pb]
        simp only [hfill]
        rw [run_ok (run_newRow e arr')];rfl
      have hstep:=new_row m1 hd1 hcl (grew_push c1.w (.cells arr' e (0,0))) (Nat.le_refl _) (blkFree_push c1.w arr' e) (fun j v hv=>by rw [<- Array.getElem?_toList];exact hv) (cap:=n) (by omega)
       (by have:=hcl.1;simp at this;rw [this,hln];exact Nat.le_refl _) hrun
      exact hstep.after x1 p1 (fun id=>hpU_append _ _ _ id)
     ·cases h
    ·cases h
  ·cases h
 ·cases h
end
end Go.Eng
namespace Go.Eng
open Go.RowKit
theorem size_pos:∀ (k:K),0 < k.size
 | .int _ | .bool | .str | .err | .fn | .ref _ | .slice _=>by simp [K.size]
 | .prod a b=>by have:=size_pos a;simp [K.size];omega
 | .strct a=>size_pos a
def drewW (w:World):World:={ w with drawn:=w.drawn+1 }
theorem run_choose {P:Program} {w:World} {need old:Nat} {e:TypeId}:∃ cap,need<=cap/\(choose (.appendCap need old e)).run P w=.ok cap (drewW w):=by
 refine ⟨(Question.appendCap need old e).cut (w.tape w.drawn (.appendCap need old e)),by simp [Question.cut],?_⟩
 simp [choose,Sem.run,Question.forced,drewW]
theorem grew_drew (w:World):Grew w (drewW w):=⟨rfl,rfl,rfl,Nat.le_refl _,fun _ _=>rfl⟩
theorem run_askRoom {P:Program} {w:World} (n:Nat):(askRoom n).run P w=.ok () w:=by
 unfold askRoom;split<;>rfl
theorem elemT_some {P:Program} {t e:TypeId} (h:elemT P t=some e):P.underlying t=some (.slice e):=by
 unfold elemT at h
 split at h
 ·rename_i e' he';simp only [Option.some.injEq] at h;subst h;exact he'
 ·cases h
theorem elemOk_some {P:Program} {e:TypeId} {k:K} (h:elemOk P e k=true):∃ i z,P.info? e=some i/\sizeT P e=some k.size/\zeroT P e=some z/\z.length=k.size/\bytesT P e=i.bytes/\i.bytes<=1000000/\1<=i.bytes:=by
 unfold elemOk at h
 split at h
 ·rename_i s z hs hz
  simp only [Bool.and_eq_true] at h
  obtain ⟨i,hi,_⟩:=sizeT_some hs
  have hb:bytesT P e=i.bytes:=by unfold bytesT;rw [hi]
  have h1:=Nat.eq_of_beq_eq_true h.1.1.1
  have h2:=Nat.eq_of_beq_eq_true h.1.1.2
  have h3:=Nat.le_of_ble_eq_true h.1.2
  have h4:=Nat.le_of_ble_eq_true h.2
  rw [hb] at h3 h4
  exact ⟨i,z,hi,by rw [hs,h1],hz,h2,hb,h3,h4⟩
 ·cases h
theorem cl_bytes (c:Cx)(s:ByteArray):Cl c (.int .u8) (bytesOf s) (s.data.toList.map fun b=>Value.int .u8 b.toNat):=by
 refine ⟨by simp [bytesOf,K.size],fun v hv=>?_,fun i x hx=>?_⟩
 ·obtain ⟨b,_,rfl⟩:=List.mem_map.1 hv;rfl
 ·rw [bytesOf_get] at hx
  cases hb:s.data.toList[i]? with
  | none=>rw [hb] at hx;cases hx
  | some b =>
   rw [hb] at hx
   simp at hx;subst hx
   refine ⟨[.int .u8 b.toNat],⟨rfl,by have:=b.toNat_lt;simp [okI,okB];omega⟩,fun j v hv=>?_⟩
   cases j with
   | zero=>simp at hv;subst hv;simp only [K.size,Nat.mul_one,Nat.add_zero,List.getElem?_map,hb];rfl
   | succ j=>simp at hv
def freezeW (w:World)(b n:Nat):World:=w.freeze { block:=b,off:=n } 1
section
variable {P:Program} {A:Ann} {fid:Nat} {w0:World} {M:MS} {c:Cx} {ρ:Operand->AV} {r:Operand->Value} {hp:Nat->Option Obj} {o:Oper} {v:AV} {u:Upd}
theorem core_convert (hm:Mem w0 M c)(hh:∀ id o,hp id=some o->c.hp id=some o)(hf:∀ d,o.dst=some d->hp d=none->c.hp d=none)(hr:∀ x,RepV c (ρ x) (r x)) {st dt:TypeId} {x:Operand} (ho:o.op=.convert st dt x)(hs2:∀ id g e0 e,¬ (slot x ρ=some (.vw id g)/\P.underlying st=some (.slice e0)/\P.underlying dt=some (.slice e)))(h:core P A fid ρ hp o=.ok true v u) :
  StepOk w0 M c ((execOp r o).run P c.w) v u:=by
 by_cases hs:∃ s e,slot x ρ=some (.str s)/\P.underlying dt=some (.slice e)
 ·obtain ⟨s,e,hx,hdu⟩:=hs
  simp only [core,ho,hx,hdu] at h
  simp only [execOp,ho]
  split at h
  ·rename_i heq;cases heq
  ·rename_i heq;cases heq
  ·rename_i s' td e' heq1 hsu heq2
   cases heq1;cases heq2
   split at h
   ·rename_i d heu hfr
    simp only [Out.ok.injEq,decide_eq_true_eq] at h
    obtain ⟨_,rfl,rfl⟩:=h
    obtain ⟨hd,hd2⟩:=fresh_some hfr
    obtain ⟨sb,e1,rfl⟩:=slot_rep hr hx
    obtain ⟨cap,hcap,hch⟩:=run_choose (P:=P) (w:=c.w) (need:=sb.size) (old:=0) (e:=e)
    let arr:Array Value:=sb.data.map (fun b=>Value.int .u8 b.toNat)++Array.replicate (cap - sb.size) (.int .u8 0)
    have hsz:arr.size=cap:=by
     have:sb.data.size=sb.size:=rfl
     simp [arr];omega
    let w1:=pushW (drewW c.w) (.cells arr e (0,0))
    have hw1:w1.heap.size=c.w.heap.size+1:=by simp [w1,pushW,drewW]
    have hhere:w1.heap[c.w.heap.size]?=some (.cells arr e (0,0)):=push_here (drewW c.w) _
    have hgr:Grew c.w (freezeW w1 c.w.heap.size cap):=by
     have g1:Grew c.w w1:=(grew_drew c.w).trans (grew_push _ _)
     refine ⟨g1.1,g1.2.1,g1.2.2.1,by simp [freezeW,World.freeze,hw1],fun b hb=>?_⟩
     have:=g1.2.2.2.2 b hb
     rw [<- this]
     unfold freezeW World.freeze
     rw [if_neg (by decide)]
     simp only [Array.getElem?_modify]
     rw [if_neg (by show ¬ (c.w.heap.size=b);omega)]
    have hbf:BlkFree (freezeW w1 c.w.heap.size cap) c.w.heap.size arr:=by
     refine ⟨e,(cap,cap+1),?_,fun o ho=>(by show ¬ (cap<=o/\o < cap+1);omega),Nat.le_succ _⟩
     unfold freezeW World.freeze
     rw [if_neg (by decide)]
     simp only [Array.getElem?_modify]
     rw [if_pos trivial]
     rw [hhere];rfl
    have hrun:(do pure (Next.value (<- convert st dt (r x))):Sem Next).run P c.w=.ok (.value (.slice (some ⟨c.w.heap.size,0,none⟩) (bytesOf sb).length cap)) (freezeW w1 c.w.heap.size cap):=by
     refine run_val ?_
     rw [e1]
     unfold convert
     rw [run_ok (run_underlying hsu c.w),run_ok (run_underlying hdu c.w)]
     have:∀ td:TypeDesc,(match td,TypeDesc.slice e,Value.string sb with
      | _,.slice e,.string s=>(do match <- underlying e with
       | .int .u8=>Conv.stringToBytes e s
       | .int .i32=>Conv.stringToRunes e s
       | _ => stuck "Convert: string to a slice of what?" : Sem Value)
      | _, _, _ => stuck "") = (do match <- underlying e with
       | .int .u8=>Conv.stringToBytes e sb
       | .int .i32=>Conv.stringToRunes e sb
       | _ => stuck "Convert: string to a slice of what?" : Sem Value) := fun td => rfl
     have main:((do match <- underlying e with
       | .int .u8=>Conv.stringToBytes e sb
       | .int .i32=>Conv.stringToRunes e sb
       | _ => stuck "Convert: string to a slice of what?" : Sem Value)).run P c.w = .ok (.slice (some ⟨c.w.heap.size, 0, none⟩) (bytesOf sb).length cap) (freezeW w1 c.w.heap.size cap) := by
      rw [run_ok (run_underlying heu c.w)]
      simp only []
      unfold Conv.stringToBytes
      rw [run_ok hch]
      rw [run_ok (run_newRow e arr)]
      have hmk:(markStringish ⟨(drewW c.w).heap.size,0,none⟩).run P w1=.ok () (freezeW w1 c.w.heap.size cap):=by
       unfold markStringish
       have hshape:(shape (drewW c.w).heap.size).run P w1=.ok (some (e,cap)) w1:=by
        show Result.ok (w1.shape? c.w.heap.size) w1=_
        simp only [World.shape?,hhere,hsz]
       rw [run_ok hshape];rfl
      rw [run_ok hmk,bytesOf_length];rfl
     cases td<;>exact main
    have:=new_row hm (hf d hd hd2) (cl_bytes c sb) hgr (Nat.le_refl _) hbf (fun j v hv=>by
     show (sb.data.map (fun b=>Value.int .u8 b.toNat)++Array.replicate (cap - sb.size) (.int .u8 0))[j]?=some v
     have hj:j < sb.data.size:=by
      obtain ⟨q,_⟩:=List.getElem?_eq_some_iff.1 hv;simpa using q
     rw [Array.getElem?_append_left (by simpa using hj),<- Array.getElem?_toList,Array.toList_map];exact hv) (cap:=cap) (by rw [bytesOf_length];exact hcap) (by rw [hsz];simp [K.size]) hrun
    exact this
   ·cases h
  ·rename_i hn _ _ _ heq;cases heq
  ·rename_i heq _ _;cases heq
  ·cases h
 ·exact core_convert_quiet hm hh hr ho (fun s e hse=>hs ⟨s,e,hse⟩) hs2 h
theorem zeroOf_rep (te:TE)(w:World)(Sb:Nat->Prop):∀ (k:K)(cs r:List Value),zeroOf k cs=some r->∃ pre,cs=pre++r/\RepT te w Sb k k.dflt pre:=by
 intro k
 induction k with
 | int k =>
  intro cs r h
  unfold zeroOf at h
  split at h<;>rename_i heq<;>try (cases heq;done)
  ·rename_i k0 k' n r'
   cases heq
   by_cases e:k'=k<;>by_cases e2:n=0<;>simp [e,e2] at h
   subst h
   refine ⟨[_],rfl,by rw [e,e2];rfl,?_⟩
   cases k<;>rfl
  all_goals (try cases h)
 | bool =>
  intro cs r h
  unfold zeroOf at h
  split at h<;>rename_i heq<;>try (cases heq;done)
  ·rename_i b r'
   cases b<;>simp at h
   subst h
   exact ⟨[_],rfl,rfl⟩
  all_goals (try cases h)
 | str =>
  intro cs r h
  unfold zeroOf at h
  split at h<;>rename_i heq<;>try (cases heq;done)
  ·rename_i s r'
   by_cases e:s.data.toList.length=0
   ·simp [e] at h
    subst h
    have:s.data.toList=[]:=List.length_eq_zero_iff.1 e
    exact ⟨[_],rfl,s,rfl,by simp [bytesOf,this];rfl⟩
   ·simp at e;simp [e] at h
  all_goals (try cases h)
 | err =>
  intro cs r h
  unfold zeroOf at h
  split at h<;>rename_i heq<;>try (cases heq;done)
  ·simp at h;subst h;exact ⟨[_],rfl,rfl⟩
  all_goals (try cases h)
 | fn =>
  intro cs r h
  unfold zeroOf at h
  split at h<;>rename_i heq<;>try (cases heq;done)
  ·simp at h;subst h;exact ⟨[_],rfl,rfl⟩
  all_goals (try cases h)
 | ref t =>
  intro cs r h
  unfold zeroOf at h
  split at h<;>rename_i heq<;>try (cases heq;done)
  ·simp at h;subst h;exact ⟨[_],rfl,_,rfl,rfl⟩
  all_goals (try cases h)
 | slice e ih =>
  intro cs r h
  unfold zeroOf at h
  split at h<;>rename_i heq<;>try (cases heq;done)
  ·simp at h;subst h;exact ⟨[_],rfl,repT_nil _ _ _ _⟩
  all_goals (try cases h)
 | prod a b iha ihb =>
  intro cs r h
  simp only [zeroOf] at h
  split at h
  ·rename_i r' h1
   obtain ⟨p1,rfl,q1⟩:=iha cs r' h1
   obtain ⟨p2,rfl,q2⟩:=ihb r' r h
   exact ⟨p1++p2,by simp,p1,p2,rfl,q1,q2⟩
  ·cases h
 | strct a ih =>
  intro cs r h
  simp only [zeroOf] at h
  exact ih cs r h
end
end Go.Eng
namespace Go.Eng
open Go.RowKit
theorem wrap_small {n:Int} (h0:0<=n)(h1:n < 9223372036854775808):IntKind.i64.wrap n=n:=by
 have e:n % (2 ^ 64:Int)=n:=Int.emod_eq_of_lt h0 (by omega)
 show (if (true && decide (n % (2 ^ 64:Int) ≥ (2 ^ 63:Int)))=true then n % (2 ^ 64:Int) - (2 ^ 64:Int) else n % (2 ^ 64:Int))=n
 rw [e,if_neg]
 simp only [Bool.true_and,decide_eq_true_eq]
 omega
theorem cl_zeros (c:Cx) {k:K} {z:List Value} (hz:zeroOk k z=true)(ho:z.all one=true)(n:Nat):Cl c k (List.replicate n k.dflt) (List.replicate n z).flatten:=by
 unfold zeroOk at hz
 split at hz
 ·rename_i h
  obtain ⟨pre,e,hr⟩:=zeroOf_rep c.te c.w c.S k z [] h
  simp at e;subst e
  have hlen:=RepT.len hr
  refine ⟨by simp [hlen],fun v hv=>?_,fun i x hx=>?_⟩
  ·obtain ⟨l,hl,hv⟩:=List.mem_flatten.1 hv
   rw [(List.mem_replicate.1 hl).2] at hv
   exact List.all_eq_true.1 ho v hv
  ·have hx':x=k.dflt/\i < n:=by
    rw [List.getElem?_replicate] at hx
    split at hx
    ·simp at hx;exact ⟨hx.symm,by assumption⟩
    ·cases hx
   obtain ⟨rfl,hi⟩:=hx'
   refine ⟨z,hr,fun j v hv=>?_⟩
   have hj:j < z.length:=by obtain ⟨q,_⟩:=List.getElem?_eq_some_iff.1 hv;exact q
   rw [<- hlen]
   clear hx
   induction n generalizing i with
   | zero=>omega
   | succ n ih =>
    rw [List.replicate_succ,List.flatten_cons]
    cases i with
    | zero=>rw [Nat.zero_mul,Nat.zero_add,List.getElem?_append_left hj];exact hv
    | succ i =>
     rw [List.getElem?_append_right (by rw [Nat.add_mul];omega)]
     rw [show (i+1) * z.length+j - z.length=i * z.length+j by rw [Nat.add_mul];omega]
     exact ih i (by omega)
 ·cases hz
section
variable {P:Program} {A:Ann} {fid:Nat} {w0:World} {M:MS} {c:Cx} {ρ:Operand->AV} {r:Operand->Value} {hp:Nat->Option Obj} {o:Oper} {v:AV} {u:Upd}
theorem core_makeSlice (hm:Mem w0 M c)(hf:∀ d,o.dst=some d->hp d=none->c.hp d=none)(hr:∀ x,RepV c (ρ x) (r x)) {t:TypeId} {l cc:Operand} (ho:o.op=.makeSlice t l cc)(h:core P A fid ρ hp o=.ok true v u) :
  StepOk w0 M c ((execOp r o).run P c.w) v u:=by
 simp only [core,ho] at h
 simp only [execOp,ho]
 split at h
 ·rename_i n m e d hl hc hel hfr
  obtain ⟨el,_⟩:=slot_rep hr hl
  obtain ⟨ec,_⟩:=slot_rep hr hc
  obtain ⟨hd,hd2⟩:=fresh_some hfr
  have hu:=elemT_some hel
  split at h
  ·rename_i k z hk hz
   cases hb:(zeroOk k z && elemOk P e k) with
   | false=>rw [hb] at h;cases h
   | true =>
    rw [hb] at h
    simp only [Bool.and_eq_true] at hb
    simp only [cond_true,Out.ok.injEq,Bool.and_eq_true,decide_eq_true_eq] at h
    obtain ⟨⟨⟨rfl,h0⟩,hlim⟩,rfl,rfl⟩:=h
    obtain ⟨i,z',hi,hs,hz',hzl,hbt,hb1,hb2⟩:=elemOk_some hb.2
    rw [hz] at hz';cases hz'
    rw [hbt] at hlim
    obtain ⟨zv,h1,h2,h3⟩:=run_zeroValue hz c.w
    have hzarr:zv.cells=z.toArray:=by apply Array.ext';simp [h2]
    have hle:n<=140737488355328:=by
     have:n * 1<=n * (i.bytes:Int):=Int.mul_le_mul_of_nonneg_left (by omega) h0
     omega
    have hw:IntKind.i64.wrap n=n:=wrap_small h0 (by omega)
    let arr:Array Value:=(Array.range (n.toNat * k.size)).map (fun j=>zv.cells[j % zv.cells.size]!)
    have harr:arr.toList=(List.replicate n.toNat z).flatten:=by
     simp only [arr]
     rw [hzarr,<- hzl,flat_zero]
    have hcl:=cl_zeros c hb.1 h3 n.toNat
    have hrun:(do pure (Next.value (<- Instr.makeSlice t (r l) (r cc))):Sem Next).run P c.w=.ok (.value (.slice (some ⟨c.w.heap.size,0,none⟩) (List.replicate n.toNat k.dflt).length n.toNat)) (pushW c.w (.cells arr e (0,0))):=by
     refine run_val ?_
     rw [el,ec]
     unfold Instr.makeSlice
     rw [run_ok (run_underlying hu c.w)]
     simp only []
     rw [run_ok (show (asInt (.int .i64 n)).run P c.w=.ok n c.w from rfl),run_ok (show (asInt (.int .i64 n)).run P c.w=.ok n c.w from rfl),run_ok (run_typeInfo hi c.w)]
     simp only [hw]
     rw [if_neg (by
      simp only [Bool.or_eq_true,decide_eq_true_eq]
      have hm2:(i.bytes:Int) * n=n * i.bytes:=Int.mul_comm _ _
      omega)]
     rw [run_ok (run_askRoom _),run_ok (run_sizeOf hs c.w)]
     by_cases h00:n.toNat * k.size=0
     ·rw [if_pos h00]
      have e0:(Array.range (n.toNat * k.size)).map (fun j=>(#[]:Array Value)[j % (#[]:Array Value).size]!)=arr:=by
       simp only [arr];rw [h00];exact Array.ext' (by simp [Array.toList_range])
      rw [run_pb]
      rw [e0,run_ok (run_newRow e arr)]
      simp
     ·rw [if_neg h00]
      rw [run_ok h1,run_pb]
      rw [run_ok (run_newRow e arr)]
      simp
    refine new_row hm (hf d hd hd2) hcl (grew_push _ _) (Nat.le_refl _) (blkFree_push _ arr e) (fun j v hv=>by rw [<- Array.getElem?_toList,harr];exact hv) (by simp) ?_ hrun
    simp [arr]
  ·cases h
 ·cases h
theorem vis_cl {c:Cx} {ids:List Nat} {k:K}:∀ (ys:List k.T) {b o:Nat},(∀ (i:Nat)(x:k.T),ys[i]?=some x->∃ vs,RepT c.te c.w c.S k x vs/\At c.w b (o+i * k.size) vs)->∃ cl,Cl c k ys cl/\At c.w b o cl
 | [],b,o,_=>⟨[],⟨by simp,by simp,by simp⟩,fun j v hv=>by simp at hv⟩
 | y::ys,b,o,h=>by
  obtain ⟨v1,h1,h2⟩:=h 0 y rfl
  obtain ⟨cl,⟨q1,q2,q3⟩,q4⟩:=vis_cl (ids:=ids) ys (b:=b) (o:=o+k.size) (fun i x hx=>by
   obtain ⟨vs,t1,t2⟩:=h (i+1) x (by simpa using hx)
   exact ⟨vs,t1,by rw [show o+k.size+i * k.size=o+(i+1) * k.size by rw [Nat.add_mul];omega];exact t2⟩)
  have hlen:=RepT.len h1
  refine ⟨v1++cl,⟨by simp [hlen,q1,Nat.add_mul];omega,fun v hv=>?_,fun i x hx=>?_⟩,fun j v hv=>?_⟩
  ·rcases List.mem_append.1 hv with hv | hv
   ·exact LR.ones ((leaves_rep k y v1).2 h1) v hv
   ·exact q2 v hv
  ·cases i with
   | zero =>
    simp at hx;subst hx
    refine ⟨v1,h1,fun j v hv=>?_⟩
    have hj:j < v1.length:=by obtain ⟨q,_⟩:=List.getElem?_eq_some_iff.1 hv;exact q
    rw [Nat.zero_mul,Nat.zero_add,List.getElem?_append_left hj];exact hv
   | succ i =>
    obtain ⟨vs,t1,t2⟩:=q3 i x (by simpa using hx)
    refine ⟨vs,t1,fun j v hv=>?_⟩
    rw [List.getElem?_append_right (by rw [hlen,Nat.add_mul];omega)]
    rw [hlen,show (i+1) * k.size+j - k.size=i * k.size+j by rw [Nat.add_mul];omega]
    exact t2 j v hv
  ·by_cases hj:j < v1.length
   ·rw [List.getElem?_append_left hj] at hv
    have:=h2 j v hv
    simpa using this
   ·rw [List.getElem?_append_right (by omega)] at hv
    have:=q4 _ v hv
    rw [hlen] at this hj
    rw [show o+k.size+(j - k.size)=o+j by omega] at this;exact this
def More (P:Program)(c:Cx)(k:K)(ys:List k.T)(x:Value):Prop :=
 (Builtin.lenOf x).run P c.w=.ok ys.length c.w/\∃ cl,Cl c k ys cl/\∀ w',Grew c.w w'->(Builtin.firstCells k.size ys.length x).run P w'=.ok cl.toArray w'
theorem At.grew {w w':World} {b o:Nat} {vs:List Value} (h:At w b o vs)(g:Grew w w'):At w' b o vs:=by
 intro j v hv
 have:=h j v hv
 refine (World.cell?_of_block (a:=⟨b,o+j,none⟩) (g.2.2.2.2 b ?_)).trans this
 simp only [World.cell?] at this
 split at this
 ·rename_i q;exact lt_of_some q
 ·cases this
theorem vis_more {P:Program} {c:Cx} {k:K} {ys:List k.T} {x:Value} (h:VisR c k ys x):More P c k ys x:=by
 obtain ⟨a,cap,rfl,h1,h2⟩:=h
 refine ⟨rfl,?_⟩
 by_cases hne:ys=[]
 ·subst hne
  refine ⟨[],⟨by simp,by simp,by simp⟩,fun w' _=>?_⟩
  cases a with
  | none=>rfl
  | some ad =>
   show (loadCells ad (([]:List k.T).length * k.size)).run P w'=_
   simp only [List.length_nil,Nat.zero_mul];rfl
 ·obtain ⟨ad,rfl,hsp,hel⟩:=h2 hne
  obtain ⟨cl,q1,q2⟩:=vis_cl (c:=c) (ids:=[]) ys hel
  refine ⟨cl,q1,fun w' hg=>?_⟩
  obtain ⟨b,o,sp⟩:=ad
  simp at hsp;subst hsp
  show (loadCells ⟨b,o,none⟩ (ys.length * k.size)).run P w'=_
  rw [<- q1.1]
  exact run_loadCells (q2.grew hg)
theorem nil_more {P:Program} {c:Cx} {k:K}:More P c k ([]:List k.T) (.slice none 0 0) :=
 ⟨rfl,[],⟨by simp,by simp,by simp⟩,fun _ _=>rfl⟩
theorem str_more {P:Program} {c:Cx} (sb:ByteArray):More P c (.int .u8) (bytesOf sb) (.string sb):=by
 refine ⟨by rw [bytesOf_length];rfl,_,cl_bytes c sb,fun w' _=>?_⟩
 show Result.ok ((sb.extract 0 (bytesOf sb).length).data.map fun b=>Value.int .u8 b.toNat) w'=_
 congr 1
 rw [bytesOf_length]
 apply Array.ext'
 simp
theorem moreOf_more {P:Program} {A:Ann} {w0:World} {M:MS} {c:Cx} (hm:Mem w0 M c)(hM:ManR A c) {hp:Nat->Option Obj} (hh:∀ id o,hp id=some o->c.hp id=some o) {k:K} {s:S} {x:Value} (hr:RepS c s x) {ys:List k.T} (h:moreOf hp k s=some ys):More P c k ys x:=by
 have other:(∀ q,s ≠ .str q)->More P c k ys x:=by
  intro hs
  have h':(match rowRd hp s with
   | .nil=>some []
   | .some k' xs=>cst k' k xs
   | .none=>none)=some ys:=by
   cases s<;>first | exact h | exact (hs _ rfl).elim
  split at h'
  ·rename_i hro
   simp only [Option.some.injEq] at h';subst h'
   rw [rd_nil hro hr];exact nil_more
  ·rename_i k' xs hro
   obtain ⟨rfl,rfl⟩:=cst_some h'
   exact vis_more (rd_vis hm hM hh hro hr)
  ·cases h'
 cases s with
 | str q =>
  simp only [moreOf] at h
  obtain ⟨e,rfl⟩:=cst_some h
  subst e
  obtain ⟨sb,rfl,rfl⟩:=hr
  exact str_more sb
 | _=>exact other (fun q h=>by cases h)
theorem growBy_le (newLen:Nat):∀ (r c:Nat),c<=newLen+(newLen+768) / 4->Builtin.growBy newLen r c<=newLen+(newLen+768) / 4
 | 0,c,h=>h
 | r+1,c,h=>by
  simp only [Builtin.growBy]
  split
  ·exact h
  ·exact growBy_le newLen r _ (by omega)
theorem nextcap_le (need old:Nat)(h:old < need):Builtin.nextslicecap need old<=need+need / 4+704:=by
 unfold Builtin.nextslicecap
 split
 ·omega
 ·split
  ·omega
  ·have:=growBy_le need 4 old (by omega);omega
theorem nextcap_bytes {need old bytes:Nat} (h:old < need)(hl:need * bytes<=lim)(hb:bytes<=1000000):¬ Builtin.nextslicecap need old * bytes > 2 ^ 48:=by
 have h1:=nextcap_le need old h
 have h2:Builtin.nextslicecap need old * bytes<=(need+need / 4+704) * bytes:=Nat.mul_le_mul_right _ h1
 have h3:(need+need / 4+704) * bytes=need * bytes+need / 4 * bytes+704 * bytes:=by rw [Nat.add_mul,Nat.add_mul]
 have h4:4 * (need / 4 * bytes)<=need * bytes:=by
  rw [<- Nat.mul_assoc];exact Nat.mul_le_mul_right _ (by omega)
 simp only [lim] at hl
 omega
theorem Cl.append {c:Cx} {k:K} {xs ys:List k.T} {c1 c2:List Value} (h1:Cl c k xs c1)(h2:Cl c k ys c2):Cl c k (xs++ys) (c1++c2):=by
 obtain ⟨a1,a2,a3⟩:=h1
 obtain ⟨b1,b2,b3⟩:=h2
 refine ⟨by simp [a1,b1,Nat.add_mul],fun v hv=>?_,fun i x hx=>?_⟩
 ·rcases List.mem_append.1 hv with hv | hv
  ·exact a2 v hv
  ·exact b2 v hv
 ·by_cases hi:i < xs.length
  ·rw [List.getElem?_append_left hi] at hx
   obtain ⟨vs,t1,t2⟩:=a3 i x hx
   refine ⟨vs,t1,fun j v hv=>?_⟩
   have:=t2 j v hv
   obtain ⟨q,_⟩:=List.getElem?_eq_some_iff.1 this
   rw [List.getElem?_append_left q];exact this
  ·rw [List.getElem?_append_right (by omega)] at hx
   obtain ⟨vs,t1,t2⟩:=b3 _ x hx
   refine ⟨vs,t1,fun j v hv=>?_⟩
   have:=t2 j v hv
   have e:i * k.size=(i - xs.length) * k.size+xs.length * k.size:=by rw [<- Nat.add_mul];congr 1;omega
   rw [List.getElem?_append_right (by rw [a1];omega),a1,e]
   rw [show (i - xs.length) * k.size+xs.length * k.size+j - xs.length * k.size=(i - xs.length) * k.size+j by omega]
   exact this
end
end Go.Eng
namespace Go.Eng
open Go.RowKit
section
variable {P:Program} {w0:World} {M:MS} {c:Cx}
theorem run_append_fit {w w':World} {ats:Array TypeId} {ty t t2 e:TypeId} {args:Array Value} {base:Option Addr} {n cap sz m:Nat} {x:Value} {cl:List Value} (h0:ats[0]?=some t)(h1:ats[1]?=some t2)(hu:P.underlying t=some (.slice e))(hu2:(∃ q,P.underlying t2=some (.slice q))\/P.underlying t2=some .string)
  (a0:args[0]?=some (.slice base n cap)) (a1:args[1]?=some x) (hs:sizeT P e=some sz) (hl:(Builtin.lenOf x).run P w=.ok m w) (hle:n+m<=cap) (hc:(Builtin.firstCells sz m x).run P w=.ok cl.toArray w)
  (hst:(base=none/\w'=w)\/∃ a,base=some a/\(storeCells (a.add (n * sz)) cl).run P w=.ok () w') :
  (Builtin.append_ ats ty args).run P w=.ok (.slice base (n+m) cap) w':=by
 unfold Builtin.append_
 simp only [h0,a0,a1]
 rw [run_ok (run_underlying hu w)]
 simp only []
 rw [run_ok (run_sizeOf hs w)]
 simp only [h1]
 have key:∀ td,P.underlying t2=some td->(∃ q,td=.slice q)\/td=.string->True:=fun _ _ _=>trivial
 rcases hu2 with ⟨q,hq⟩ | hq
 all_goals
  rw [run_ok (run_underlying hq w),run_pb]
  simp only [Bool.false_eq_true,if_false]
  rw [run_ok hl,if_pos hle]
  simp only [Bool.not_false,if_true]
  rw [run_ok hc]
  rcases hst with ⟨rfl,rfl⟩ | ⟨a,rfl,hst⟩
  ·rfl
  ·simp only []
   rw [run_ok hst];rfl
theorem run_append_grow {w:World} {ats:Array TypeId} {ty t t2 e:TypeId} {args:Array Value} {base:Option Addr} {n cap m:Nat} {k:K} {x:Value} {oc cl:List Value} (h0:ats[0]?=some t)(h1:ats[1]?=some t2)(hu:P.underlying t=some (.slice e))(hu2:(∃ q,P.underlying t2=some (.slice q))\/P.underlying t2=some .string)
  (a0:args[0]?=some (.slice base n cap)) (a1:args[1]?=some x) (hk:elemOk P e k=true) (hl:(Builtin.lenOf x).run P w=.ok m w) (hle:¬ n+m<=cap) (hlim:(n+m) * bytesT P e<=lim)
  (hoc:(Builtin.firstCells k.size n (.slice base n cap)).run P (drewW w)=.ok oc.toArray (drewW w)) (hol:oc.length=n * k.size)
  (hc:(Builtin.firstCells k.size m x).run P (drewW w)=.ok cl.toArray (drewW w)) (hcl:cl.length=m * k.size) :
  ∃ cap' arr,n+m<=cap'/\arr.size=cap' * k.size/\(∃ rest,arr.toList=oc++cl++rest) /\
   (Builtin.append_ ats ty args).run P w=.ok (.slice (some ⟨w.heap.size,0,none⟩) (n+m) cap') (pushW (drewW w) (.cells arr e (0,0))):=by
 obtain ⟨i,z,hi,hs,hz,hzl,hbt,hb1,hb2⟩:=elemOk_some hk
 obtain ⟨cap',hcap,hch⟩:=run_choose (P:=P) (w:=w) (need:=n+m) (old:=cap) (e:=e)
 obtain ⟨zv,z1,z2,z3⟩:=run_zeroValue hz (drewW w)
 have hzs:zv.cells.size=k.size:=by rw [<- hzl,<- z2];simp
 let arr:Array Value:=oc.toArray++cl.toArray++Builtin.zeroCells zv.cells (cap' - (n+m))
 have harr:arr.size=cap' * k.size:=by
  simp only [arr,Array.size_append,List.size_toArray,Builtin.zeroCells,Array.size_map,Array.size_range,hzs,hol,hcl]
  rw [<- Nat.add_mul,<- Nat.add_mul];congr 1;omega
 refine ⟨cap',arr,hcap,harr,⟨(Builtin.zeroCells zv.cells (cap' - (n+m))).toList,by simp [arr]⟩,?_⟩
 have hbl:¬ Builtin.nextslicecap (n+m) cap * i.bytes > 2 ^ 48:=nextcap_bytes (by omega) (by rw [<- hbt];exact hlim) hb1
 have hmx:¬ (((n+m:Nat):Int) > IntKind.i64.max/\(False\/i.bytes=0)):=by rintro ⟨_,q | q⟩<;>omega
 unfold Builtin.append_
 simp only [h0,a0,a1]
 rw [run_ok (run_underlying hu w)]
 simp only []
 rw [run_ok (run_sizeOf hs w)]
 simp only [h1]
 rcases hu2 with ⟨q,hq⟩ | hq
 all_goals
  rw [run_ok (run_underlying hq w),run_pb]
  simp only [Bool.false_eq_true,if_false]
  rw [run_ok hl,if_neg hle]
  rw [run_ok (run_typeInfo hi w)]
  rw [if_neg hmx]
  rw [run_ok (run_typeInfo hi w)]
  rw [if_neg hbl]
  rw [run_ok hch,run_ok (run_typeInfo hi (drewW w)),run_ok (run_askRoom _),run_ok hoc]
  simp only [Bool.not_false,if_true]
  rw [run_ok hc,run_ok z1,run_ok (run_newRow e arr)];rfl
theorem append_nil {A:Ann} (hm:Mem w0 M c)(hM:ManR A c) {hp:Nat->Option Obj} (hh:∀ id o,hp id=some o->c.hp id=some o) {d:Nat} (hd:c.hp d=none) {ats:Array TypeId} {ty t t2 e:TypeId} {args:Array Value} {k:K} {s:S} {x:Value} {ys:List k.T}
  (h0:ats[0]?=some t) (h1:ats[1]?=some t2) (hu:P.underlying t=some (.slice e)) (hu2:(∃ q,P.underlying t2=some (.slice q))\/P.underlying t2=some .string)
  (a0:args[0]?=some (.slice none 0 0)) (a1:args[1]?=some x) (hk:elemOk P e k=true) (hr:RepS c s x) (hy:moreOf hp k s=some ys) (hlim:ys.length * bytesT P e<=lim) :
  StepOk w0 M c ((do pure (Next.value (<- Builtin.append_ ats ty args)):Sem Next).run P c.w) (.val false [.vw d 0]) [(d,.row k ys 0 [] false)]:=by
 obtain ⟨hl,cl,hcl,hf⟩:=moreOf_more (P:=P) hm hM hh hr hy
 obtain ⟨i,z,hi,hs,_⟩:=elemOk_some hk
 by_cases h:ys.length=0
 ·have:ys=[]:=List.length_eq_zero_iff.1 h
  subst this
  refine new_nil hm hd k (run_val ?_)
  have:=run_append_fit (P:=P) (w':=c.w) (ty:=ty) h0 h1 hu hu2 a0 a1 hs hl (by simp) (hf c.w (Grew.refl _)) (.inl ⟨rfl,rfl⟩)
  simpa using this
 ·obtain ⟨cap',arr,q1,q2,⟨rest,q3⟩,q4⟩:=run_append_grow (P:=P) (ty:=ty) (k:=k) (oc:=[]) h0 h1 hu hu2 a0 a1 hk hl (by omega) (by rw [Nat.zero_add];exact hlim) rfl (by simp) (hf _ (grew_drew _)) (by rw [hcl.1])
  simp only [Nat.zero_add] at q1 q4
  refine new_row hm hd hcl ((grew_drew c.w).trans (grew_push _ _)) (b:=(drewW c.w).heap.size) (Nat.le_refl _) (blkFree_push _ arr e) (fun j v hv=>?_) q1 (by rw [q2];exact Nat.le_refl _) (run_val q4)
  rw [<- Array.getElem?_toList,q3]
  obtain ⟨hj,_⟩:=List.getElem?_eq_some_iff.1 hv
  rw [List.nil_append,List.getElem?_append_left hj];exact hv
theorem append_own {A:Ann} (hm:Mem w0 M c)(hM:ManR A c) {hp:Nat->Option Obj} (hh:∀ id o,hp id=some o->c.hp id=some o) {id:Nat} {ats:Array TypeId} {ty t t2 e:TypeId} {args:Array Value} {k:K} {s:S} {v0 x:Value} {xs ys:List k.T} {gen:Nat} {hist:List (List k.T)}
  (h0:ats[0]?=some t) (h1:ats[1]?=some t2) (hu:P.underlying t=some (.slice e)) (hu2:(∃ q,P.underlying t2=some (.slice q))\/P.underlying t2=some .string)
  (a0:args[0]?=some v0) (a1:args[1]?=some x) (hk:elemOk P e k=true) (ho:c.hp id=some (.row k xs gen hist false)) (hv:RepS c (.vw id gen) v0) (hr:RepS c s x) (hy:moreOf hp k s=some ys) (hlim:(xs.length+ys.length) * bytesT P e<=lim) :
  StepOk w0 M c ((do pure (Next.value (<- Builtin.append_ ats ty args)):Sem Next).run P c.w) (.val false [.vw id (gen+1)]) [(id,.row k (xs++ys) (gen+1) (xs::hist) false)]:=by
 obtain ⟨hl,cl,hcl,hf⟩:=moreOf_more (P:=P) hm hM hh hr hy
 obtain ⟨i,z,hi,hs,_⟩:=elemOk_some hk
 obtain ⟨_,o,e1,hvv⟩:=hv
 rw [ho] at e1;cases e1
 obtain ⟨_,hnow,_⟩:=hvv _ _ _ _ _ rfl
 have hnow:=hnow rfl
 have hvis0:=vis_now hm ho hnow
 rw [List.drop_zero,List.take_length] at hvis0
 obtain ⟨_,oc,hoc,hof⟩:=vis_more (P:=P) hvis0.r
 have hro:=hm.obj id _ ho
 have hlive:∀ b,c.β id=some b->Live c id b:=fun b hb=>⟨hb,_,ho,rfl⟩
 -- what other values say behind it
 have idsOk:∀ (w':World) (S':Nat->Prop) (β':Option Nat),(∀ b,c.S b->w'.heap[b]?=c.w.heap[b]?)->(∀ b,c.S b->S' b) ->
   (∀ v,VwNow c id k 0 xs.length xs.length v->VwOld (c.turn id w' S' β' (.row k (xs++ys) (gen+1) (xs::hist) false)) id (xs++ys).length k xs v) ->
   (∀ zs v,VwOld c id xs.length k zs v->VwOld (c.turn id w' S' β' (.row k (xs++ys) (gen+1) (xs::hist) false)) id (xs++ys).length k zs v) ->
   ∀ s v,s.ids=[id]->RepS c s v->RepS (c.turn id w' S' β' (.row k (xs++ys) (gen+1) (xs::hist) false)) s v:=by
  intro w' S' β' hst hsub hA hB s v hsi hrs
  have hhp:(c.turn id w' S' β' (.row k (xs++ys) (gen+1) (xs::hist) false)).hp id=some (.row k (xs++ys) (gen+1) (xs::hist) false):=by simp [Cx.turn,upd]
  cases s<;>simp only [S.ids,List.cons.injEq,and_true,reduceCtorEq] at hsi
  case vw j g =>
   subst hsi
   obtain ⟨t0,o,t1,t2⟩:=hrs
   rw [ho] at t1;cases t1
   obtain ⟨p1,p2,p3⟩:=t2 _ _ _ _ _ rfl
   refine ⟨t0,_,hhp,fun k' xs' gen' hist' frz' e'=>?_⟩
   cases e'
   refine ⟨by omega,fun hg=>by omega,fun _ zs hz=>?_⟩
   by_cases hg:g=gen
   ·subst hg
    rw [show g+1 - 1 - g=0 by omega] at hz
    simp at hz;subst hz
    exact hA v (p2 rfl)
   ·obtain ⟨m,hm'⟩:∃ m,gen+1 - 1 - g=m+1:=⟨gen - 1 - g,by omega⟩
    rw [hm'] at hz
    simp only [List.getElem?_cons_succ] at hz
    exact hB zs v (p3 hg zs (by rw [show gen - 1 - g=m by omega];exact hz))
  case pv j g off len =>
   subst hsi
   obtain ⟨t0,o,t1,t2⟩:=hrs
   rw [ho] at t1;cases t1
   refine ⟨t0,_,hhp,fun k' xs' gen' hist' frz' e'=>?_⟩
   cases e'
   have:=(t2 _ _ _ _ _ rfl).1
   exact ⟨by omega,fun hg=>by omega⟩
  case mp j=>exact row_ids (c:=c) rfl hhp (.inl rfl) (by simp [S.ids,hsi]) rfl hrs
  case rp t i off=>exact row_ids (c:=c) rfl hhp (.inl rfl) (by simp [S.ids,hsi]) rfl hrs
  case ov j g i=>exact row_ids (c:=c) rfl hhp (.inl rfl) (by simp [S.ids,hsi]) rfl hrs
  case oe j g i q p=>exact row_ids (c:=c) rfl hhp (.inl rfl) (by simp [S.ids,hsi]) rfl hrs
  case bm f j=>exact row_ids (c:=c) rfl hhp (.inl rfl) (by simp [S.ids,hsi]) rfl hrs
  case ptr j g q p =>
   subst hsi
   obtain ⟨t0,o,t1,tp,t2,t3⟩:=hrs
   rw [ho] at t1;cases t1
   refine ⟨t0,_,hhp,tp,fun cs e'=>by (cases e'),fun k' xs' gen' hist' frz' e'=>?_⟩
   cases e'
   have:=(t3 _ _ _ _ _ rfl).1
   exact ⟨by omega,fun hg=>by omega⟩
 -- the slice value itself
 have hv0:∃ base cap,v0=.slice base xs.length cap/\xs.length<=cap:=by
  obtain ⟨a,cap,q1,q2,_⟩:=hvis0;exact ⟨a,cap,q1,q2⟩
 obtain ⟨base,cap,rfl,hcap⟩:=hv0
 by_cases hle:xs.length+ys.length<=cap
 ·-- it fits
  simp only [VwNow] at hnow
  cases hbb:c.β id with
  | none =>
   rw [hbb] at hnow
   simp only [RepO,hbb] at hro
   subst hro
   obtain ⟨q1,_⟩:=hnow
   cases q1
   have hy0:ys=[]:=List.length_eq_zero_iff.1 (by simpa using hle)
   subst hy0
   have hrun:=run_append_fit (P:=P) (w':=c.w) (ty:=ty) h0 h1 hu hu2 a0 a1 hs hl hle (hf c.w (Grew.refl _)) (.inl ⟨rfl,rfl⟩)
   have ht:Turn w0 M c id c.w c.S none (.row k ([]++[]) (gen+1) ([]::hist) false):=by
    refine ⟨rfl,rfl,rfl,Nat.le_refl _,fun _ _ _=>rfl,fun _ h=>h,fun b hb=>⟨hm.below b hb,.inl hb⟩,⟨_,ho⟩,by simp [RepO,Cx.turn],fun b hb=>by (cases hb),?_⟩
    refine idsOk c.w c.S none (fun _ _=>rfl) (fun _ h=>h) (fun v hvn=>?_) (fun zs v hvo=>?_)
    ·simp only [VwNow,hbb] at hvn
     exact ⟨none,0,by simpa using hvn.1,by simp,fun h=>(h rfl).elim⟩
    ·obtain ⟨a,cap,q1,q2,q3⟩:=hvo
     refine ⟨a,cap,q1,q2,fun hne=>?_⟩
     obtain ⟨ad,r1,r2,r3,r4⟩:=q3 hne
     refine ⟨ad,r1,r2,?_,r4⟩
     rcases r3 with r3 | r3
     ·exact .inl r3
     ·rw [hbb] at r3;cases r3.1
   refine ⟨_,c.turn id c.w c.S none (.row k ([]++[]) (gen+1) ([]::hist) false),run_val hrun,ht.mem hm,ht.ext hm,by rw [hpU_cons,hpU_nil];rfl,.inl ⟨_,rfl,repV_one ?_⟩⟩
   refine ⟨rfl,_,by simp [Cx.turn,upd];rfl,fun k' xs' gen' hist' frz' e'=>?_⟩
   cases e'
   exact ⟨Nat.le_refl _,fun _=>by simp [VwNow,Cx.turn],fun h=>(h rfl).elim⟩
  | some b =>
   rw [hbb] at hnow
   obtain ⟨cap',arr,a,q1,q2,q3,q4,q5⟩:=hnow
   cases q1
   simp only [RepO,hbb] at hro
   obtain ⟨⟨arr1,p1,p2,p3⟩,p4,p5⟩:=hro
   have earr:=q3.uniq p1
   subst earr
   obtain ⟨arr2,p6⟩:=p4 trivial
   have earr:=q3.uniq p6.blk
   subst earr
   obtain ⟨T,fz,hb1,hb2⟩:=p6
   -- the store
   have hstore:∃ w',(storeCells (a.add (xs.length * k.size)) cl).run P c.w=.ok () w'/\w'.os=c.w.os/\w'.tape=c.w.tape/\w'.output=c.w.output/\w'.heap.size=c.w.heap.size/\w'.heap[b]?=some (.cells (arrOver arr (xs.length * k.size) cl) T fz)/\(∀ j,j ≠ b->w'.heap[j]?=c.w.heap[j]?)/\xs.length * k.size+cl.length<=arr.size:=by
    by_cases hy0:cl=[]
    ·subst hy0
     exact ⟨c.w,rfl,rfl,rfl,rfl,rfl,by simpa [arrOver] using hb1,fun _ _=>rfl,by simpa using p2⟩
    ·have hc0:0 < cap:=by
      have:ys.length ≠ 0:=by
       intro h
       have:=hcl.1
       rw [h] at this
       simp at this
       exact hy0 this
      omega
     obtain ⟨rfl,hsz⟩:=q5 hc0
     have hroom:xs.length * k.size+cl.length<=arr.size:=by
      rw [hcl.1,<- Nat.add_mul]
      refine Nat.le_trans (Nat.mul_le_mul_right _ hle) (by simpa using hsz)
     obtain ⟨w',s1,s2⟩:=run_storeCells (P:=P) (b:=b) (o:=0+xs.length * k.size) cl 0 c.w arr hcl.2.1 hb1 (by omega) (fun j j1 j2=>hb2.1 j (by omega))
     refine ⟨w',by rw [show (⟨b,0 * k.size,none⟩:Addr).add (xs.length * k.size)=⟨b,0+xs.length * k.size,none⟩ by rw [add_mk];simp];exact s1,s2.os,s2.tape,s2.output,s2.size,by simpa using s2.here,s2.other,hroom⟩
   obtain ⟨w',s1,s2,s3,s4,s5,s6,s7,s8⟩:=hstore
   have hrun:=run_append_fit (P:=P) (w':=w') (ty:=ty) h0 h1 hu hu2 a0 a1 hs hl hle (hf c.w (Grew.refl _)) (.inr ⟨a,rfl,s1⟩)
   have hsz2:(arrOver arr (xs.length * k.size) cl).size=arr.size:=arrOver_size _ _ _
   have hget:=fun j=>arrOver_get cl arr (xs.length * k.size) j s8
   have hstab:∀ b',c.S b'->w'.heap[b']?=c.w.heap[b']?:=fun b' hb'=>s7 b' (by rintro rfl;exact (hm.live id b' (hlive b' hbb)).2.1 hb')
   have hel:∀ (i:Nat) (x:k.T),(xs++ys)[i]?=some x->∃ vs,RepT c.te w' c.S k x vs/\∀ (j:Nat) v,vs[j]?=some v->(arrOver arr (xs.length * k.size) cl)[i * k.size+j]?=some v:=by
    intro i x hx
    by_cases hi:i < xs.length
    ·rw [List.getElem?_append_left hi] at hx
     obtain ⟨vs,t1,t2⟩:=p3 i x hx
     refine ⟨vs,RepT.mono hstab (fun _ h=>h) t1,fun j v hv=>?_⟩
     have hj:j < k.size:=by rw [<- RepT.len t1];obtain ⟨q,_⟩:=List.getElem?_eq_some_iff.1 hv;exact q
     rw [hget,if_neg]
     ·exact t2 j v hv
     ·have:(i+1) * k.size<=xs.length * k.size:=Nat.mul_le_mul_right _ hi
      rw [Nat.add_mul] at this;omega
    ·rw [List.getElem?_append_right (by omega)] at hx
     obtain ⟨vs,t1,t2⟩:=hcl.2.2 _ x hx
     refine ⟨vs,RepT.mono hstab (fun _ h=>h) t1,fun j v hv=>?_⟩
     have h3:=t2 j v hv
     obtain ⟨hq,_⟩:=List.getElem?_eq_some_iff.1 h3
     have e:i * k.size=(i - xs.length) * k.size+xs.length * k.size:=by rw [<- Nat.add_mul];congr 1;omega
     rw [hget,if_pos (by omega),show i * k.size+j - xs.length * k.size=(i - xs.length) * k.size+j by omega]
     exact h3
   have ht:Turn w0 M c id w' c.S (some b) (.row k (xs++ys) (gen+1) (xs::hist) false):=by
    refine ⟨s2,s3,s4,by omega,fun j hj hnl=>s7 j (by rintro rfl;exact hnl (hlive j hbb)),fun _ h=>h,fun b' hb'=>⟨by rw [s5];exact hm.below b' hb',.inl hb'⟩,⟨_,ho⟩,?_,fun b' hb' _=>?_,?_⟩
    ·have hβ:(c.turn id w' c.S (some b) (.row k (xs++ys) (gen+1) (xs::hist) false)).β id=some b:=by simp [Cx.turn]
     unfold RepO
     simp only [hβ]
     refine ⟨⟨_,⟨T,fz,s6⟩,?_,hel⟩,fun _=>⟨_,T,fz,s6,by rw [hsz2];exact hb2⟩,fun h=>by (cases h)⟩
     rw [hsz2,List.length_append,Nat.add_mul,<- hcl.1];exact s8
    ·cases hb'
     exact ⟨by rw [s5];exact (hm.live id b (hlive b hbb)).1,(hm.live id b (hlive b hbb)).2.1,.inl (hlive b hbb)⟩
    ·refine idsOk w' c.S (some b) hstab (fun _ h=>h) (fun v hvn=>?_) (fun zs v hvo=>?_)
     ·simp only [VwNow,hbb] at hvn
      obtain ⟨cp,ar,ad,y1,y2,y3,y4,y5⟩:=hvn
      refine ⟨some ad,cp,y1,y2,fun hne=>?_⟩
      have hpos:0 < xs.length:=List.length_pos_iff.2 hne
      obtain ⟨rfl,_⟩:=y5 (by omega)
      refine ⟨_,rfl,rfl,.inr ⟨by simp [Cx.turn],by simp [Nat.add_mul]⟩,fun i x hx=>?_⟩
      obtain ⟨hi,_⟩:=List.getElem?_eq_some_iff.1 hx
      obtain ⟨vs,t1,t2⟩:=hel i x (by rw [List.getElem?_append_left hi];exact hx)
      refine ⟨vs,t1,?_⟩
      exact at_of_arr ⟨T,fz,s6⟩ (fun j v hv=>by simpa using t2 j v hv)
     ·obtain ⟨ad0,cp,y1,y2,y3⟩:=hvo
      refine ⟨ad0,cp,y1,y2,fun hne=>?_⟩
      obtain ⟨ad,r1,r2,r3,r4⟩:=y3 hne
      refine ⟨ad,r1,r2,?_,fun i x hx=>?_⟩
      ·rcases r3 with r3 | r3
       ·exact .inl r3
       ·exact .inr ⟨by have:=r3.1;rw [hbb] at this;simpa [Cx.turn] using this,Nat.le_trans r3.2 (Nat.mul_le_mul_right _ (by simp))⟩
      ·obtain ⟨vs,t1,t2⟩:=r4 i x hx
       refine ⟨vs,RepT.mono hstab (fun _ h=>h) t1,?_⟩
       rcases r3 with r3 | ⟨r3,r5⟩
       ·exact t2.of (hstab _ r3)
       ·rw [hbb] at r3;cases r3
        refine at_of_arr ⟨T,fz,s6⟩ (fun j v hv=>?_)
        have h3:=arr_of_at p1 t2 j v hv
        obtain ⟨hi,_⟩:=List.getElem?_eq_some_iff.1 hx
        have hj:j < k.size:=by rw [<- RepT.len t1];obtain ⟨q,_⟩:=List.getElem?_eq_some_iff.1 hv;exact q
        rw [hget,if_neg]
        ·exact h3
        ·have:(i+1) * k.size<=zs.length * k.size:=Nat.mul_le_mul_right _ hi
         rw [Nat.add_mul] at this;omega
   refine ⟨_,c.turn id w' c.S (some b) (.row k (xs++ys) (gen+1) (xs::hist) false),run_val hrun,ht.mem hm,ht.ext hm,by rw [hpU_cons,hpU_nil];rfl,.inl ⟨_,rfl,repV_one ?_⟩⟩
   refine ⟨rfl,_,by simp [Cx.turn,upd];rfl,fun k' xs' gen' hist' frz' e'=>?_⟩
   cases e'
   refine ⟨Nat.le_refl _,fun _=>?_,fun h=>(h rfl).elim⟩
   have hβ:(c.turn id w' c.S (some b) (.row k (xs++ys) (gen+1) (xs::hist) false)).β id=some b:=by simp [Cx.turn]
   simp only [VwNow,hβ]
   exact ⟨cap,_,a,by simp,by simpa using hle,⟨T,fz,s6⟩,by simp,fun hc0=>⟨(q5 hc0).1,by rw [hsz2];exact (q5 hc0).2⟩⟩
 ·-- it does not
  obtain ⟨cap',arr,q1,q2,⟨rest,q3⟩,q4⟩:=run_append_grow (P:=P) (ty:=ty) (k:=k) h0 h1 hu hu2 a0 a1 hk hl hle hlim (hof _ (grew_drew _)) hoc.1 (hf _ (grew_drew _)) hcl.1
  let w':=pushW (drewW c.w) (.cells arr e (0,0))
  have hg:Grew c.w w':=(grew_drew c.w).trans (grew_push _ _)
  have hbf:BlkFree w' c.w.heap.size arr:=blkFree_push (drewW c.w) arr e
  have hsize:w'.heap.size=c.w.heap.size+1:=by simp [w',pushW,drewW]
  have hall:=hoc.append hcl
  have hel:∀ (i:Nat) (x:k.T),(xs++ys)[i]?=some x->∃ vs,RepT c.te c.w c.S k x vs/\∀ (j:Nat) v,vs[j]?=some v->arr[i * k.size+j]?=some v:=by
   intro i x hx
   obtain ⟨vs,t1,t2⟩:=hall.2.2 i x hx
   refine ⟨vs,t1,fun j v hv=>?_⟩
   have:=t2 j v hv
   obtain ⟨hq,_⟩:=List.getElem?_eq_some_iff.1 this
   rw [<- Array.getElem?_toList,q3,List.getElem?_append_left hq];exact this
  have hstab:∀ b',c.S b'->w'.heap[b']?=c.w.heap[b']?:=fun b' hb'=>hg.2.2.2.2 b' (hm.below b' hb')
  have ht:Turn w0 M c id w' (fun b=>c.S b\/Live c id b) (some c.w.heap.size) (.row k (xs++ys) (gen+1) (xs::hist) false):=by
   refine ⟨hg.1,hg.2.1,hg.2.2.1,by omega,fun j hj _=>hg.2.2.2.2 j hj,fun _ h=>.inl h,fun b' hb'=>?_,⟨_,ho⟩,?_,fun b' hb' _=>?_,?_⟩
   ·rcases hb' with hb' | hb'
    ·exact ⟨Nat.lt_of_lt_of_le (hm.below b' hb') (by omega),.inl hb'⟩
    ·exact ⟨Nat.lt_of_lt_of_le (hm.live id b' hb').1 (by omega),.inr hb'⟩
   ·have hβ:(c.turn id w' (fun b=>c.S b\/Live c id b) (some c.w.heap.size) (.row k (xs++ys) (gen+1) (xs::hist) false)).β id=some c.w.heap.size:=by simp [Cx.turn]
    unfold RepO
    simp only [hβ]
    refine ⟨⟨arr,hbf.blk,?_,fun i x hx=>?_⟩,fun _=>⟨arr,hbf⟩,fun h=>by (cases h)⟩
    ·rw [q2,List.length_append];exact Nat.mul_le_mul_right _ q1
    ·obtain ⟨vs,t1,t2⟩:=hel i x hx
     exact ⟨vs,RepT.mono hstab (fun _ h=>.inl h) t1,t2⟩
   ·cases hb'
    refine ⟨by omega,?_,.inr (Nat.le_refl _)⟩
    rintro (hb | hb)
    ·exact Nat.lt_irrefl _ (hm.below _ hb)
    ·exact Nat.lt_irrefl _ (hm.live id _ hb).1
   ·have at_grew:∀ {b o vs},At c.w b o vs->At w' b o vs:=fun h=>h.grew hg
    refine idsOk w' _ _ hstab (fun _ h=>.inl h) (fun v hvn=>?_) (fun zs v hvo=>?_)
    ·obtain ⟨a,cp,y1,y2,y3⟩:=vis_now hm ho hvn
     simp only [List.drop_zero,List.take_length] at y1 y2 y3
     refine ⟨a,cp,y1,y2,fun hne=>?_⟩
     obtain ⟨ad,r1,r2,r3,r4⟩:=y3 hne
     refine ⟨ad,r1,r2,.inl ?_,fun i x hx=>?_⟩
     ·rcases r3 with r3 | ⟨j,hj,r3⟩
      ·exact .inl r3
      ·simp at hj;subst hj;exact .inr (hlive _ r3)
     ·obtain ⟨vs,t1,t2⟩:=r4 i x hx
      exact ⟨vs,RepT.mono hstab (fun _ h=>.inl h) t1,at_grew t2⟩
    ·obtain ⟨a,cp,y1,y2,y3⟩:=hvo
     refine ⟨a,cp,y1,y2,fun hne=>?_⟩
     obtain ⟨ad,r1,r2,r3,r4⟩:=y3 hne
     refine ⟨ad,r1,r2,.inl ?_,fun i x hx=>?_⟩
     ·rcases r3 with r3 | r3
      ·exact .inl r3
      ·exact .inr (hlive _ r3.1)
     ·obtain ⟨vs,t1,t2⟩:=r4 i x hx
      exact ⟨vs,RepT.mono hstab (fun _ h=>.inl h) t1,at_grew t2⟩
  refine ⟨_,c.turn id w' (fun b=>c.S b\/Live c id b) (some c.w.heap.size) (.row k (xs++ys) (gen+1) (xs::hist) false),run_val q4,ht.mem hm,ht.ext hm,by rw [hpU_cons,hpU_nil];rfl,.inl ⟨_,rfl,repV_one ?_⟩⟩
  refine ⟨rfl,_,by simp [Cx.turn,upd];rfl,fun k' xs' gen' hist' frz' e'=>?_⟩
  cases e'
  refine ⟨Nat.le_refl _,fun _=>?_,fun h=>(h rfl).elim⟩
  have hβ:(c.turn id w' (fun b=>c.S b\/Live c id b) (some c.w.heap.size) (.row k (xs++ys) (gen+1) (xs::hist) false)).β id=some c.w.heap.size:=by simp [Cx.turn]
  simp only [VwNow,hβ]
  exact ⟨cap',arr,⟨c.w.heap.size,0,none⟩,by rw [List.length_append],by simpa using q1,hbf.blk,by simp,fun _=>⟨by simp,by rw [q2];simp⟩⟩
end
end Go.Eng
namespace Go.Eng
open Go.RowKit
theorem wr_get {α:Type} (X new:List α)(o j:Nat)(h:o+new.length<=X.length):(X.take o++new++X.drop (o+new.length))[j]?=if o<=j/\j < o+new.length then new[j - o]? else X[j]?:=by
 have ht:(X.take o).length=o:=by simp;omega
 rw [List.append_assoc]
 by_cases h1:j < o
 ·rw [if_neg (by omega),List.getElem?_append_left (by omega),List.getElem?_take,if_pos h1]
 ·rw [List.getElem?_append_right (by omega),ht]
  by_cases h2:j < o+new.length
  ·rw [if_pos ⟨by omega,h2⟩,List.getElem?_append_left (by omega)]
  ·rw [if_neg (by omega),List.getElem?_append_right (by omega),List.getElem?_drop]
   congr 1;omega
theorem mem_idsOf {id:Nat}:∀ {l:List S},id ∈ idsOf l ↔ ∃ s ∈ l,id ∈ s.ids
 | []=>by simp [idsOf]
 | s::r=>by simp [idsOf,mem_idsOf (l:=r)]
theorem idsOf_leaves:∀ (k:K)(x:k.T)(s:S),s ∈ leaves k x->s.ids=[]
 | .int _,_,s,h=>by simp [leaves] at h;subst h;rfl
 | .bool,_,s,h=>by simp [leaves] at h;subst h;rfl
 | .str,_,s,h=>by simp [leaves] at h;subst h;rfl
 | .err,_,s,h=>by simp [leaves] at h;subst h;rfl
 | .fn,_,s,h=>by simp [leaves] at h;subst h;rfl
 | .ref _,_,s,h=>by simp [leaves] at h;subst h;rfl
 | .slice _,_,s,h=>by simp [leaves] at h;subst h;rfl
 | .prod a b,x,s,h=>by
  simp only [leaves,List.mem_append] at h
  rcases h with h | h
  ·exact idsOf_leaves a x.1 s h
  ·exact idsOf_leaves b x.2 s h
 | .strct a,x,s,h=>idsOf_leaves a x s h
theorem ext_turn {w0:World} {M:MS} {c:Cx} (hm:Mem w0 M c) {id:Nat} {w':World} {S':Nat->Prop} {β':Option Nat} {o':Obj} (hblk:∀ b,b < c.w.heap.size->¬ Live c id b->w'.heap[b]?=c.w.heap[b]?)(hsub:∀ b,c.S b->S' b)
  (hids:∀ s v,s.ids=[id]->RepS c s v->RepS (c.turn id w' S' β' o') s v):Ext c (c.turn id w' S' β' o'):=by
 have hstab:∀ b,c.S b->w'.heap[b]?=c.w.heap[b]?:=fun b hb=>hblk b (hm.below b hb) fun hl=>(hm.live id b hl).2.1 hb
 refine ⟨rfl,hstab,hsub,fun j s v hs hr=>?_⟩
 by_cases hj:j=id
 ·subst hj;exact hids s v hs hr
 ·refine RepS.same (id:=j) (c:=c) rfl hstab hsub (by simp [Cx.turn,hj]) (fun b o hb ho hrow=>?_) (fun o ho=>by simp [Cx.turn,upd,hj,ho]) hs hr
  obtain ⟨x,hx⟩:=blk_of_repO (hm.obj j o ho) (.inr hrow) hb
  refine hblk b (lt_of_some hx) fun hid=>?_
  by_cases hv:o.live=true
  ·exact hj (hm.one j id b ⟨hb,o,ho,hv⟩ hid)
  ·cases o with
   | box cs=>cases hrow
   | mp k es=>cases hrow
   | fm es=>cases hrow
   | col=>cases hrow
   | row k xs gen hist frz =>
    have hf:frz=true:=by simpa [Obj.live] using hv
    have:=hm.obj j _ ho
    simp only [RepO,hb] at this
    exact (hm.live id b hid).2.1 (this.2.2 hf)
theorem frzU_keys {hp:Nat->Option Obj}:∀ {ids:List Nat} {u:Upd},frzU hp ids=some u->∀ {id:Nat},id ∉ ids->hget u id=none
 | [],u,h,id,_=>by simp [frzU] at h;subst h;rfl
 | i::r,u,h,id,hid=>by
  simp only [frzU] at h
  split at h
  ·simp only [Option.some.injEq] at h;subst h
   simp only [List.mem_cons,not_or] at hid
   simp only [hget]
   cases hb:Nat.beq i id with
   | true=>exact (hid.1 (Nat.eq_of_beq_eq_true hb).symm).elim
   | false=>exact frzU_keys (by assumption) hid.2
  ·cases h
theorem run_storeAt {P:Program} {c:Cx} {t:TypeId} {b o:Nat} {T:TypeId} {fz:Nat × Nat} {arr:Array Value} {new:List S} {v:Value} {g:Bool} (hs:sizeT P t=some new.length)(hv:RepV c (.val g new) v)(hb:c.w.heap[b]?=some (.cells arr T fz))(hfz:FzOk arr.size fz)(hsz:o+new.length<=arr.size) :
  ∃ w' vn,LR (RepS c) new vn/\Stored c.w w' b (arrOver arr o vn) T fz/\(Instr.storeAt t (.pointer (some ⟨b,o,none⟩)) v).run P c.w=.ok () w':=by
 have hl:=repV_cells hv
 have hlen:=hl.length
 obtain ⟨w',s1,s2⟩:=run_storeCells (P:=P) (b:=b) (o:=o) v.cells.toList 0 c.w arr (LR.ones hl) hb (by omega) (fun j j1 j2=>hfz.1 j (by omega))
 refine ⟨w',_,hl,by simpa using s2,?_⟩
 unfold Instr.storeAt
 rw [run_ok (show (Instr.sureAddr (.pointer (some ⟨b,o,none⟩))).run P c.w=.ok ⟨b,o,none⟩ c.w from rfl)]
 unfold storeVar
 rw [run_ok (run_sizeOf hs c.w),if_neg (by simp at hlen;omega)]
 exact s1
section
variable {P:Program} {A:Ann} {fid:Nat} {w0:World} {M:MS} {c:Cx} {ρ:Operand->AV} {r:Operand->Value} {hp:Nat->Option Obj} {o:Oper} {v:AV} {u:Upd}
theorem colStore_ne {t i off n:Nat} {new:List S} {cb:Bool} (h:colStore P hp t i off n new=.ok cb v u):False:=by
 unfold colStore at h
 split at h
 ·revert h
  generalize (Nat.beq _ _ && Nat.beq _ _)=q
  cases q with
  | false=>simp
  | true =>
   intro h
   simp only [cond_true] at h
   split at h
   ·split at h
    ·revert h;generalize Nat.beq _ _=q;cases q<;>simp
    ·cases h
   ·split at h
    ·revert h;generalize (Nat.beq _ _ && Nat.beq _ _ && Nat.beq _ _)=q;cases q<;>simp
    ·cases h
   ·split at h
    ·revert h;generalize Nat.beq _ _=q;cases q<;>simp
    ·cases h
   ·split at h
    ·revert h
     generalize (Nat.beq _ _ && Nat.beq _ _)=q
     cases q with
     | false=>simp
     | true =>
      intro h
      simp only [cond_true] at h
      split at h<;>cases h
    ·cases h
   ·cases h
 ·cases h
theorem core_store (hm:Mem w0 M c)(hh:∀ id o,hp id=some o->c.hp id=some o)(hr:∀ x,RepV c (ρ x) (r x)) {t:TypeId} {a x:Operand} (ho:o.op=.store t a x)(h:core P A fid ρ hp o=.ok true v u) :
  StepOk w0 M c ((execOp r o).run P c.w) v u:=by
 simp only [core,ho] at h
 simp only [execOp,ho]
 have hx:=hr x
 split at h
 ·rename_i id g i p gg new n hsl ex hs
  rw [ex] at hx
  have hra:=slot_rep hr hsl
  cases hb:Nat.beq new.length n with
  | false=>rw [hb] at h;cases h
  | true =>
   rw [hb] at h
   simp only [cond_true] at h
   have hn:=Nat.eq_of_beq_eq_true hb
   subst hn
   split at h
   ·-- a box
    rename_i cs hid
    cases hb2:(Nat.beq g 0 && Nat.beq i 0 && !cs.isEmpty) with
    | false=>rw [hb2] at h;cases h
    | true =>
     rw [hb2] at h
     simp only [cond_true] at h
     split at h
     ·rename_i cs' hset
      simp only [Out.ok.injEq,true_and] at h
      obtain ⟨rfl,rfl⟩:=h
      have e1:=hh id _ hid
      obtain ⟨_,ob,t1,tp,t2,t3⟩:=hra
      rw [e1] at t1;cases t1
      have hne:cs ≠ []:=by rintro rfl;simp at hb2
      obtain ⟨b,hβ,ev,hg0,hi0⟩:=t2 cs rfl hne
      obtain ⟨b',arr,q1,⟨T,fz,q2,q3⟩,q4⟩:=hm.obj id _ e1 hne
      rw [hβ] at q1;cases q1
      obtain ⟨w1,w2⟩:=setP_eq p new cs cs' hset tp
      have hlen:=q4.length
      simp only [List.length_take,Array.length_toList] at hlen
      obtain ⟨w',vn,s1,s2,s3⟩:=run_storeAt (P:=P) (o:=pathOff p) hs hx q2 q3 (by omega)
      have hln:=s1.length
      have hlive:Live c id b:=⟨hβ,_,e1,by simp [Obj.live,hne]⟩
      have hcl:cs'.length=cs.length:=by rw [w2];simp;omega
      have hne':cs' ≠ []:=by intro h;rw [h] at hcl;simp at hcl;exact hne (List.length_eq_zero_iff.1 hcl.symm)
      have hblk:∀ j,j < c.w.heap.size->¬ Live c id j->w'.heap[j]?=c.w.heap[j]?:=fun j _ hl=>s2.other j (by rintro rfl;exact hl hlive)
      have hids:∀ s v,s.ids=[id]->RepS c s v->RepS (c.turn id w' c.S (some b) (.box cs')) s v:=by
       intro s v hsi hrs
       have hhp:(c.turn id w' c.S (some b) (.box cs')).hp id=some (.box cs'):=by simp [Cx.turn,upd]
       cases s<;>simp only [S.ids,List.cons.injEq,and_true,reduceCtorEq] at hsi
       case vw j g=>subst hsi;exact ⟨hrs.1,_,hhp,fun k xs gen hist frz e=>by cases e⟩
       case pv j g off len=>subst hsi;exact ⟨hrs.1,_,hhp,fun k xs gen hist frz e=>by cases e⟩
       case mp j=>exact box_ids (c:=c) rfl e1 hne hhp (by simp [Cx.turn,hβ]) (by simp [S.ids,hsi]) rfl hrs
       case rp t i off=>exact box_ids (c:=c) rfl e1 hne hhp (by simp [Cx.turn,hβ]) (by simp [S.ids,hsi]) rfl hrs
       case ov j g i=>exact box_ids (c:=c) rfl e1 hne hhp (by simp [Cx.turn,hβ]) (by simp [S.ids,hsi]) rfl hrs
       case oe j g i q p=>exact box_ids (c:=c) rfl e1 hne hhp (by simp [Cx.turn,hβ]) (by simp [S.ids,hsi]) rfl hrs
       case bm f j=>exact box_ids (c:=c) rfl e1 hne hhp (by simp [Cx.turn,hβ]) (by simp [S.ids,hsi]) rfl hrs
       case ptr j g i p =>
        subst hsi
        obtain ⟨z0,oo,z1,z2,z3,z4⟩:=hrs
        rw [e1] at z1;cases z1
        obtain ⟨b2,y1,y2,y3⟩:=z3 cs rfl hne
        rw [hβ] at y1;cases y1
        exact ⟨z0,_,hhp,z2,fun cs2 e2 _=>⟨b,by simp [Cx.turn],y2,y3⟩,fun k xs gen hist frz e=>by cases e⟩
      have he:=ext_turn hm (β':=some b) (o':=.box cs') hblk (fun _ h=>h) hids
      have ht:Turn w0 M c id w' c.S (some b) (.box cs'):=by
       refine ⟨s2.os,s2.tape,s2.output,by rw [s2.size];exact Nat.le_refl _,hblk,fun _ h=>h,fun b' hb'=>⟨by rw [s2.size];exact hm.below b' hb',.inl hb'⟩,⟨_,e1⟩,fun _=>?_,fun b' hb' _=>?_,hids⟩
       ·refine ⟨b,_,by simp [Cx.turn],⟨T,fz,s2.here,by rw [arrOver_size];exact q3⟩,?_⟩
        have hal:(arrOver arr (pathOff p) vn).toList.length=arr.size:=by rw [Array.length_toList];exact arrOver_size _ _ _
        refine LR.of_get (by rw [List.length_take,hal];omega) fun j x y hx hy=>?_
        rw [List.getElem?_take] at hy
        split at hy
        ·rw [Array.getElem?_toList,arrOver_get vn arr _ j (by omega)] at hy
         rw [w2,wr_get _ _ _ _ w1] at hx
         rw [<- hln] at hy
         refine he.rep ?_
         split at hy
         ·rw [if_pos (by assumption)] at hx
          obtain ⟨y',e2,e3⟩:=s1.get _ _ hx
          rw [hy] at e2;cases e2;exact e3
         ·rw [if_neg (by assumption)] at hx
          obtain ⟨y',e2,e3⟩:=q4.get _ _ hx
          rw [List.getElem?_take] at e2
          split at e2
          ·rw [Array.getElem?_toList,hy] at e2;cases e2;exact e3
          ·cases e2
        ·cases hy
       ·cases hb'
        exact ⟨by rw [s2.size];exact (hm.live id b hlive).1,(hm.live id b hlive).2.1,.inl hlive⟩
      refine ⟨.skip,c.turn id w' c.S (some b) (.box cs'),?_,ht.mem hm,he,by rw [hpU_cons,hpU_nil];rfl,.inr ⟨rfl,rfl⟩⟩
      rw [ev]
      exact run_unit s3
     ·cases h
   ·-- a row's element
    rename_i k xs gen hist hid
    cases hb2:(Nat.beq g gen && !(idsOf new).contains id) with
    | false=>rw [hb2] at h;cases h
    | true =>
     rw [hb2] at h
     simp only [cond_true] at h
     simp only [Bool.and_eq_true,Bool.not_eq_true'] at hb2
     have hg:=Nat.eq_of_beq_eq_true hb2.1
     have hni:id ∉ idsOf new:=by
      have:=hb2.2
      intro hmem
      rw [List.contains_iff_mem.2 hmem] at this;cases this
     split at h
     ·rename_i cs' uf hset huf
      split at h
      ·rename_i y hy
       simp only [Out.ok.injEq,true_and] at h
       obtain ⟨rfl,rfl⟩:=h
       have e1:=hh id _ hid
       obtain ⟨c1,f1,f2,m1,x1,p1,p2⟩:=frz_ok hm hh huf
       have e2:c1.hp id=some (.row k xs gen hist false):=by
        rw [p1];unfold hpU;rw [frzU_keys huf hni];exact e1
       -- the element as it was
       obtain ⟨_,ob,t1,tp,t2,t3⟩:=hra
       rw [e1] at t1;cases t1
       obtain ⟨hlt,b,hβ,ev⟩:=(t3 _ _ _ _ _ rfl).2 hg
       have hro:=hm.obj id _ e1
       unfold RepO at hro
       simp only [hβ] at hro
       obtain ⟨⟨arr,q1,q2,q3⟩,q4,_⟩:=hro
       obtain ⟨arr',q5⟩:=q4 trivial
       have earr:=q1.uniq q5.blk
       subst earr
       obtain ⟨T,fz,q6,q7⟩:=q5
       have hxi:xs[i]?=some (xs.getD i k.dflt):=by
        rw [List.getElem?_eq_getElem hlt,List.getD_eq_getElem?_getD,List.getElem?_eq_getElem hlt];rfl
       obtain ⟨vs,r1,r2⟩:=q3 i _ hxi
       have hlv:=(leaves_rep k _ vs).2 r1
       have hvl:=RepT.len r1
       obtain ⟨w1,w2⟩:=setP_eq p new _ cs' hset tp
       have hll:=hlv.length
       have hroom:i * k.size+k.size<=xs.length * k.size:=by
        have:(i+1) * k.size<=xs.length * k.size:=Nat.mul_le_mul_right _ hlt
        rw [Nat.add_mul] at this;omega
       obtain ⟨w',vn,s1,s2,s3⟩:=run_storeAt (P:=P) (o:=i * k.size+pathOff p) hs hx q6 q7 (by omega)
       have hln:=s1.length
       -- the element as it is
       have hl2:=hlv.wr s1 w2
       have hyr:RepT c.te c.w c1.S k y (vs.take (pathOff p)++vn++vs.drop (pathOff p+vn.length)):=by
        refine rei1_rep hm hh x1.sub (fun j hj=>?_) hl2 hy
        obtain ⟨s,hs1,hs2⟩:=mem_idsOf.1 hj
        rw [w2] at hs1
        rcases List.mem_append.1 hs1 with hs1 | hs1
        ·rcases List.mem_append.1 hs1 with hs1 | hs1
         ·rw [idsOf_leaves k _ s (List.mem_of_mem_take hs1)] at hs2;simp at hs2
         ·exact p2 j (mem_idsOf.2 ⟨s,hs1,hs2⟩)
        ·rw [idsOf_leaves k _ s (List.mem_of_mem_drop hs1)] at hs2;simp at hs2
       have hβ1:c1.β id=some b:=by rw [f2];exact hβ
       have hlive:Live c1 id b:=⟨hβ1,_,e2,rfl⟩
       have hblk:∀ j,j < c1.w.heap.size->¬ Live c1 id j->w'.heap[j]?=c1.w.heap[j]?:=fun j _ hl=>by rw [f1];exact s2.other j (by rintro rfl;exact hl hlive)
       have hstab:∀ j,c1.S j->w'.heap[j]?=c1.w.heap[j]?:=fun j hj=>hblk j (m1.below j hj) fun hl=>(m1.live id j hl).2.1 hj
       have hsz2:(arrOver arr (i * k.size+pathOff p) vn).size=arr.size:=arrOver_size _ _ _
       have hids:∀ s v,s.ids=[id]->RepS c1 s v->RepS (c1.turn id w' c1.S (some b) (.row k (xs.set i y) gen [] false)) s v:=by
        intro s v hsi hrs
        have hhp:(c1.turn id w' c1.S (some b) (.row k (xs.set i y) gen [] false)).hp id=some (.row k (xs.set i y) gen [] false):=by simp [Cx.turn,upd]
        have hβ2:(c1.turn id w' c1.S (some b) (.row k (xs.set i y) gen [] false)).β id=c1.β id:=by simp [Cx.turn,hβ1]
        have hbk:∀ b',c1.β id=some b'->∀ ar,Blk c1.w b' ar->∃ ar',Blk (c1.turn id w' c1.S (some b) (.row k (xs.set i y) gen [] false)).w b' ar'/\ar.size<=ar'.size:=by
         intro b' hb' ar har
         rw [hβ1] at hb';cases hb'
         rw [f1] at har
         have:=har.uniq q1
         subst this
         exact ⟨_,⟨T,fz,s2.here⟩,by rw [hsz2];exact Nat.le_refl _⟩
        cases s<;>simp only [S.ids,List.cons.injEq,and_true,reduceCtorEq] at hsi
        case vw j g2 =>
         subst hsi
         obtain ⟨z0,oo,z1,z2⟩:=hrs
         rw [e2] at z1;cases z1
         obtain ⟨y1,y2,y3⟩:=z2 _ _ _ _ _ rfl
         refine ⟨z0,_,hhp,fun k' xs' gen' hist' frz' e'=>?_⟩
         cases e'
         refine ⟨y1,fun hg2=>?_,fun _ zs hz=>by simp at hz⟩
         rw [List.length_set]
         exact VwNow.of hβ2 hbk (y2 hg2)
        case pv j g2 off len =>
         subst hsi
         obtain ⟨z0,oo,z1,z2⟩:=hrs
         rw [e2] at z1;cases z1
         obtain ⟨y1,y2⟩:=z2 _ _ _ _ _ rfl
         refine ⟨z0,_,hhp,fun k' xs' gen' hist' frz' e'=>?_⟩
         cases e'
         refine ⟨y1,fun hg2=>?_⟩
         rw [List.length_set]
         exact VwNow.of hβ2 hbk (y2 hg2)
        case mp j=>exact row_ids (c:=c1) rfl hhp (.inl rfl) (by simp [S.ids,hsi]) rfl hrs
        case rp t i off=>exact row_ids (c:=c1) rfl hhp (.inl rfl) (by simp [S.ids,hsi]) rfl hrs
        case ov j g i=>exact row_ids (c:=c1) rfl hhp (.inl rfl) (by simp [S.ids,hsi]) rfl hrs
        case oe j g i q p=>exact row_ids (c:=c1) rfl hhp (.inl rfl) (by simp [S.ids,hsi]) rfl hrs
        case bm f j=>exact row_ids (c:=c1) rfl hhp (.inl rfl) (by simp [S.ids,hsi]) rfl hrs
        case ptr j g2 i2 p2 =>
         subst hsi
         obtain ⟨z0,oo,z1,zp,z2,z3⟩:=hrs
         rw [e2] at z1;cases z1
         refine ⟨z0,_,hhp,zp,fun cs e'=>by (cases e'),fun k' xs' gen' hist' frz' e'=>?_⟩
         cases e'
         rw [hβ2,List.length_set]
         exact z3 _ _ _ _ _ rfl
       have ht:Turn w0 M c1 id w' c1.S (some b) (.row k (xs.set i y) gen [] false):=by
        refine ⟨by rw [f1];exact s2.os,by rw [f1];exact s2.tape,by rw [f1];exact s2.output,by rw [f1,s2.size];exact Nat.le_refl _,hblk,fun _ h=>h,fun b' hb'=>⟨by rw [s2.size,<- f1];exact m1.below b' hb',.inl hb'⟩,⟨_,e2⟩,?_,fun b' hb' _=>?_,hids⟩
        ·have hβ2:(c1.turn id w' c1.S (some b) (.row k (xs.set i y) gen [] false)).β id=some b:=by simp [Cx.turn]
         unfold RepO
         simp only [hβ2]
         refine ⟨⟨_,⟨T,fz,s2.here⟩,by rw [hsz2,List.length_set];exact q2,fun j x hx=>?_⟩,fun _=>⟨_,T,fz,s2.here,by rw [hsz2];exact q7⟩,fun h=>by (cases h)⟩
         have hget:=fun q=>arrOver_get vn arr (i * k.size+pathOff p) q (by omega)
         by_cases hj:j=i
         ·subst hj
          rw [List.getElem?_set_self hlt] at hx
          simp only [Option.some.injEq] at hx;subst hx
          refine ⟨_,RepT.mono (w:=c1.w) hstab (fun _ h=>h) (by rw [f1];have:=hyr;rw [<- x1.te] at this;exact this),fun q v hv=>?_⟩
          rw [wr_get _ _ _ _ (by omega)] at hv
          rw [hget]
          split at hv
          ·rw [if_pos (by omega),show j * k.size+q - (j * k.size+pathOff p)=q - pathOff p by omega];exact hv
          ·rw [if_neg (by omega)];exact r2 q v hv
         ·rw [List.getElem?_set_ne (by omega)] at hx
          obtain ⟨vs2,u1,u2⟩:=q3 j x hx
          refine ⟨vs2,RepT.mono (w:=c.w) (fun b' hb'=>by have:=hstab b' (x1.sub b' hb');rw [f1] at this;exact this) x1.sub (by rw [show (c1.turn id w' c1.S (some b) (.row k (xs.set i y) gen [] false)).te=c.te from x1.te];exact u1),fun q v hv=>?_⟩
          have hq:q < k.size:=by rw [<- RepT.len u1];obtain ⟨z,_⟩:=List.getElem?_eq_some_iff.1 hv;exact z
          rw [hget,if_neg]
          ·exact u2 q v hv
          ·rintro ⟨c1',c2'⟩
           rcases Nat.lt_or_ge j i with hji | hji
           ·have:(j+1) * k.size<=i * k.size:=Nat.mul_le_mul_right _ hji
            rw [Nat.add_mul] at this;omega
           ·have:(i+1) * k.size<=j * k.size:=Nat.mul_le_mul_right _ (by omega)
            rw [Nat.add_mul] at this;omega
        ·cases hb'
         exact ⟨by rw [s2.size,<- f1];exact (m1.live id b hlive).1,(m1.live id b hlive).2.1,.inl hlive⟩
       have hstep:StepOk w0 M c1 ((do Instr.storeAt t (r a) (r x);pure Next.skip:Sem Next).run P c.w) .undef [(id,.row k (xs.set i y) gen [] false)]:=by
        refine ⟨.skip,c1.turn id w' c1.S (some b) (.row k (xs.set i y) gen [] false),?_,ht.mem m1,ht.ext m1,by rw [hpU_cons,hpU_nil];rfl,.inr ⟨rfl,rfl⟩⟩
        rw [ev]
        exact run_unit s3
       exact hstep.after x1 p1 (fun j=>hpU_append _ _ _ j)
      ·cases h
     ·cases h
   ·cases h
 ·rename_i t' i off gg new n hsl ex hs
  revert h
  cases Nat.beq new.length n with
  | false=>simp
  | true=>exact fun h=>(colStore_ne (P:=P) h).elim
 ·cases h
theorem core_mark (hm:Mem w0 M c)(hh:∀ id o,hp id=some o->c.hp id=some o)(hr:∀ x,RepV c (ρ x) (r x)) {st dt:TypeId} {x:Operand} (ho:o.op=.convert st dt x) {id g:Nat} {e0 e:TypeId}
  (hx:slot x ρ=some (.vw id g)) (hsu:P.underlying st=some (.slice e0)) (hdu:P.underlying dt=some (.slice e)) (h:core P A fid ρ hp o=.ok true v u) :
  StepOk w0 M c ((execOp r o).run P c.w) v u:=by
 simp only [core,ho,hx,hsu,hdu] at h
 simp only [execOp,ho]
 split at h
 ·rename_i k xs gen hist heu hid
  cases hb:(Nat.beq g gen && Nat.beq st dt) with
  | false=>rw [hb] at h;cases h
  | true =>
   rw [hb] at h
   simp only [cond_true,Out.ok.injEq,Bool.not_eq_true'] at h
   obtain ⟨hne,rfl,rfl⟩:=h
   simp only [Bool.and_eq_true] at hb
   have hg:=Nat.eq_of_beq_eq_true hb.1
   have hst:=Nat.eq_of_beq_eq_true hb.2
   subst hg
   subst hst
   have hxs:0 < xs.length:=by
    rcases xs with _ | ⟨y,ys⟩
    ·simp at hne
    ·simp
   have e1:=hh id _ hid
   have hrx:=slot_rep hr hx
   obtain ⟨hone,ob,t1,t2⟩:=hrx
   rw [e1] at t1;cases t1
   have hnow:=(t2 _ _ _ _ _ rfl).2.1 rfl
   have hro:=hm.obj id _ e1
   unfold RepO at hro
   cases hβ:c.β id with
   | none=>simp only [hβ] at hro;rw [hro] at hxs;simp at hxs
   | some b =>
   simp only [hβ] at hro
   unfold VwNow at hnow
   simp only [hβ] at hnow
   obtain ⟨cap,arr,a,ev,hle,hblk0,_,hcap⟩:=hnow
   obtain ⟨rfl,_⟩:=hcap (by omega)
   obtain ⟨⟨arr1,p1,p2,p3⟩,p4,p5⟩:=hro
   have earr:=hblk0.uniq p1
   subst earr
   obtain ⟨arr2,T,fz,q1,q2⟩:=p4 trivial
   have earr:=hblk0.uniq ⟨T,fz,q1⟩
   subst earr
   let w':=freezeW c.w b arr.size
   let fz':Nat × Nat:=if fz.1 == fz.2 then (arr.size,arr.size+1) else (min fz.1 arr.size,max fz.2 (arr.size+1))
   have hfz':FzOk arr.size fz':=by
    show FzOk arr.size (if fz.1 == fz.2 then (arr.size,arr.size+1) else (min fz.1 arr.size,max fz.2 (arr.size+1)))
    split
    ·exact ⟨fun o ho=>(by show ¬ (arr.size<=o/\o < arr.size+1);omega),Nat.le_succ _⟩
    ·rename_i hne2
     have hne3:fz.1 ≠ fz.2:=by simpa using hne2
     have hle2:=q2.2
     have hge:arr.size<=fz.1:=by
      rcases Nat.lt_or_ge fz.1 arr.size with q | q
      ·exact (q2.1 fz.1 q ⟨Nat.le_refl _,by omega⟩).elim
      ·exact q
     exact ⟨fun o ho=>(by show ¬ (min fz.1 arr.size<=o/\o < max fz.2 (arr.size+1));omega),(by show min fz.1 arr.size<=max fz.2 (arr.size+1);omega)⟩
   have hwb:w'.heap[b]?=some (.cells arr T fz'):=by
    show (c.w.freeze { block:=b,off:=arr.size } 1).heap[b]?=_
    unfold World.freeze
    rw [if_neg (by decide)]
    simp only [Array.getElem?_modify,if_pos,q1]
    rfl
   have hwo:∀ j,j ≠ b->w'.heap[j]?=c.w.heap[j]?:=by
    intro j hj
    show (c.w.freeze { block:=b,off:=arr.size } 1).heap[j]?=_
    unfold World.freeze
    rw [if_neg (by decide)]
    simp only [Array.getElem?_modify]
    rw [if_neg (fun h=>hj h.symm)]
   have hwsz:w'.heap.size=c.w.heap.size:=by
    show (c.w.freeze { block:=b,off:=arr.size } 1).heap.size=_
    unfold World.freeze
    rw [if_neg (by decide)]
    simp
   have hwos:w'.os=c.w.os/\w'.tape=c.w.tape/\w'.output=c.w.output:=by
    show (c.w.freeze _ 1).os=_/\(c.w.freeze _ 1).tape=_/\(c.w.freeze _ 1).output=_
    unfold World.freeze
    rw [if_neg (by decide)]
    exact ⟨rfl,rfl,rfl⟩
   have hlive:Live c id b:=⟨hβ,_,e1,rfl⟩
   have hblk:∀ j,j < c.w.heap.size->¬ Live c id j->w'.heap[j]?=c.w.heap[j]?:=fun j _ hl=>hwo j (by rintro rfl;exact hl hlive)
   have hstab:∀ j,c.S j->w'.heap[j]?=c.w.heap[j]?:=fun j hj=>hblk j (hm.below j hj) fun hl=>(hm.live id j hl).2.1 hj
   have hids:∀ s v,s.ids=[id]->RepS c s v->RepS (c.turn id w' c.S (some b) (.row k xs g [] false)) s v:=by
    intro s v hsi hrs
    have hhp:(c.turn id w' c.S (some b) (.row k xs g [] false)).hp id=some (.row k xs g [] false):=by simp [Cx.turn,upd]
    have hβ2:(c.turn id w' c.S (some b) (.row k xs g [] false)).β id=c.β id:=by simp [Cx.turn,hβ]
    have hbk:∀ b',c.β id=some b'->∀ ar,Blk c.w b' ar->∃ ar',Blk (c.turn id w' c.S (some b) (.row k xs g [] false)).w b' ar'/\ar.size<=ar'.size:=by
     intro b' hb' ar har
     rw [hβ] at hb';cases hb'
     have:=har.uniq ⟨T,fz,q1⟩
     subst this
     exact ⟨_,⟨T,fz',hwb⟩,Nat.le_refl _⟩
    cases s<;>simp only [S.ids,List.cons.injEq,and_true,reduceCtorEq] at hsi
    case vw j g2 =>
     subst hsi
     obtain ⟨z0,oo,z1,z2⟩:=hrs
     rw [e1] at z1;cases z1
     obtain ⟨y1,y2,y3⟩:=z2 _ _ _ _ _ rfl
     refine ⟨z0,_,hhp,fun k' xs' gen' hist' frz' e'=>?_⟩
     cases e'
     exact ⟨y1,fun hg2=>VwNow.of hβ2 hbk (y2 hg2),fun _ zs hz=>by simp at hz⟩
    case pv j g2 off len =>
     subst hsi
     obtain ⟨z0,oo,z1,z2⟩:=hrs
     rw [e1] at z1;cases z1
     obtain ⟨y1,y2⟩:=z2 _ _ _ _ _ rfl
     refine ⟨z0,_,hhp,fun k' xs' gen' hist' frz' e'=>?_⟩
     cases e'
     exact ⟨y1,fun hg2=>VwNow.of hβ2 hbk (y2 hg2)⟩
    case mp j=>exact row_ids (c:=c) rfl hhp (.inl rfl) (by simp [S.ids,hsi]) rfl hrs
    case rp t i off=>exact row_ids (c:=c) rfl hhp (.inl rfl) (by simp [S.ids,hsi]) rfl hrs
    case ov j g i=>exact row_ids (c:=c) rfl hhp (.inl rfl) (by simp [S.ids,hsi]) rfl hrs
    case oe j g i q p=>exact row_ids (c:=c) rfl hhp (.inl rfl) (by simp [S.ids,hsi]) rfl hrs
    case bm f j=>exact row_ids (c:=c) rfl hhp (.inl rfl) (by simp [S.ids,hsi]) rfl hrs
    case ptr j g2 i2 p2 =>
     subst hsi
     obtain ⟨z0,oo,z1,zp,z2,z3⟩:=hrs
     rw [e1] at z1;cases z1
     refine ⟨z0,_,hhp,zp,fun cs e'=>by (cases e'),fun k' xs' gen' hist' frz' e'=>?_⟩
     cases e'
     rw [hβ2]
     exact z3 _ _ _ _ _ rfl
   have ht:Turn w0 M c id w' c.S (some b) (.row k xs g [] false):=by
    refine ⟨hwos.1,hwos.2.1,hwos.2.2,by rw [hwsz];exact Nat.le_refl _,hblk,fun _ h=>h,fun b' hb'=>⟨by rw [hwsz];exact hm.below b' hb',.inl hb'⟩,⟨_,e1⟩,?_,fun b' hb' _=>?_,hids⟩
    ·have hβ2:(c.turn id w' c.S (some b) (.row k xs g [] false)).β id=some b:=by simp [Cx.turn]
     unfold RepO
     simp only [hβ2]
     refine ⟨⟨_,⟨T,fz',hwb⟩,p2,fun j x hx=>?_⟩,fun _=>⟨_,T,fz',hwb,hfz'⟩,fun h=>by (cases h)⟩
     obtain ⟨vs,r1,r2⟩:=p3 j x hx
     exact ⟨vs,RepT.mono (w:=c.w) hstab (fun _ h=>h) r1,r2⟩
    ·cases hb'
     exact ⟨by rw [hwsz];exact (hm.live id b hlive).1,(hm.live id b hlive).2.1,.inl hlive⟩
   have hrv:RepS (c.turn id w' c.S (some b) (.row k xs g [] false)) (.vw id g) (r x):=hids (.vw id g) (r x) rfl (slot_rep hr hx)
   refine ⟨.value (r x),c.turn id w' c.S (some b) (.row k xs g [] false),?_,ht.mem hm,ht.ext hm,by rw [hpU_cons,hpU_nil];rfl,.inl ⟨_,rfl,repV_one hrv⟩⟩
   refine run_val ?_
   rw [ev]
   unfold convert
   rw [run_ok (run_underlying hsu c.w),run_ok (run_underlying hdu c.w)]
   simp only []
   rw [run_ok (run_underlying heu c.w)]
   simp only [beq_self_eq_true]
   have hmk:(markStringish ⟨b,0 * k.size,none⟩).run P c.w=.ok () w':=by
    unfold markStringish
    have hshape:(shape b).run P c.w=.ok (some (T,arr.size)) c.w:=by
     show Result.ok (c.w.shape? b) c.w=_
     simp only [World.shape?,q1]
    rw [run_ok hshape];rfl
   rw [run_ok hmk];rfl
 ·cases h
theorem core_convert2 (hm:Mem w0 M c)(hh:∀ id o,hp id=some o->c.hp id=some o)(hf:∀ d,o.dst=some d->hp d=none->c.hp d=none)(hr:∀ x,RepV c (ρ x) (r x)) {st dt:TypeId} {x:Operand} (ho:o.op=.convert st dt x)(h:core P A fid ρ hp o=.ok true v u) :
  StepOk w0 M c ((execOp r o).run P c.w) v u:=by
 by_cases hs:∃ id g e0 e,slot x ρ=some (.vw id g)/\P.underlying st=some (.slice e0)/\P.underlying dt=some (.slice e)
 ·obtain ⟨id,g,e0,e,h1,h2,h3⟩:=hs
  exact core_mark hm hh hr ho h1 h2 h3 h
 ·exact core_convert hm hh hf hr ho (fun id g e0 e q=>hs ⟨id,g,e0,e,q⟩) h
end
end Go.Eng
namespace Go.Eng
open Go.RowKit
section
variable {P:Program} {A:Ann} {fid:Nat} {w0:World} {M:MS} {c:Cx} {ρ:Operand->AV} {r:Operand->Value} {hp:Nat->Option Obj} {o:Oper} {v:AV} {u:Upd}
theorem bif_ok {q:Bool} {a:Out} {cb:Bool} {v:AV} {u:Upd} (h:(bif q then a else .bad)=.ok cb v u):a=.ok cb v u:=by
 cases q with
 | false=>cases h
 | true=>exact h
theorem lr_map {α:Type} {c:Cx} {f:α->AV} {g:α->Value} (l:List α)(h:∀ x,RepV c (f x) (g x)):LR (RepV c) (l.map f) (l.map g):=by
 induction l with
 | nil=>trivial
 | cons a r ih=>exact ⟨h a,ih⟩
theorem core_builtin (hm:Mem w0 M c)(hM:ManR A c)(hh:∀ id o,hp id=some o->c.hp id=some o)(hf:∀ d,o.dst=some d->hp d=none->c.hp d=none)(hr:∀ x,RepV c (ρ x) (r x)) {cc:Call} {b:Builtin} (ho:o.op=.call cc)(hb:cc.callee=.builtin b)(h:builtinS P hp o.dst b cc.argTypes.toList (cc.args.toList.map ρ)=.ok true v u) :
  StepOk w0 M c ((execOp r o).run P c.w) v u:=by
 have hlr:LR (RepV c) (cc.args.toList.map ρ) (cc.args.map r).toList:=by rw [Array.toList_map];exact lr_map _ hr
 have e1:(execOp r o).run P c.w=(builtin b cc.argTypes o.type (cc.args.map fun | .const _=>true | _=>false) (cc.args.map r)).run P c.w:=by
  simp only [execOp,ho,resolve,hb]
  rw [run_pb];rfl
 rw [e1]
 by_cases ha:b=.append
 ·subst ha
  unfold builtinS at h
  simp only [] at h
  split at h
  ·rename_i t t2 a1 a2 ht ht2 hargs
   split at h
   ·rename_i s x hs hx
    have ht':cc.argTypes[0]?=some t:=by rw [<- Array.getElem?_toList];exact ht
    have ht2':cc.argTypes[1]?=some t2:=by rw [<- Array.getElem?_toList];exact ht2
    rw [hargs] at hlr
    match hvs:(cc.args.map r).toList,hlr with
    | [v0,v1],hlr =>
     have a0:(cc.args.map r)[0]?=some v0:=by rw [<- Array.getElem?_toList,hvs];rfl
     have a1:(cc.args.map r)[1]?=some v1:=by rw [<- Array.getElem?_toList,hvs];rfl
     have r0:=slot1_rep hs hlr.1
     have r1:=slot1_rep hx hlr.2.1
     unfold builtin
     simp only []
     unfold appB at h
     have main:∀ {e:TypeId},elemT P t=some e->((∃ q,P.underlying t2=some (.slice q))\/P.underlying t2=some .string)->appendS P hp o.dst e s x=.ok true v u ->
       StepOk w0 M c ((do pure (Next.value (<- Builtin.append_ cc.argTypes o.type (cc.args.map r))):Sem Next).run P c.w) v u:=by
      intro e hel hu2 hz
      have hu:=elemT_some hel
      unfold appendS at hz
      split at hz
      ·split at hz
       ·rename_i k d hk hfr
        obtain ⟨hd,hd2⟩:=fresh_some hfr
        cases hek:elemOk P e k with
        | false=>rw [hek] at hz;cases hz
        | true =>
         rw [hek] at hz
         simp only [Bool.not_true,cond_false] at hz
         split at hz
         ·rename_i ys hy
          simp only [Out.ok.injEq,decide_eq_true_eq] at hz
          obtain ⟨hlim,rfl,rfl⟩:=hz
          have hn:v0=.slice none 0 0:=r0
          subst hn
          exact append_nil hm hM hh (hf d hd hd2) ht' ht2' hu hu2 a0 a1 hek r1 hy hlim
         ·cases hz
       ·cases hz
      ·split at hz
       ·rename_i id g x2 k xs gen hist hid
        cases hc:(Nat.beq g gen && decide (kd P e=some k) && elemOk P e k) with
        | false=>rw [hc] at hz;cases hz
        | true =>
         rw [hc] at hz
         simp only [cond_true] at hz
         simp only [Bool.and_eq_true] at hc
         have hg:=Nat.eq_of_beq_eq_true hc.1.1
         subst hg
         split at hz
         ·rename_i ys hy
          simp only [Out.ok.injEq,decide_eq_true_eq] at hz
          obtain ⟨hlim,rfl,rfl⟩:=hz
          exact append_own hm hM hh ht' ht2' hu hu2 a0 a1 hc.2 (hh _ _ hid) r0 r1 hy hlim
         ·cases hz
       ·cases hz
      ·split at hz
       ·have hz:=bif_ok hz
        split at hz<;>cases hz
       ·cases hz
      ·cases hz
     split at h
     ·rename_i e q hel hq
      exact main hel (.inl ⟨q,hq⟩) h
     ·rename_i e hel hq
      exact main hel (.inr hq) h
     ·cases h
   ·cases h
  ·cases h
 ·exact builtin_quiet hm hM hh ha hlr h _
theorem repE_inj {k:K} {x:k.T} {v:Value} (h:RepE c.te k x v):RepV c (inj k x) v:=by
 cases k with
 | int k=>exact ⟨_,rfl,h⟩
 | bool=>exact ⟨_,rfl,h⟩
 | ref t=>exact ⟨_,rfl,h⟩
 | _=>exact h.elim
theorem repT_E {te:TE} {w:World} {Sb:Nat->Prop} {k:K} {x:k.T} {v:Value} (hk:scalK k=true)(h:RepT te w Sb k x [v]):RepE te k x v:=by
 cases k with
 | int k=>obtain ⟨h1,h2⟩:=h;cases h1;exact ⟨rfl,h2⟩
 | bool=>cases h;rfl
 | ref t=>obtain ⟨v',e,h⟩:=h;cases e;exact h
 | _=>cases hk
theorem zeroS_run {te:TE} {et:TypeId} {k:K} (h:zeroS P et k=true)(w:World):∃ z,(zeroValue et).run P w=.ok z w/\RepE te k k.dflt z:=by
 unfold zeroS at h
 split at h
 ·rename_i i hi
  split at h
  ·rename_i kk k' n hz
   simp only [Bool.and_eq_true,decide_eq_true_eq] at h
   obtain ⟨rfl,rfl⟩:=h
   refine ⟨.int kk 0,?_,?_⟩
   ·unfold zeroValue
    rw [run_ok (run_typeInfo hi w)]
    simp only [hz];rfl
   ·exact ⟨rfl,by unfold okI okB;cases kk<;>rfl⟩
  ·rename_i b hz
   have hb:b=false:=by cases b<;>simp_all
   subst hb
   refine ⟨.bool false,?_,?_⟩
   ·unfold zeroValue
    rw [run_ok (run_typeInfo hi w)]
    simp only [hz];rfl
   ·rfl
  ·rename_i t hz
   refine ⟨.pointer none,?_,?_⟩
   ·unfold zeroValue
    rw [run_ok (run_typeInfo hi w)]
    simp only [hz];rfl
   ·rfl
  ·cases h
 ·cases h
theorem sameNow_int (a b:Int):Instr.sameNow (.int .i64) (.int .i64 a) (.int .i64 b)=some (a == b):=rfl
theorem map_spec {te:TE} {k:K} (n:Int)(x:k.T):∀ (es:List (Int × k.T))(l:List MapEntry)(i:Nat),LR (RepM te k) es l ->
  (Instr.findNow (.int .i64) (.int .i64 n) l i=some none/\mapGet k.dflt es n=k.dflt/\mapPut es n x=es++[(n,x)]) \/
  ∃ j e,Instr.findNow (.int .i64) (.int .i64 n) l i=some (some (i+j,e.val))/\l[j]?=some e/\e.key=.int .i64 n/\RepE te k (mapGet k.dflt es n) e.val/\mapPut es n x=es.set j (n,x)
 | [],[],i,_=>.inl ⟨rfl,rfl,rfl⟩
 | e::es,m::l,i,h=>by
  obtain ⟨⟨hk,hv⟩,hr⟩:=h
  by_cases q:e.1=n
  ·refine .inr ⟨0,m,?_,rfl,by rw [hk,q],?_,?_⟩
   ·simp only [Instr.findNow,hk,sameNow_int,q,beq_self_eq_true,Nat.add_zero]
   ·unfold mapGet;rw [decide_eq_true q];exact hv
   ·unfold mapPut;rw [decide_eq_true q];rfl
  ·have hne:(n == e.1)=false:=by rw [beq_eq_false_iff_ne];exact fun h=>q h.symm
   rcases map_spec n x es l (i+1) hr with ⟨h1,h2,h3⟩ | ⟨j,m',h1,h2,h3,h4,h5⟩
   ·refine .inl ⟨?_,?_,?_⟩
    ·simp only [Instr.findNow,hk,sameNow_int,hne];exact h1
    ·unfold mapGet;rw [decide_eq_false q];exact h2
    ·unfold mapPut;rw [decide_eq_false q];exact congrArg (e::·) h3
   ·refine .inr ⟨j+1,m',?_,h2,h3,?_,?_⟩
    ·simp only [Instr.findNow,hk,sameNow_int,hne];rw [h1,show i+1+j=i+(j+1) by omega]
    ·unfold mapGet;rw [decide_eq_false q];exact h4
    ·unfold mapPut;rw [decide_eq_false q];exact congrArg (e::·) h5
theorem map_obj (hm:Mem w0 M c) {id:Nat} {k:K} {es:List (Int × k.T)} (ho:c.hp id=some (.mp k es)) {v:Value} (h:RepS c (.mp id) v) :
  ∃ b ents clock,c.β id=some b/\v=.map (some b)/\c.w.heap[b]?=some (.map ents clock)/\LR (RepM c.te k) es ents.toList:=by
 obtain ⟨_,o',h1,h2⟩:=h
 rw [ho] at h1;cases h1
 obtain ⟨b,q1,q2⟩:=h2 rfl
 obtain ⟨b',ents,clock,r1,r2,r3⟩:=hm.obj id _ ho
 rw [q1] at r1;cases r1
 exact ⟨b,ents,clock,q1,q2,r2,r3⟩
theorem core_makeMap (hm:Mem w0 M c)(hf:∀ d,o.dst=some d->hp d=none->c.hp d=none) {t:TypeId} {rv:Option Operand} (ho:o.op=.makeMap t rv)(h:core P A fid ρ hp o=.ok true v u) :
  StepOk w0 M c ((execOp r o).run P c.w) v u:=by
 cases rv with
 | some x=>simp [core,ho] at h
 | none =>
  simp only [core,ho] at h
  simp only [execOp,ho]
  split at h
  ·rename_i kt et d hu hfr
   split at h
   ·rename_i hkt hkd
    simp only [Out.ok.injEq,true_and] at h
    obtain ⟨rfl,rfl⟩:=h
    obtain ⟨hd,hd2⟩:=fresh_some hfr
    have hdn:=hf d hd hd2
    have hg:=grew_push c.w (.map #[] 0)
    have he:=new_ext (b:=c.w.heap.size) (o:=.fm []) hm hdn hg
    have hβ:(c.new (pushW c.w (.map #[] 0)) d c.w.heap.size (.fm [])).β d=some c.w.heap.size:=by simp [Cx.new,upd]
    refine ⟨.value (.map (some c.w.heap.size)),c.new (pushW c.w (.map #[] 0)) d c.w.heap.size (.fm []),rfl,new_mem hm hdn hg (Nat.le_refl _) (by simp [pushW]) ?_,he,by rw [hpU_cons,hpU_nil];rfl,.inl ⟨_,rfl,repV_one ?_⟩⟩
    ·exact ⟨c.w.heap.size,#[],0,hβ,push_here _ _,trivial⟩
    ·exact ⟨rfl,.fm [],by simp [Cx.new,upd],fun _=>⟨_,hβ,rfl⟩⟩
   ·rename_i k _ hkt hkd
    cases hs:scalK k with
    | false=>rw [hs] at h;cases h
    | true =>
     rw [hs] at h
     simp only [cond_true,Out.ok.injEq,true_and] at h
     obtain ⟨rfl,rfl⟩:=h
     obtain ⟨hd,hd2⟩:=fresh_some hfr
     have hdn:=hf d hd hd2
     have hg:=grew_push c.w (.map #[] 0)
     have he:=new_ext (b:=c.w.heap.size) (o:=.mp k []) hm hdn hg
     have hβ:(c.new (pushW c.w (.map #[] 0)) d c.w.heap.size (.mp k [])).β d=some c.w.heap.size:=by simp [Cx.new,upd]
     refine ⟨.value (.map (some c.w.heap.size)),c.new (pushW c.w (.map #[] 0)) d c.w.heap.size (.mp k []),rfl,new_mem hm hdn hg (Nat.le_refl _) (by simp [pushW]) ?_,he,by rw [hpU_cons,hpU_nil];rfl,.inl ⟨_,rfl,repV_one ?_⟩⟩
     ·exact ⟨c.w.heap.size,#[],0,hβ,push_here _ _,trivial⟩
     ·exact ⟨rfl,.mp k [],by simp [Cx.new,upd],fun _=>⟨_,hβ,rfl⟩⟩
   ·cases h
  ·cases h
theorem core_lookup (hm:Mem w0 M c)(hM:ManR A c)(hh:∀ id o,hp id=some o->c.hp id=some o)(hr:∀ x,RepV c (ρ x) (r x)) {t:TypeId} {x ix:Operand} {cm:Bool} (ho:o.op=.lookup t x ix cm)(h:core P A fid ρ hp o=.ok true v u) :
  StepOk w0 M c ((execOp r o).run P c.w) v u:=by
 cases cm with
 | true=>simp [core,ho] at h
 | false =>
  simp only [core,ho] at h
  simp only [execOp,ho]
  split at h
  ·rename_i id n kt et hx hi hu
   split at h
   ·rename_i k es hid hkt
    cases hs:zeroS P et k with
    | false=>rw [hs] at h;cases h
    | true =>
     rw [hs] at h
     simp only [cond_true,Out.ok.injEq,true_and] at h
     obtain ⟨rfl,rfl⟩:=h
     obtain ⟨b,ents,clock,q1,q2,q3,q4⟩:=map_obj hm (hh id _ hid) (slot_rep hr hx)
     obtain ⟨q5,_⟩:=slot_rep hr hi
     obtain ⟨z,z1,z2⟩:=zeroS_run (te:=c.te) hs c.w
     have hck:=MapKept.run_checkKey (w:=c.w) (k:=.int .i64 n) hkt rfl ents.isEmpty 9999
     rcases map_spec (k:=k) n k.dflt es ents.toList 0 q4 with ⟨f1,f2,_⟩ | ⟨j,e,f1,f2,f3,f4,_⟩
     ·refine .quiet hm (v':=z) (run_val ?_) (repE_inj (by rw [f2];exact z2))
      rw [q2,q5]
      unfold Instr.lookup
      rw [run_ok (run_underlying hu c.w)]
      simp only []
      rw [run_ok (MapKept.run_getObj_map q3)]
      simp only []
      rw [run_pb,run_ok hck,run_ok (MapKept.run_findKey hkt f1)]
      simp only []
      rw [run_ok z1]
      rfl
     ·refine .quiet hm (v':=e.val) (run_val ?_) (repE_inj f4)
      rw [q2,q5]
      unfold Instr.lookup
      rw [run_ok (run_underlying hu c.w)]
      simp only []
      rw [run_ok (MapKept.run_getObj_map q3)]
      simp only []
      rw [run_pb,run_ok hck,run_ok (MapKept.run_findKey hkt f1)]
      rfl
   ·cases h
  ·rename_i cid g i n kt et hx hi hu
   split at h
   ·rename_i t' off e xs g' pd hid hkt
    cases hs:(Nat.beq g g' && zeroS P et (.ref e)) with
    | false=>rw [hs] at h;cases h
    | true =>
     rw [hs] at h
     simp only [cond_true,Out.ok.injEq,true_and] at h
     obtain ⟨rfl,rfl⟩:=h
     simp only [Bool.and_eq_true] at hs
     have hid':=hh cid _ hid
     obtain ⟨_,ob,t1,t2⟩:=slot_rep hr hx
     rw [hid'] at t1;cases t1
     obtain ⟨hi1,hcur⟩:=(t2 _ _ _ _ _ _ _ rfl).2 (Nat.eq_of_beq_eq_true hs.1)
     have hlt:=(hM.dom _ _ _ _ _ _ _ _ hid' i).2 hi1
     obtain ⟨b,ents,clock,q0,q2,q3,⟨q4,_⟩,_⟩:=hM.mpp _ _ _ e xs g' pd hid' i _ (getD_some [] hlt)
     obtain ⟨q5,_⟩:=slot_rep hr hi
     obtain ⟨z,z1,z2⟩:=zeroS_run (te:=c.te) hs.2 c.w
     have hck:=MapKept.run_checkKey (w:=c.w) (k:=.int .i64 n) hkt rfl ents.isEmpty 9999
     rcases map_spec (k:=.ref e) n none _ ents.toList 0 q4 with ⟨f1,f2,_⟩ | ⟨j,m,f1,f2,f3,f4,_⟩
     ·refine .quiet hm (v':=z) (run_val ?_) (repE_inj (k:=.ref e) (by rw [show mapGet none (xs.getD i []) n=(none:Option Nat) from f2];exact z2))
      rw [hcur,q2,q5]
      unfold Instr.lookup
      rw [run_ok (run_underlying hu c.w)]
      simp only []
      rw [run_ok (MapKept.run_getObj_map q3)]
      simp only []
      rw [run_pb,run_ok hck,run_ok (MapKept.run_findKey hkt f1)]
      simp only []
      rw [run_ok z1]
      rfl
     ·refine .quiet hm (v':=m.val) (run_val ?_) (repE_inj (k:=.ref e) f4)
      rw [hcur,q2,q5]
      unfold Instr.lookup
      rw [run_ok (run_underlying hu c.w)]
      simp only []
      rw [run_ok (MapKept.run_getObj_map q3)]
      simp only []
      rw [run_pb,run_ok hck,run_ok (MapKept.run_findKey hkt f1)]
      rfl
   ·cases h
  ·cases h
theorem fm_none {c:Cx} (n:Int):∀ (es:List (Int × Nat × Nat))(l:List MapEntry)(i:Nat),LR (fun (e:Int × Nat × Nat)(m:MapEntry)=>m.key=.int .i64 e.1/\RepS c (.bm e.2.1 e.2.2) m.val) es l->es.all (fun e=>!decide (e.1=n))=true ->
  Instr.findNow (.int .i64) (.int .i64 n) l i=some none
 | [],[],i,_,_=>rfl
 | e::es,m::l,i,h,ha=>by
  obtain ⟨⟨hk,hv⟩,hr⟩:=h
  simp only [List.all_cons,Bool.and_eq_true,Bool.not_eq_true',decide_eq_false_iff_not] at ha
  have hne:(n == e.1)=false:=by rw [beq_eq_false_iff_ne];exact fun h=>ha.1 h.symm
  simp only [Instr.findNow,hk,sameNow_int,hne]
  exact fm_none n es l (i+1) hr ha.2
 | [],_::_,_,h,_=>h.elim
 | _::_,[],_,h,_=>h.elim
def muOut (P:Program)(hp:Nat->Option Obj)(t:TypeId)(a b:Option S)(y:AV):Out :=
 match a,b,y,P.underlying t with
 | some (.mp id),some (.int .i64 n),.val false cs,some (.map kt _)=>(match hp id,P.underlying kt with
  | some (.mp k es),some (.int .i64)=>bif scalK k then (match rei1 hp k cs with | some v=>.ok true .undef [(id,.mp k (mapPut es n v))] | none=>.bad) else .bad
  | some (.fm es),some (.int .i64)=>(match cs with
   | [.bm f j]=>bif es.all (fun e=>!decide (e.1=n)) then .ok true .undef [(id,.fm (es++[(n,f,j)]))] else .bad
   | _=>.bad)
  | _,_=>.bad)
 | some (.ov cid g i),some (.int .i64 n),.val false cs,some (.map kt _)=>(match hp cid,P.underlying kt with
  | some (.col t' off .mp (.slice (.prod (.int .i64) (.ref e))) xs g' p),some (.int .i64)=>bif Nat.beq g g' then (match rei1 hp (.ref e) cs with
   | some v=>.okm true .undef [(cid,.col t' off .mp (.slice (.prod (.int .i64) (.ref e))) (xs.set i (mapPut (xs.getD i []) n v)) (g'+1) p)]
   | none=>.bad) else .bad
  | _,_=>.bad)
 | _,_,_,_=>.bad
theorem mu_form {t:TypeId} {x ix y:Operand} {out:Out} (ho:o.op=.mapUpdate t x ix y\/o.op=.insert t x ix y)(h:core P A fid ρ hp o=out):muOut P hp t (slot x ρ) (slot ix ρ) (ρ y)=out:=by
 rcases ho with ho | ho<;>simp only [core,ho] at h<;>exact h
theorem core_mapUpdate (hm:Mem w0 M c)(hh:∀ id o,hp id=some o->c.hp id=some o)(hr:∀ x,RepV c (ρ x) (r x)) {t:TypeId} {x ix y:Operand} (ho:o.op=.mapUpdate t x ix y\/o.op=.insert t x ix y)(h:core P A fid ρ hp o=.ok true v u) :
  StepOk w0 M c ((execOp r o).run P c.w) v u:=by
 have e0:(execOp r o).run P c.w=((do Instr.mapUpdate t (r x) (r ix) (r y);pure Next.skip:Sem Next)).run P c.w:=by
  rcases ho with ho | ho<;>simp only [execOp,ho]
 rw [e0]
 have h:=mu_form ho h
 unfold muOut at h
 split at h
 ·rename_i id n cs kt et hx hi hy hu
  split at h
  ·rename_i k es hid hkt
   cases hs:scalK k with
   | false=>rw [hs] at h;cases h
   | true =>
    rw [hs] at h
    simp only [cond_true] at h
    split at h
    ·rename_i val hval
     simp only [Out.ok.injEq,true_and] at h
     obtain ⟨rfl,rfl⟩:=h
     have hid':=hh id _ hid
     obtain ⟨b,ents,clock,q1,q2,q3,q4⟩:=map_obj hm hid' (slot_rep hr hx)
     obtain ⟨q5,q6⟩:=slot_rep hr hi
     have hyr:=hr y
     rw [hy] at hyr
     obtain ⟨s,rfl,hsv⟩:=hyr
     have hE:RepE c.te k val (r y):=by
      have hnid:∀ id ∈ idsOf [s],∀ b,c.β id=some b->c.S b\/True:=fun _ _ _ _=>.inr trivial
      exact repT_E hs (rei1_rep (S':=fun b=>c.S b\/True) hm hh (fun _ h=>.inl h) hnid ⟨hsv,trivial⟩ hval)
     have hck:=MapKept.run_checkKey (w:=c.w) (k:=.int .i64 n) hkt rfl false 9999
     have hlive:Live c id b:=⟨q1,_,hid',rfl⟩
     have fin:∀ (ents':Array MapEntry) (clock':Nat),LR (RepM c.te k) (mapPut es n val) ents'.toList ->
       (Instr.mapUpdate t (.map (some b)) (.int .i64 n) (r y)).run P c.w=.ok () { c.w with heap:=c.w.heap.setIfInBounds b (.map ents' clock') }->StepOk w0 M c ((do Instr.mapUpdate t (r x) (r ix) (r y);pure Next.skip:Sem Next).run P c.w) .undef [(id,.mp k (mapPut es n val))]:=by
      intro ents' clock' hl hrun
      obtain ⟨hs1,hs2⟩:=MapKept.heap_set (o':=.map ents' clock') q3
      let w':World:={ c.w with heap:=c.w.heap.setIfInBounds b (.map ents' clock') }
      have hblk:∀ j,j < c.w.heap.size->¬ Live c id j->w'.heap[j]?=c.w.heap[j]?:=fun j _ hl=>hs2 j (by rintro rfl;exact hl hlive)
      have hhp:(c.turn id w' c.S (some b) (.mp k (mapPut es n val))).hp id=some (.mp k (mapPut es n val)):=by simp [Cx.turn,upd]
      have hids:∀ s v,s.ids=[id]->RepS c s v->RepS (c.turn id w' c.S (some b) (.mp k (mapPut es n val))) s v:=by
       intro s v hsi hrs
       cases s<;>simp only [S.ids,List.cons.injEq,and_true,reduceCtorEq] at hsi
       case vw j g=>subst hsi;exact ⟨hrs.1,_,hhp,fun k xs gen hist frz e=>by cases e⟩
       case pv j g off len=>subst hsi;exact ⟨hrs.1,_,hhp,fun k xs gen hist frz e=>by cases e⟩
       case ptr j g i p =>
        subst hsi
        obtain ⟨z0,oo,z1,z2,_⟩:=hrs
        exact ⟨z0,_,hhp,z2,(fun cs e=>by cases e),fun k xs gen hist frz e=>by cases e⟩
       case mp j =>
        subst hsi
        obtain ⟨z0,oo,z1,z2⟩:=hrs
        rw [hid'] at z1;cases z1
        obtain ⟨b2,y1,y2⟩:=z2 rfl
        rw [q1] at y1;cases y1
        exact ⟨z0,_,hhp,fun _=>⟨b,by simp [Cx.turn],y2⟩⟩
       case rp t i off=>exact rp_same (c:=c) rfl rfl hrs
       case ov j g i=>subst hsi;exact ⟨hrs.1,_,hhp,fun t off m k xs g' p e=>by cases e⟩
       case oe j g i q p=>subst hsi;obtain ⟨h0,o',h1,hpi,h2⟩:=hrs;exact ⟨h0,_,hhp,hpi,fun t off m e xs g' q' he=>by cases he⟩
       case bm f j=>subst hsi;obtain ⟨p,hv,o',h1,h2⟩:=hrs;exact ⟨p,hv,_,hhp,fun cs e=>by cases e⟩
      have he:=ext_turn hm (β':=some b) (o':=.mp k (mapPut es n val)) hblk (fun _ h=>h) hids
      have hsz:w'.heap.size=c.w.heap.size:=by show (c.w.heap.setIfInBounds b _).size=_;simp
      have ht:Turn w0 M c id w' c.S (some b) (.mp k (mapPut es n val)):=by
       refine ⟨rfl,rfl,rfl,by rw [hsz];exact Nat.le_refl _,hblk,fun _ h=>h,fun b' hb'=>⟨by rw [hsz];exact hm.below b' hb',.inl hb'⟩,⟨_,hid'⟩,?_,fun b' hb' _=>?_,hids⟩
       ·exact ⟨b,ents',clock',by simp [Cx.turn],hs1,hl⟩
       ·cases hb'
        exact ⟨by rw [hsz];exact (hm.live id b hlive).1,(hm.live id b hlive).2.1,.inl hlive⟩
      refine ⟨.skip,c.turn id w' c.S (some b) (.mp k (mapPut es n val)),?_,ht.mem hm,he,by rw [hpU_cons,hpU_nil];rfl,.inr ⟨rfl,rfl⟩⟩
      rw [q2,q5]
      exact run_unit hrun
     rcases map_spec (k:=k) n val es ents.toList 0 q4 with ⟨f1,_,f3⟩ | ⟨j,e,f1,f2,f3,_,f5⟩
     ·refine fin (ents.push { key:=.int .i64 n,val:=r y,born:=clock }) (clock+1) ?_ ?_
      ·rw [f3,Array.toList_push]
       exact q4.append ⟨⟨rfl,hE⟩,trivial⟩
      ·unfold Instr.mapUpdate
       rw [run_ok (run_underlying hu c.w)]
       simp only []
       rw [run_ok (MapKept.run_getObj_map q3)]
       simp only []
       rw [run_ok hck,run_ok (MapKept.run_findKey hkt f1)]
       simp only []
       exact MapKept.run_setObj_map _ q3
     ·refine fin (ents.modify (0+j) fun e=>{ e with key:=.int .i64 n,val:=r y }) clock ?_ ?_
      ·rw [f5,Array.toList_modify,Nat.zero_add]
       refine LR.of_get (by rw [List.length_set,List.length_modify];exact q4.length) fun i a m ha hm'=>?_
       rw [List.getElem?_set] at ha
       rw [List.getElem?_modify] at hm'
       by_cases hji:j=i
       ·subst hji
        rw [if_pos rfl] at ha
        rw [f2] at hm'
        split at ha
        ·cases ha
         simp only [if_pos,Option.map_eq_map,Option.map_some,Option.some.injEq] at hm'
         subst hm'
         exact ⟨rfl,hE⟩
        ·cases ha
       ·rw [if_neg hji] at ha
        obtain ⟨m',e1,e2⟩:=q4.get i a ha
        rw [e1] at hm'
        simp only [if_neg hji,Option.map_eq_map,Option.map_some,Option.some.injEq,id_eq] at hm'
        subst hm'
        exact e2
      ·have hej:ents[0+j]?=some e:=by rw [Nat.zero_add,<- Array.getElem?_toList];exact f2
       unfold Instr.mapUpdate
       rw [run_ok (run_underlying hu c.w)]
       simp only []
       rw [run_ok (MapKept.run_getObj_map q3)]
       simp only []
       rw [run_ok hck,run_ok (MapKept.run_findKey hkt f1)]
       simp only []
       rw [hej]
       simp only [Option.map_some,Option.getD_some,f3]
       rw [run_ok (MapKept.run_keyThatStays (d:=.int .i64) (k:=.int .i64 n) rfl)]
       exact MapKept.run_setObj_map _ q3
    ·cases h
  ·rename_i es hid hkt
   split at h
   ·rename_i f j
    cases hal:(es.all fun e=>!decide (e.1=n)) with
    | false=>rw [hal] at h;cases h
    | true =>
     rw [hal] at h
     simp only [cond_true,Out.ok.injEq,true_and] at h
     obtain ⟨rfl,rfl⟩:=h
     have hid':=hh id _ hid
     obtain ⟨_,ob,t1,t2⟩:=slot_rep hr hx
     rw [hid'] at t1;cases t1
     obtain ⟨b,q1,q2⟩:=t2 rfl
     obtain ⟨b',ents,clock,r1,q3,q4⟩:=hm.obj id _ hid'
     rw [q1] at r1;cases r1
     obtain ⟨q5,q6⟩:=slot_rep hr hi
     have hyr:=hr y
     rw [hy] at hyr
     obtain ⟨s,es1,hsv⟩:=hyr
     cases es1
     have hck:=MapKept.run_checkKey (w:=c.w) (k:=.int .i64 n) hkt rfl false 9999
     have hlive:Live c id b:=⟨q1,_,hid',rfl⟩
     have f1:=fm_none n es ents.toList 0 q4 hal
     let ents':=ents.push { key:=.int .i64 n,val:=r y,born:=clock }
     obtain ⟨hs1,hs2⟩:=MapKept.heap_set (o':=.map ents' (clock+1)) q3
     let w':World:={ c.w with heap:=c.w.heap.setIfInBounds b (.map ents' (clock+1)) }
     have hblk:∀ j,j < c.w.heap.size->¬ Live c id j->w'.heap[j]?=c.w.heap[j]?:=fun j _ hl=>hs2 j (by rintro rfl;exact hl hlive)
     have hhp:(c.turn id w' c.S (some b) (.fm (es++[(n,f,j)]))).hp id=some (.fm (es++[(n,f,j)])):=by simp [Cx.turn,upd]
     have hids:∀ s v,s.ids=[id]->RepS c s v->RepS (c.turn id w' c.S (some b) (.fm (es++[(n,f,j)]))) s v:=by
      intro s v hsi hrs
      cases s<;>simp only [S.ids,List.cons.injEq,and_true,reduceCtorEq] at hsi
      case vw j g=>subst hsi;exact ⟨hrs.1,_,hhp,fun k xs gen hist frz e=>by cases e⟩
      case pv j g off len=>subst hsi;exact ⟨hrs.1,_,hhp,fun k xs gen hist frz e=>by cases e⟩
      case ptr j g i p =>
       subst hsi
       obtain ⟨z0,oo,z1,z2,_⟩:=hrs
       exact ⟨z0,_,hhp,z2,(fun cs e=>by cases e),fun k xs gen hist frz e=>by cases e⟩
      case mp j =>
       subst hsi
       obtain ⟨z0,oo,z1,z2⟩:=hrs
       rw [hid'] at z1;cases z1
       obtain ⟨b2,y1,y2⟩:=z2 rfl
       rw [q1] at y1;cases y1
       exact ⟨z0,_,hhp,fun _=>⟨b,by simp [Cx.turn],y2⟩⟩
      case rp t i off=>exact rp_same (c:=c) rfl rfl hrs
      case ov j g i=>subst hsi;exact ⟨hrs.1,_,hhp,fun t off m k xs g' p e=>by cases e⟩
      case oe j g i q p=>subst hsi;obtain ⟨h0,o',h1,hpi,h2⟩:=hrs;exact ⟨h0,_,hhp,hpi,fun t off m e xs g' q' he=>by cases he⟩
      case bm f j=>subst hsi;obtain ⟨p,hv,o',h1,h2⟩:=hrs;exact ⟨p,hv,_,hhp,fun cs e=>by cases e⟩
     have he:=ext_turn hm (β':=some b) (o':=.fm (es++[(n,f,j)])) hblk (fun _ h=>h) hids
     have hsz:w'.heap.size=c.w.heap.size:=by show (c.w.heap.setIfInBounds b _).size=_;simp
     have ht:Turn w0 M c id w' c.S (some b) (.fm (es++[(n,f,j)])):=by
      refine ⟨rfl,rfl,rfl,by rw [hsz];exact Nat.le_refl _,hblk,fun _ h=>h,fun b' hb'=>⟨by rw [hsz];exact hm.below b' hb',.inl hb'⟩,⟨_,hid'⟩,?_,fun b' hb' _=>?_,hids⟩
      ·refine ⟨b,ents',clock+1,by simp [Cx.turn],hs1,?_⟩
       show LR _ _ (ents.push _).toList
       rw [Array.toList_push]
       exact (q4.mono fun _ _ _ q=>⟨q.1,he.rep q.2⟩).append ⟨⟨rfl,he.rep hsv⟩,trivial⟩
      ·cases hb'
       exact ⟨by rw [hsz];exact (hm.live id b hlive).1,(hm.live id b hlive).2.1,.inl hlive⟩
     refine ⟨.skip,c.turn id w' c.S (some b) (.fm (es++[(n,f,j)])),?_,ht.mem hm,he,by rw [hpU_cons,hpU_nil];rfl,.inr ⟨rfl,rfl⟩⟩
     rw [q2,q5]
     refine run_unit ?_
     unfold Instr.mapUpdate
     rw [run_ok (run_underlying hu c.w)]
     simp only []
     rw [run_ok (MapKept.run_getObj_map q3)]
     simp only []
     rw [run_ok hck,run_ok (MapKept.run_findKey hkt f1)]
     simp only []
     exact MapKept.run_setObj_map _ q3
   ·cases h
  ·cases h
 ·split at h
  ·have h:=bif_ok h
   split at h<;>cases h
  ·cases h
 ·cases h
theorem core_makeFunc (hm:Mem w0 M c)(hh:∀ id o,hp id=some o->c.hp id=some o)(hr:∀ x,RepV c (ρ x) (r x)) {fv:Fn} {first captured:Array Operand} (ho:o.op=.makeFunc fv first captured)(h:core P A fid ρ hp o=.ok true v u) :
  StepOk w0 M c ((execOp r o).run P c.w) v u:=by
 cases fv with
 | func f =>
  simp only [core,ho] at h
  simp only [execOp,ho]
  split at h
  ·rename_i x hfst hcap
   split at h
   ·rename_i id g i p hx
    cases hq:(Nat.beq g 0 && Nat.beq i 0 && p.isEmpty) with
    | false=>rw [hq] at h;cases h
    | true =>
     rw [hq] at h
     simp only [cond_true] at h
     split at h
     ·rename_i k xs hid
      simp only [Out.ok.injEq,true_and] at h
      obtain ⟨rfl,rfl⟩:=h
      have hid':=hh id _ hid
      have hxr:=slot_rep hr hx
      simp only [Bool.and_eq_true] at hq
      obtain ⟨_,ob,t1,_,t2,_⟩:=hxr
      rw [hid'] at t1;cases t1
      obtain ⟨b,q1,q2,_,_⟩:=t2 _ rfl (by simp)
      have hpn:p=[]:=List.isEmpty_iff.1 hq.2
      subst hpn
      obtain ⟨b',arr,r1,⟨T,fz,r2,r3⟩,r4⟩:=hm.obj id _ hid' (by simp)
      rw [q1] at r1;cases r1
      have hlive:Live c id b:=⟨q1,_,hid',rfl⟩
      let S':Nat->Prop:=fun b'=>c.S b'\/Live c id b'
      have hhp:(c.turn id c.w S' (some b) (.box [])).hp id=some (.box []):=by simp [Cx.turn,upd]
      have hids:∀ s v,s.ids=[id]->RepS c s v->RepS (c.turn id c.w S' (some b) (.box [])) s v:=by
       intro s v hsi hrs
       cases s<;>simp only [S.ids,List.cons.injEq,and_true,reduceCtorEq] at hsi
       case vw j g=>subst hsi;exact ⟨hrs.1,_,hhp,fun k xs gen hist frz e=>by cases e⟩
       case pv j g off len=>subst hsi;exact ⟨hrs.1,_,hhp,fun k xs gen hist frz e=>by cases e⟩
       case ptr j g i p =>
        subst hsi
        obtain ⟨z0,oo,z1,z2,_⟩:=hrs
        exact ⟨z0,_,hhp,z2,(fun cs e hne=>by cases e;exact (hne rfl).elim),fun k xs gen hist frz e=>by cases e⟩
       case mp j=>exact row_ids (c:=c) rfl hhp (.inr rfl) (by simp [S.ids,hsi]) rfl hrs
       case rp t i off=>exact row_ids (c:=c) rfl hhp (.inr rfl) (by simp [S.ids,hsi]) rfl hrs
       case ov j g i=>exact row_ids (c:=c) rfl hhp (.inr rfl) (by simp [S.ids,hsi]) rfl hrs
       case oe j g i q p=>exact row_ids (c:=c) rfl hhp (.inr rfl) (by simp [S.ids,hsi]) rfl hrs
       case bm f j=>exact row_ids (c:=c) rfl hhp (.inr rfl) (by simp [S.ids,hsi]) rfl hrs
      have ht:Turn w0 M c id c.w S' (some b) (.box []):=by
       refine ⟨rfl,rfl,rfl,Nat.le_refl _,fun _ _ _=>rfl,fun _ h=>.inl h,fun b' hb'=>⟨?_,hb'⟩,⟨_,hid'⟩,fun hne=>(hne rfl).elim,fun b' _ hl=>(by cases hl),hids⟩
       rcases hb' with hb' | hb'
       ·exact hm.below b' hb'
       ·exact (hm.live id b' hb').1
      have he:=ht.ext hm
      refine ⟨_,c.turn id c.w S' (some b) (.box []),run_val (v:=.func (.func f) #[] #[.pointer (some ⟨b,0,none⟩)]) ?_,ht.mem hm,he,by rw [hpU_cons,hpU_nil];rfl,.inl ⟨_,rfl,_,rfl,?_⟩⟩
      ·have e1:first.map r=#[]:=by apply Array.ext';rw [Array.toList_map,hfst];rfl
       have e2:captured.map r=#[.pointer (some ⟨b,0,none⟩)]:=by
        apply Array.ext'
        rw [Array.toList_map,hcap]
        simp only [List.map_cons,List.map_nil,q2,pathOff,List.foldr_nil]
       rw [e1,e2];rfl
      ·match hal:arr.toList,r4 with
       | [],r4=>exact r4.elim
       | y::ys,r4 =>
        obtain ⟨r5,_⟩:=r4
        refine ⟨b,0,[y],.inr hlive,rfl,RepT.mono (w:=c.w) (Sb:=c.S) (fun _ _=>rfl) (fun _ h=>.inl h) r5,?_⟩
        intro j v hj
        cases j with
        | zero =>
         simp at hj;subst hj
         have hy:arr[0]?=some y:=by rw [<- Array.getElem?_toList,hal];rfl
         simp only [World.cell?]
         show (match c.w.heap[b]? with | some (.cells cs T fz)=>_ | _=>_)=_
         rw [r2]
         simpa using hy
        | succ j=>simp at hj
     ·cases h
   ·cases h
  ·rename_i x hfst hcap
   split at h
   ·rename_i id g i p hx
    cases hq:(Nat.beq g 0 && Nat.beq i 0 && p.isEmpty) with
    | false=>rw [hq] at h;cases h
    | true =>
     rw [hq] at h
     simp only [cond_true] at h
     split at h
     ·rename_i c0 cr hid
      simp only [okv,Out.ok.injEq,true_and] at h
      obtain ⟨rfl,rfl⟩:=h
      have hid':=hh id _ hid
      have hxr:=slot_rep hr hx
      simp only [Bool.and_eq_true] at hq
      obtain ⟨_,ob,t1,_,t2,_⟩:=hxr
      rw [hid'] at t1;cases t1
      obtain ⟨b,q1,q2,_,_⟩:=t2 _ rfl (by simp)
      have hpn:p=[]:=List.isEmpty_iff.1 hq.2
      subst hpn
      refine .quiet hm (run_val (v:=.func (.func f) #[.pointer (some ⟨b,0,none⟩)] #[]) ?_) (repV_one ⟨_,rfl,_,hid',fun cs e _=>⟨b,q1,rfl⟩⟩)
      have e1:captured.map r=#[]:=by apply Array.ext';rw [Array.toList_map,hcap];rfl
      have e2:first.map r=#[.pointer (some ⟨b,0,none⟩)]:=by
       apply Array.ext'
       rw [Array.toList_map,hfst]
       simp only [List.map_cons,List.map_nil,q2,pathOff,List.foldr_nil]
      rw [e1,e2];rfl
     ·cases h
   ·cases h
  ·cases h
 | _=>simp [core,ho] at h
theorem core_ok (hm:Mem w0 M c)(hM:ManR A c)(hte:c.te.te=A.te)(hh:∀ id o,hp id=some o->c.hp id=some o)(hf:∀ d,o.dst=some d->hp d=none->c.hp d=none)(hr:∀ x,RepV c (ρ x) (r x))(hcv:∀ v,r (.const v)=v)(h:core P A fid ρ hp o=.ok true v u) :
  StepOk w0 M c ((execOp r o).run P c.w) v u:=by
 cases ho:o.op with
 | move x=>exact core_move hm hf hr (.inl ho) h
 | assign x=>exact core_move hm hf hr (.inr ho) h
 | alloc e=>exact core_alloc hm hf ho h
 | nilCheck x=>exact core_nilCheck hm hh hr ho h
 | box e x=>exact core_box hm hf hr ho h
 | build t ps=>exact core_build hm hr ho h
 | buildSlice t n ps=>exact core_buildSlice hm hh hf hr ho h
 | load t a=>exact core_load hm hM hh hr ho h
 | store t a x=>exact core_store hm hh hr ho h
 | binOp op t x y ty=>exact core_binOp hm hte hr hcv ho h
 | unOp op t x=>exact core_unOp hm hr ho h
 | convert st dt x=>exact core_convert2 hm hh hf hr ho h
 | makeInterface t x=>exact core_makeInterface hm hte hr ho h
 | makeSlice t l cc=>exact core_makeSlice hm hf hr ho h
 | slice t x lo hi mx=>exact core_slice hm hh hr ho h
 | fieldAddr t x f=>exact core_fieldAddr hm hh hr ho h
 | field t x f=>exact core_field hm hr ho h
 | indexAddr t x ix=>exact core_indexAddr hm hM hh hr ho h
 | index t x ix=>exact core_index hm hr ho h
 | extract t ix=>exact core_extract hm hr ho h
 | makeMap t rv=>exact core_makeMap hm hf ho h
 | makeFunc fv a b=>exact core_makeFunc hm hh hr ho h
 | lookup t x ix cm=>exact core_lookup hm hM hh hr ho h
 | mapUpdate t x ix y=>exact core_mapUpdate hm hh hr (.inl ho) h
 | insert t x ix y=>exact core_mapUpdate hm hh hr (.inr ho) h
 | _=>simp [core,ho] at h
end
end Go.Eng
namespace Go.Eng
open Go.RowKit
structure Turns (w0:World)(M:MS)(c:Cx)(I X:Nat->Prop)(c':Cx):Prop where
 te:TLe c.te c'.te
 samo:∀ cid,¬ I cid->c'.te.ow cid=c.te.ow cid/\c'.te.cur cid=c.te.cur cid
 os:c'.w.os=c.w.os
 tape:c'.w.tape=c.w.tape
 output:c'.w.output=c.w.output
 size:c.w.heap.size<=c'.w.heap.size
 blk:∀ b,b < c.w.heap.size->(∀ id,I id->¬ Live c id b)->¬ X b->c'.w.heap[b]?=c.w.heap[b]?
 xs:∀ b,X b->¬ c.S b/\(∀ id,¬ Live c id b)/\(w0.heap.size<=b\/M.f b)
 sub:∀ b,c.S b->c'.S b
 sup:∀ b,c'.S b->b < c'.w.heap.size/\(c.S b\/(∃ id,I id/\Live c id b)\/c.w.heap.size<=b)
 out:∀ id,¬ I id->c'.hp id=c.hp id/\c'.β id=c.β id
 obj:∀ id o,I id->c'.hp id=some o->RepO c' id o
 live:∀ id b,I id->Live c' id b->¬ c'.S b/\Live c id b
 ids:∀ id s v,I id->s.ids=[id]->RepS c s v->RepS c' s v
theorem Turns.stab {w0:World} {M:MS} {c c':Cx} {I X:Nat->Prop} (hm:Mem w0 M c)(h:Turns w0 M c I X c')(b:Nat)(hb:c.S b):c'.w.heap[b]?=c.w.heap[b]? :=
 h.blk b (hm.below b hb) (fun id _ hl=>(hm.live id b hl).2.1 hb) fun hx=>(h.xs b hx).1 hb
theorem Turns.other {w0 : World} {M : MS} {c c' : Cx} {I X : Nat → Prop} (hm : Mem w0 M c) (h : Turns w0 M c I X c') {j b : Nat} {o : Obj} (hj : ¬ I j)
    (hβ : c.β j = some b) (ho : c.hp j = some o) (hl : o.live = true ∨ o.isRow = true) : c'.w.heap[b]? = c.w.heap[b]? := by
  obtain ⟨x, hx⟩ := blk_of_repO (hm.obj j o ho) hl hβ
  have hfz : o.live ≠ true → c.S b := by
    intro hv
    cases o with
    | mp k es => exact absurd rfl hv
    | fm es => exact absurd rfl hv
    | col => rcases hl with hl | hl <;> cases hl
    | box cs => rcases hl with hl | hl
                · exact (hv hl).elim
                · cases hl
    | row k xs gen hist frz =>
      have hf : frz = true := by simpa [Obj.live] using hv
      have := hm.obj j _ ho
      simp only [RepO, hβ] at this
      exact this.2.2 hf
  refine h.blk b (lt_of_some hx) (fun id hi hid => ?_) (fun hxx => ?_)
  · by_cases hv : o.live = true
    · have := hm.one j id b ⟨hβ, o, ho, hv⟩ hid
      subst this; exact hj hi
    · exact (hm.live id b hid).2.1 (hfz hv)
  · by_cases hv : o.live = true
    · exact (h.xs b hxx).2.1 j ⟨hβ, o, ho, hv⟩
    · exact (h.xs b hxx).1 (hfz hv)
theorem Turns.ext {w0:World} {M:MS} {c c':Cx} {I X:Nat->Prop} (hm:Mem w0 M c)(h:Turns w0 M c I X c'):ExtM c c':=by
 refine ⟨h.te,h.stab hm,h.sub,fun j s v hs hr=>?_⟩
 by_cases hj:I j
 ·exact h.ids j s v hj hs hr
 ·refine RepS.sameM (id:=j) (c:=c) h.te (h.samo j hj) (h.stab hm) h.sub (h.out j hj).2 (fun b o hb ho hrow=>h.other hm hj hb ho (.inr hrow)) (fun o ho=>by rw [(h.out j hj).1];exact ho) hs hr
theorem Turns.mem {w0:World} {M:MS} {c c':Cx} {I X:Nat->Prop} (hm:Mem w0 M c)(h:Turns w0 M c I X c'):Mem w0 M c':=by
 have he:=h.ext hm
 have hlive:∀ j b,Live c' j b->(I j/\¬ c'.S b/\Live c j b)\/(¬ I j/\Live c j b):=by
  rintro j b hl
  by_cases e:I j
  ·obtain ⟨h1,h2⟩:=h.live j b e hl
   exact .inl ⟨e,h1,h2⟩
  ·obtain ⟨h1,h2⟩:=h.out j e
   obtain ⟨q1,o,q2,q3⟩:=hl
   exact .inr ⟨e,by rw [<- h2];exact q1,o,by rw [<- h1];exact q2,q3⟩
 refine ⟨⟨h.os.trans hm.fr.os,h.tape.trans hm.fr.tape,h.output.trans hm.fr.output,Nat.le_trans hm.fr.size h.size,fun b hb hM=>?_⟩,fun b hb=>(h.sup b hb).1,fun j o ho=>?_,fun j b hl=>?_,fun j j' b hl hl'=>?_,fun b hb=>(h.sup b hb).2.elim (hm.sup b) (fun q=>q.elim (fun ⟨id,_,hl⟩=>.inr (hm.live id b hl).2.2) (fun q=>.inr (.inl (Nat.le_trans hm.fr.size q)))),fun b hb=>h.sub b (hm.inf b hb)⟩
 ·refine (h.blk b (Nat.lt_of_lt_of_le hb hm.fr.size) (fun id _ hl=>?_) (fun hx=>?_)).trans (hm.fr.block b hb hM)
  ·rcases (hm.live id b hl).2.2 with q | q
   ·omega
   ·exact hM (.inl q)
  ·rcases (h.xs b hx).2.2 with q | q
   ·omega
   ·exact hM q
 ·by_cases e:I j
  ·exact h.obj j o e ho
  ·rw [(h.out j e).1] at ho
   exact he.repO (h.out j e).2 (fun b hb hl=>h.other hm e hb ho hl) (hm.obj j o ho)
 ·rcases hlive j b hl with ⟨_,h1,h2⟩ | ⟨hj,h2⟩
  ·obtain ⟨q1,q2,q3⟩:=hm.live j b h2
   exact ⟨Nat.lt_of_lt_of_le q1 h.size,h1,q3⟩
  ·obtain ⟨q1,q2,q3⟩:=hm.live j b h2
   refine ⟨Nat.lt_of_lt_of_le q1 h.size,fun hs=>?_,q3⟩
   rcases (h.sup b hs).2 with r | ⟨id,hi,r⟩ | r
   ·exact q2 r
   ·have:=hm.one j id b h2 r
    subst this;exact hj hi
   ·omega
 ·have h1:Live c j b:=by rcases hlive j b hl with ⟨_,_,q⟩ | ⟨_,q⟩<;>exact q
  have h2:Live c j' b:=by rcases hlive j' b hl' with ⟨_,_,q⟩ | ⟨_,q⟩<;>exact q
  exact hm.one j j' b h1 h2
def clC (te:TE)(w:World)(Sb:Nat->Prop):Cx:=⟨te,w,Sb,fun _=>none,fun _=>none⟩
theorem closed_rep {te:TE} {w:World} {Sb:Nat->Prop} {c:Cx} (hte:TLe te c.te)(hst:∀ b,Sb b->c.w.heap[b]?=w.heap[b]?)(hsub:∀ b,Sb b->c.S b) {s:S} {v:Value} (h:RepS (clC te w Sb) s v):RepS c s v:=by
 cases s with
 | vw id g=>obtain ⟨_,o,h1,_⟩:=h;cases h1
 | pv id g off len=>obtain ⟨_,o,h1,_⟩:=h;cases h1
 | ptr id g i p=>obtain ⟨_,o,h1,_⟩:=h;cases h1
 | mp id=>obtain ⟨_,o,h1,_⟩:=h;cases h1
 | ov id g i=>obtain ⟨_,o,h1,_⟩:=h;cases h1
 | oe id g i j p=>obtain ⟨_,o,h1,_⟩:=h;cases h1
 | bm f id=>obtain ⟨_,_,o,h1,_⟩:=h;cases h1
 | rp t i off=>obtain ⟨b,h1,h2⟩:=h;exact ⟨b,hte.2 _ _ _ h1,h2⟩
 | rb t i=>obtain ⟨b,h1,h2⟩:=h;exact ⟨b,hte.2 _ _ _ h1,h2⟩
 | ref t r=>exact RefV.le hte h
 | nilP=>exact h
 | co=>exact h
 | clo f k x =>
  obtain ⟨b,o,vs,h1,h2,h3,h4⟩:=h
  exact ⟨b,o,vs,hsub b h1,h2,RepT.move (w:=w) hte hst hsub h3,h4.of (hst b h1)⟩
 | sl k xs=>exact RepT.move (w:=w) hte hst hsub h
 | ipt k x p =>
  obtain ⟨hp,b,o,vs,h1,h2,h3,h4⟩:=h
  exact ⟨hp,b,o,vs,hsub b h1,h2,RepT.move (w:=w) hte hst hsub h3,h4.of (hst b h1)⟩
 | undef=>exact h
 | bool b=>exact h
 | int k n=>exact h
 | str q=>exact h
 | err e=>show v=errV c.te e;rw [errV_le hte];exact h
 | fn f=>exact h
 | nilS=>exact h
 | mv k xs=>exact h
 | io k x=>exact h
theorem closed_repV {te:TE} {w:World} {Sb:Nat->Prop} {c:Cx} (hte:TLe te c.te)(hst:∀ b,Sb b->c.w.heap[b]?=w.heap[b]?)(hsub:∀ b,Sb b->c.S b) {a:AV} {v:Value} (h:RepV (clC te w Sb) a v):RepV c a v:=by
 cases a with
 | undef=>trivial
 | val g cs =>
  cases g with
  | true=>obtain ⟨arr,hv,hl⟩:=h;exact ⟨arr,hv,hl.mono fun _ _ _=>closed_rep hte hst hsub⟩
  | false=>obtain ⟨s,hc,hs⟩:=h;exact ⟨s,hc,closed_rep hte hst hsub hs⟩
 | tup vs =>
  obtain ⟨arr,hv,hl⟩:=h
  refine ⟨arr,hv,hl.mono fun p _ u hu=>?_⟩
  split at hu
  ·rename_i hp;rw [if_pos hp];obtain ⟨a,h1,h2⟩:=hu;exact ⟨a,h1,h2.mono fun _ _ _=>closed_rep hte hst hsub⟩
  ·rename_i hp;rw [if_neg hp];obtain ⟨a,h1,h2⟩:=hu;exact ⟨a,h1,closed_rep hte hst hsub h2⟩
def BoxArg (te:TE)(w:World)(Sb:Nat->Prop)(b:Nat)(cs:List S):Prop:=∃ arr,BlkFree w b arr/\LR (RepS (clC te w Sb)) cs (arr.toList.take cs.length)
def ArgRel (te:TE)(w:World)(Sb:Nat->Prop):AV->Value->Option Nat->Prop
 | .val false [.mv k xs],v,b=>RowArg te w Sb b k xs v
 | .val false [.io k x],v,b=>∃ b',b=some b'/\v=.pointer (some ⟨b',0,none⟩)/\BoxArg te w Sb b' (leaves k x)
 | a,v,b=>b=none/\RepV (clC te w Sb) a v
def Hand.blk (β:Nat->Option Nat)(h:Hand):Option Nat :=
 match h.mv,h.io with
 | id::_,_=>β id
 | [],(id,_)::_=>β id
 | [],[]=>none
theorem row_arg {c:Cx} {w0:World} {M:MS} (hm:Mem w0 M c) {id:Nat} {k:K} {xs:List k.T} {gen:Nat} {hist:List (List k.T)} (ho:c.hp id=some (.row k xs gen hist false)) {v:Value} (hv:RepS c (.vw id gen) v) {S':Nat->Prop} (hs:∀ b,c.S b->S' b) :
  RowArg c.te c.w S' (c.β id) k xs v:=by
 obtain ⟨_,o,e1,e2⟩:=hv
 rw [ho] at e1;cases e1
 have hnow:=(e2 _ _ _ _ _ rfl).2.1 rfl
 have hro:=hm.obj id _ ho
 unfold RowArg
 simp only [VwNow] at hnow
 unfold RepO at hro
 cases hb:c.β id with
 | none =>
  rw [hb] at hnow
  simp only [hb] at hro
  exact ⟨hnow.1,hro⟩
 | some b =>
  rw [hb] at hnow
  simp only [hb] at hro
  obtain ⟨cap,arr,a,q1,q2,q3,q4,q5⟩:=hnow
  obtain ⟨⟨arr1,p1,p2,p3⟩,p4,_⟩:=hro
  have:=q3.uniq p1;subst this
  obtain ⟨arr2,p5⟩:=p4 trivial
  have:=q3.uniq p5.blk;subst this
  exact ⟨cap,arr,a,q1,q2,fun hc=>⟨by simpa using (q5 hc).1,by simpa using (q5 hc).2⟩,p5,p2,fun i x hx=>by
   obtain ⟨vs,t1,t2⟩:=p3 i x hx
   exact ⟨vs,RepT.mono (fun _ _=>rfl) hs t1,t2⟩⟩
theorem plain_inj (k:K)(x:k.T):(∀ k' xs,inj k x=.val false [.mv k' xs]->False)/\(∀ k' y,inj k x=.val false [.io k' y]->False):=by
 cases k<;>simp [inj,leaves,K.isAgg]
theorem handV_some {P:Program} {hp:Nat->Option Obj} {t:TypeId} {g:Bool} {cs:List S} {h:Hand} (hd:handV P hp t g cs=some h):∃ k x,g=k.isAgg/\rei1 hp k cs=some x/\h=⟨inj k x,idsOf cs,[],[]⟩:=by
 unfold handV at hd
 split at hd
 ·rename_i k _
  cases hg:(g == k.isAgg) with
  | false=>rw [hg] at hd;cases hd
  | true =>
   rw [hg] at hd
   simp only [cond_true] at hd
   split at hd
   ·rename_i x hx
    simp only [Option.some.injEq] at hd
    exact ⟨k,x,by simpa using hg,hx,hd.symm⟩
   ·cases hd
 ·cases hd
theorem handV_rep {P:Program} {c:Cx} {w0:World} {M:MS} (hm:Mem w0 M c) {hp:Nat->Option Obj} (hh:∀ id o,hp id=some o->c.hp id=some o) {t:TypeId} {g:Bool} {cs:List S} {h:Hand} {v:Value} (hd:handV P hp t g cs=some h)(hr:RepV c (.val g cs) v) {S':Nat->Prop} (hs:∀ b,c.S b->S' b)(hi:∀ id ∈ h.frz,∀ b,c.β id=some b->S' b) :
  ArgRel c.te c.w S' h.arg v none/\h.mv=[]/\h.io=[]:=by
 obtain ⟨k,x,hg,hx,rfl⟩:=handV_some hd
 refine ⟨?_,rfl,rfl⟩
 have hc:RepV (clC c.te c.w S') (inj k x) v:=by
  unfold inj
  cases g with
  | true =>
   obtain ⟨arr,rfl,hl⟩:=hr
   rw [<- hg]
   exact ⟨arr,rfl,(leaves_rep (c:=clC c.te c.w S') k x _).2 (rei1_rep hm hh hs hi hl hx)⟩
  | false =>
   obtain ⟨s,rfl,hrs⟩:=hr
   rw [<- hg]
   have hl:=(leaves_rep (c:=clC c.te c.w S') k x _).2 (rei1_rep hm hh hs hi (vs:=[v]) ⟨hrs,trivial⟩ hx)
   match hlv:leaves k x,hl with
   | [s'],hl=>exact ⟨s',rfl,hl.1⟩
 show ArgRel c.te c.w S' (inj k x) v none
 unfold ArgRel
 split
 ·rename_i e;exact ((plain_inj k x).1 _ _ e).elim
 ·rename_i e;exact ((plain_inj k x).2 _ _ e).elim
 ·exact ⟨rfl,hc⟩
theorem handArg_rep {P:Program} {c:Cx} {w0:World} {M:MS} (hm:Mem w0 M c) {hp:Nat->Option Obj} (hh:∀ id o,hp id=some o->c.hp id=some o) {mv:Bool} {t:TypeId} {a:AV} {h:Hand} {v:Value} (hd:handArg P hp mv t a=some h)(hr:RepV c a v) {S':Nat->Prop} (hs:∀ b,c.S b->S' b)(hi:∀ id ∈ h.frz,∀ b,c.β id=some b->S' b) :
  ArgRel c.te c.w S' h.arg v (h.blk c.β)/\(∀ b,h.blk c.β=some b->∃ id ∈ h.excl,Live c id b)/\(∀ id ∈ h.excl,id ∈ a.ids)/\(h.mv=[]\/h.io=[])/\(∀ id ∈ h.mv,∃ k xs gen hist,c.hp id=some (.row k xs gen hist false)) /\
   (∀ id k,(id,k) ∈ h.io->∃ cs x,c.hp id=some (.box cs)/\cs ≠ []/\cs.length=k.size/\h.arg=.val false [.io k x]/\h.blk c.β=c.β id)/\h.excl.length<=1:=by
 have trivialRest:h.mv=[]->h.io=[]->(∀ b,h.blk c.β=some b->∃ id ∈ h.excl,Live c id b)/\(∀ id ∈ h.excl,id ∈ a.ids)/\(h.mv=[]\/h.io=[])/\(∀ id ∈ h.mv,∃ k xs gen hist,c.hp id=some (.row k xs gen hist false)) /\
   (∀ id k,(id,k) ∈ h.io->∃ cs x,c.hp id=some (.box cs)/\cs ≠ []/\cs.length=k.size/\h.arg=.val false [.io k x]/\h.blk c.β=c.β id)/\h.excl.length<=1:=by
  intro e1 e2
  refine ⟨fun b hb=>?_,fun id hid=>?_,.inl e1,fun id hid=>?_,fun id k hid=>?_,by simp [Hand.excl,e1,e2]⟩
  ·simp [Hand.blk,e1,e2] at hb
  ·simp [Hand.excl,e1,e2] at hid
  ·rw [e1] at hid;simp at hid
  ·rw [e2] at hid;simp at hid
 unfold handArg at hd
 split at hd
 ·-- nil
  have hn:v=.slice none 0 0:=repV_inv hr
  cases mv with
  | true =>
   simp only [cond_true] at hd
   split at hd
   ·split at hd
    ·simp only [Option.some.injEq] at hd;subst hd
     exact ⟨⟨hn,rfl⟩,trivialRest rfl rfl⟩
    ·cases hd
   ·cases hd
  | false =>
   simp only [cond_false] at hd
   obtain ⟨p1,p2,p3⟩:=handV_rep hm hh hd hr hs hi
   exact ⟨by rw [show h.blk c.β=none by simp [Hand.blk,p2,p3]];exact p1,trivialRest p2 p3⟩
 ·rename_i id g
  have hv:=repV_inv hr
  cases mv with
  | true =>
   simp only [cond_true] at hd
   split at hd
   ·rename_i k xs gen hist ho
    cases hg:Nat.beq g gen with
    | false=>rw [hg] at hd;cases hd
    | true =>
     rw [hg] at hd
     simp only [cond_true,Option.some.injEq] at hd;subst hd
     have hg:=Nat.eq_of_beq_eq_true hg
     subst hg
     have e1:=hh id _ ho
     refine ⟨row_arg hm e1 hv hs,fun b hb=>⟨id,by simp [Hand.excl],hb,_,e1,rfl⟩,fun j hj=>?_,.inr rfl,fun j hj=>?_,fun j k hj=>by simp at hj,by simp [Hand.excl]⟩
     ·simp [Hand.excl] at hj;subst hj;simp [AV.ids,idsOf,S.ids]
     ·simp at hj;subst hj;exact ⟨_,_,_,_,e1⟩
   ·cases hd
  | false =>
   simp only [cond_false] at hd
   obtain ⟨p1,p2,p3⟩:=handV_rep hm hh hd hr hs hi
   exact ⟨by rw [show h.blk c.β=none by simp [Hand.blk,p2,p3]];exact p1,trivialRest p2 p3⟩
 ·rename_i id g i p
  have hv:=repV_inv hr
  cases hp0:p.isEmpty with
  | false=>rw [hp0] at hd;cases hd
  | true =>
   rw [hp0] at hd
   simp only [cond_true] at hd
   have hp1:p=[]:=List.isEmpty_iff.1 hp0
   subst hp1
   split at hd
   ·rename_i cs e ho hu
    cases hne:(!cs.isEmpty && Nat.beq g 0 && Nat.beq i 0) with
    | false=>rw [hne] at hd;cases hd
    | true =>
     rw [hne] at hd
     simp only [cond_true] at hd
     split at hd
     ·rename_i k hk
      split at hd
      ·rename_i x hx
       simp only [Option.some.injEq] at hd;subst hd
       have e1:=hh id _ ho
       have hcn:cs ≠ []:=by rintro rfl;simp at hne
       obtain ⟨_,ob,t1,_,t2,_⟩:=hv
       rw [e1] at t1;cases t1
       obtain ⟨b,hb,ev,_,_⟩:=t2 cs rfl hcn
       obtain ⟨b',arr,q1,q2,q3⟩:=hm.obj id _ e1 hcn
       rw [hb] at q1;cases q1
       have hrx:=rei1_rep hm hh hs hi q3 hx
       have hlen:cs.length=k.size:=q3.length.trans (RepT.len hrx)
       refine ⟨⟨b,hb,by simpa [pathOff] using ev,arr,q2,?_⟩,fun b' hb'=>⟨id,by simp [Hand.excl],hb',_,e1,by simp [Obj.live,hcn]⟩,fun j hj=>?_,.inl rfl,fun j hj=>by simp at hj,fun j k' hj=>?_,by simp [Hand.excl]⟩
       ·have:=(leaves_rep (c:=clC c.te c.w S') k x _).2 hrx
        have hll:(leaves k x).length=cs.length:=this.length.trans q3.length.symm
        rw [hll]
        exact this
       ·simp [Hand.excl] at hj;subst hj;simp [AV.ids,idsOf,S.ids]
       ·simp at hj
        obtain ⟨rfl,rfl⟩:=hj
        exact ⟨cs,x,e1,hcn,hlen,rfl,rfl⟩
      ·cases hd
     ·cases hd
   ·cases hd
 ·rename_i k x p
  simp only [Option.some.injEq] at hd
  subst hd
  have hv:=repV_inv hr
  obtain ⟨q1,b,o,vs,q2,q3,q4,q5⟩:=hv
  exact ⟨⟨rfl,_,rfl,q1,b,o,vs,hs b q2,q3,RepT.mono (fun _ _=>rfl) hs q4,q5⟩,trivialRest rfl rfl⟩
 ·rename_i g cs _ _ _ _
  obtain ⟨p1,p2,p3⟩:=handV_rep hm hh hd hr hs hi
  exact ⟨by rw [show h.blk c.β=none by simp [Hand.blk,p2,p3]];exact p1,trivialRest p2 p3⟩
 ·cases hd
end Go.Eng
namespace Go.Eng
open Go.RowKit
def LR3 {α β γ:Type} (R:α->β->γ->Prop):List α->List β->List γ->Prop
 | [],[],[]=>True
 | a::r,b::s,c::t=>R a b c/\LR3 R r s t
 | _,_,_=>False
def mvB (args:List AV)(bs:List (Option Nat))(b:Nat):Prop:=∃ (j:Nat)(k:K)(xs:List k.T),args[j]?=some (AV.val false [S.mv k xs])/\bs[j]?=some (some b)
def tupA (arr:Array Value):Value:=if h:arr.size=1 then arr[0] else .tuple arr
def ResV (te:TE)(w':World)(S':Nat->Prop)(okb:Nat->Prop):List (Bool × K)->List (Bool × List S)->List Value->Prop
 | [],[],[]=>True
 | (true,_)::r,(_,[.sl k xs])::l,v::vs=>(∃ ob,RowArg te w' S' ob k xs v/\∀ b,ob=some b->okb b/\¬ S' b)/\ResV te w' S' okb r l vs
 | (false,_)::r,(g,cs)::l,v::vs=>RepV (clC te w' S') (.val g cs) v/\ResV te w' S' okb r l vs
 | _,_,_=>False
def ResIo (te:TE)(w':World)(S':Nat->Prop):List AV->List (Option Nat)->List (Bool × List S)->Prop
 | .val false [.io k _]::r,ob::bs,p::l=>(∃ b,ob=some b/\BoxArg te w' S' b p.2/\¬ S' b/\p.2.length=k.size)/\ResIo te w' S' r bs l
 | .val false [.io _ _]::_,_,[]=>False
 | _::r,_::bs,l=>ResIo te w' S' r bs l
 | [],[],l=>l=[]
 | _,_,_=>False
structure CoD where
 cid:Nat
 t:Nat
 off:Nat
 m:Mode
 k:K
 xs:List k.T
def coAV (d:CoD):AV:=.val false [.co d.cid d.t d.off d.m d.k d.xs]
def isCo:AV->Bool
 | .val false [.co ..]=>true
 | _=>false
def coHp:List CoD->Nat->Option Obj
 | [],_=>none
 | d::r,id=>if d.cid=id then some (.col d.t d.off d.m d.k d.xs 0 none) else coHp r id
def coC (te:TE)(w:World)(Sb:Nat->Prop)(cos:List CoD):Cx:=⟨te,w,Sb,fun _=>none,coHp cos⟩
structure ManIn (A:Ann)(te:TE)(w:World)(Sb:Nat->Prop)(bs:List (Option Nat))(cos:List CoD):Prop where
 nod:(cos.map (·.cid)).Nodup
 r:ManR A (coC te w Sb cos)
 sep:∀ l b,OwnX (coC te w Sb cos) l b->some b ∉ bs
def CoSame (d d':CoD):Prop:=d'.cid=d.cid/\d'.t=d.t/\d'.off=d.off/\d'.m=d.m/\d'.k=d.k
def XOf (te:TE)(w:World)(Sb:Nat->Prop)(cos:List CoD)(b:Nat):Prop:=∃ l,OwnX (coC te w Sb cos) l b
structure ManOut (A:Ann)(te te':TE)(w w':World)(Sb S':Nat->Prop)(args:List AV)(bs:List (Option Nat))(cos cos':List CoD):Prop where
 same:LR CoSame cos cos'
 man:Man A te w ⟨fun b=>some b ∈ bs,Sb,XOf te w Sb cos⟩ (coC te' w' S' cos')
 io:∀ l b,OwnX (coC te' w' S' cos') l b->∀ (j:Nat) k x,args[j]?=some (.val false [.io k x])->bs[j]? ≠ some (some b)
def Res (te:TE)(X Z:Nat->Prop)(w w':World)(Sb S':Nat->Prop)(args:List AV)(bs:List (Option Nat))(sg:Sig)(rr:sg.R)(v:Value):Prop :=
 ∃ (arr:Array Value),v=tupA arr/\Fr w (fun b=>some b ∈ bs\/X b) w'/\(∀ b,Sb b->S' b)/\(∀ b,S' b->b < w'.heap.size/\(Sb b\/w.heap.size<=b\/mvB args bs b)) /\
  ResV te w' S' (fun b=>b < w'.heap.size/\(w.heap.size<=b\/mvB args bs b)/\¬ Z b) sg.res ((lvs sg.ks rr).take sg.res.length) arr.toList /\
  ResIo te w' S' args bs (((lvs sg.ks rr).drop sg.res.length).take (ioKs args).length)
def Glob (Gl:Nat->Option Go.Obj)(Sb:Nat->Prop)(w:World):Prop:=∀ b o,Gl b=some o->Sb b/\w.heap[b]?=some o
def SoundC (P:Program)(A:Ann)(Gl:Nat->Option Go.Obj)(C:CallF):Prop :=
 ∀ (sg:Sig) (f:Nat) (args:List AV) (cos:List CoD) (rr:sg.R),(∀ a ∈ args,isCo a=false)->C sg f (args++cos.map coAV)=some rr ->
  (∃ fn, P.funcs[f]? = some fn /\ (fn.name == "runtime.NumGoroutine") = false /\ fn.body.isNone = false) /\
  ∀ (te:TE) (w:World) (Sb:Nat->Prop) (vs:Array Value) (bs:List (Option Nat)),te.te=A.te->Glob Gl Sb w->(∀ b,Sb b->b < w.heap.size)->LR3 (ArgRel te w Sb) args vs.toList bs ->
   (∀ (j b:Nat),bs[j]?=some (some b)->b < w.heap.size/\¬ Sb b)->(∀ (j j' b:Nat),bs[j]?=some (some b)->bs[j']?=some (some b)->j=j')->ManIn A te w Sb bs cos ->
   Calls P f vs w (fun e w'=>∃ v te' S' cos',e=.returned v/\Res te' (XOf te w Sb cos) (XOf te' w' S' cos') w w' Sb S' args bs sg rr v/\ManOut A te te' w w' Sb S' args bs cos cos' /\
    LR (fun (p:Bool × List S) (d:CoD)=>p.2=[.sl d.k d.xs]) ((lvs sg.ks rr).drop (sg.res.length+(ioKs args).length)) cos')
theorem run_callFunc {P : Program} {w : World} {f : Nat} {fn : Func} (h1 : P.funcs[f]? = some fn) (h2 : (fn.name == "runtime.NumGoroutine") = false) (h3 : fn.body.isNone = false) (vs : Array Value) : (callFunc f vs).run P w = .ok (.enter f vs) w := by
 unfold callFunc
 rw [run_ok (show (program).run P w=.ok P w from rfl)]
 simp only [h1,h2,h3,Bool.false_eq_true,if_false];rfl
theorem disj_spec {a b:List Nat} (h:disj a b=true) {x:Nat} (ha:x ∈ a)(hb:x ∈ b):False:=by
 unfold disj at h
 have:=List.all_eq_true.1 h x ha
 rw [List.contains_iff_mem.2 hb] at this;cases this
theorem exOk_spec:∀ {l:List (List Nat × List Nat)},exOk l=true->∀ (i j:Nat) p q,i ≠ j->l[i]?=some p->l[j]?=some q->∀ x,x ∈ p.1->x ∈ q.2->False
 | [],_,i,j,p,q,_,hi,_=>by simp at hi
 | a::r,h,i,j,p,q,hij,hi,hj=>by
  simp only [exOk,Bool.and_eq_true] at h
  intro x hx hy
  cases i with
  | zero =>
   cases j with
   | zero=>exact hij rfl
   | succ j =>
    simp at hi hj;subst hi
    have:=List.all_eq_true.1 h.1 q (List.mem_of_getElem? hj)
    simp only [Bool.and_eq_true] at this
    exact disj_spec this.1 hx hy
  | succ i =>
   cases j with
   | zero =>
    simp at hi hj;subst hj
    have:=List.all_eq_true.1 h.1 p (List.mem_of_getElem? hi)
    simp only [Bool.and_eq_true] at this
    exact disj_spec this.2 hx hy
   | succ j=>exact exOk_spec h.2 i j p q (by omega) (by simpa using hi) (by simpa using hj) x hx hy
theorem handArgs_get {P:Program} {hp:Nat->Option Obj}:∀ {m:List Bool} {ts:List TypeId} {args:List AV} {hs:List Hand},handArgs P hp m ts args=some hs->args.length=hs.length/\∀ (j:Nat) a,args[j]?=some a->∃ h b t,hs[j]?=some h/\handArg P hp b t a=some h
 | m,ts,[],hs,h=>by
  have:hs=[]:=by
   cases ts<;>simp [handArgs] at h<;>first | exact h | exact h.symm
  subst this
  exact ⟨rfl,by simp⟩
 | m,t::ts,a::r,hs,h=>by
  simp only [handArgs] at h
  split at h
  ·rename_i h1 hs1 e1 e2
   simp only [Option.some.injEq] at h;subst h
   obtain ⟨q1,q2⟩:=handArgs_get e2
   refine ⟨by simp [q1],fun j x hx=>?_⟩
   cases j with
   | zero=>simp at hx;subst hx;exact ⟨h1,_,t,rfl,e1⟩
   | succ j=>simpa using q2 j x (by simpa using hx)
  ·cases h
 | m,[],a::r,hs,h=>by simp [handArgs] at h
theorem exAll_get:∀ {args:List AV} {hs:List Hand} {j:Nat} {a:AV} {h:Hand},args[j]?=some a->hs[j]?=some h->(exAll args hs)[j]?=some (h.excl,a.ids++h.frz)
 | a::as,h::hs,0,_,_,h1,h2=>by simp at h1 h2;subst h1;subst h2;rfl
 | a::as,h::hs,j+1,_,_,h1,h2=>by simpa [exAll] using exAll_get (args:=as) (hs:=hs) (j:=j) (by simpa using h1) (by simpa using h2)
 | [],_,_,_,_,h1,_=>by simp at h1
 | _::_,[],_,_,_,_,h2=>by simp at h2
theorem rowOf_row {hp:Nat->Option Obj} {s:S} (h:rowOf hp s ≠ .none):∀ id ∈ s.ids,∃ k xs gen hist frz,hp id=some (.row k xs gen hist frz):=by
 intro id hid
 cases s<;>simp only [S.ids,List.mem_singleton,List.not_mem_nil] at hid
 case vw j g =>
  subst hid
  simp only [rowOf] at h
  split at h
  ·rename_i k xs gen hist frz hq;exact ⟨_,_,_,_,_,hq⟩
  ·exact (h rfl).elim
 case pv j g off len =>
  subst hid
  simp only [rowOf] at h
  split at h
  ·rename_i k xs gen hist frz hq;exact ⟨_,_,_,_,_,hq⟩
  ·exact (h rfl).elim
 case ptr=>simp [rowOf] at h
 case mp=>simp [rowOf] at h
 case rp=>simp [rowOf] at h
 case ov=>simp [rowOf] at h
 case oe=>simp [rowOf] at h
 case bm=>simp [rowOf] at h
theorem rei_row {hp:Nat->Option Obj}:∀ (k:K)(cs:List S)(x:k.T)(r:List S),rei hp k cs=some (x,r)->∀ id ∈ idsOf cs,id ∈ idsOf r\/∃ k xs gen hist frz,hp id=some (.row k xs gen hist frz):=by
 intro k
 induction k with
 | prod a b iha ihb =>
  intro cs x r h id hid
  simp only [rei] at h
  split at h
  ·rename_i y r1 h1
   split at h
   ·rename_i z r2 h2
    cases h
    rcases iha cs y r1 h1 id hid with q | q
    ·exact ihb r1 z r h2 id q
    ·exact .inr q
   ·cases h
  ·cases h
 | strct a ih =>
  intro cs x r h id hid
  simp only [rei] at h
  exact ih cs x r h id hid
 | slice e _ =>
  intro cs x r h id hid
  match cs with
  | []=>simp [rei] at h
  | s::cs =>
   simp only [rei] at h
   simp only [idsOf,List.mem_append] at hid
   have hr:r=cs/\rowOf hp s ≠ .none:=by
    split at h
    ·rename_i hq;cases h;exact ⟨rfl,by rw [hq];simp⟩
    ·rename_i k' xs hq
     split at h
     ·cases h;exact ⟨rfl,by rw [hq];simp⟩
     ·cases h
    ·cases h
   rcases hid with q | q
   ·exact .inr (rowOf_row hr.2 id q)
   ·exact .inl (by rw [hr.1];exact q)
 | int k =>
  intro cs x r h id hid
  match cs with
  | .int k' n::cs =>
   simp only [rei] at h
   cases hd:decide (k'=k) with
   | true=>rw [hd] at h;cases h;exact .inl (by simpa [idsOf,S.ids] using hid)
   | false=>rw [hd] at h;cases h
  | []=>simp [rei] at h
  | .undef::_ | .bool _::_ | .str _::_ | .err _::_ | .fn _::_ | .nilS::_ | .sl _ _::_ | .vw _ _::_ | .pv _ _ _ _::_ | .ptr _ _ _ _::_ | .mp _::_ | .clo _ _ _::_ | .ipt _ _ _::_ | .mv _ _::_ | .io _ _::_ | .nilP::_ | .ref ..::_ | .rb ..::_ | .rp ..::_ | .ov ..::_ | .oe ..::_ | .bm ..::_ | .co ..::_=>simp [rei] at h
 | bool =>
  intro cs x r h id hid
  match cs with
  | .bool n::cs=>simp only [rei] at h;cases h;exact .inl (by simpa [idsOf,S.ids] using hid)
  | []=>simp [rei] at h
  | .undef::_ | .int _ _::_ | .str _::_ | .err _::_ | .fn _::_ | .nilS::_ | .sl _ _::_ | .vw _ _::_ | .pv _ _ _ _::_ | .ptr _ _ _ _::_ | .mp _::_ | .clo _ _ _::_ | .ipt _ _ _::_ | .mv _ _::_ | .io _ _::_ | .nilP::_ | .ref ..::_ | .rb ..::_ | .rp ..::_ | .ov ..::_ | .oe ..::_ | .bm ..::_ | .co ..::_=>simp [rei] at h
 | str =>
  intro cs x r h id hid
  match cs with
  | .str n::cs=>simp only [rei] at h;cases h;exact .inl (by simpa [idsOf,S.ids] using hid)
  | []=>simp [rei] at h
  | .undef::_ | .int _ _::_ | .bool _::_ | .err _::_ | .fn _::_ | .nilS::_ | .sl _ _::_ | .vw _ _::_ | .pv _ _ _ _::_ | .ptr _ _ _ _::_ | .mp _::_ | .clo _ _ _::_ | .ipt _ _ _::_ | .mv _ _::_ | .io _ _::_ | .nilP::_ | .ref ..::_ | .rb ..::_ | .rp ..::_ | .ov ..::_ | .oe ..::_ | .bm ..::_ | .co ..::_=>simp [rei] at h
 | err =>
  intro cs x r h id hid
  match cs with
  | .err n::cs=>simp only [rei] at h;cases h;exact .inl (by simpa [idsOf,S.ids] using hid)
  | []=>simp [rei] at h
  | .undef::_ | .int _ _::_ | .bool _::_ | .str _::_ | .fn _::_ | .nilS::_ | .sl _ _::_ | .vw _ _::_ | .pv _ _ _ _::_ | .ptr _ _ _ _::_ | .mp _::_ | .clo _ _ _::_ | .ipt _ _ _::_ | .mv _ _::_ | .io _ _::_ | .nilP::_ | .ref ..::_ | .rb ..::_ | .rp ..::_ | .ov ..::_ | .oe ..::_ | .bm ..::_ | .co ..::_=>simp [rei] at h
 | fn =>
  intro cs x r h id hid
  match cs with
  | .fn n::cs=>simp only [rei] at h;cases h;exact .inl (by simpa [idsOf,S.ids] using hid)
  | []=>simp [rei] at h
  | .undef::_ | .int _ _::_ | .bool _::_ | .str _::_ | .err _::_ | .nilS::_ | .sl _ _::_ | .vw _ _::_ | .pv _ _ _ _::_ | .ptr _ _ _ _::_ | .mp _::_ | .clo _ _ _::_ | .ipt _ _ _::_ | .mv _ _::_ | .io _ _::_ | .nilP::_ | .ref ..::_ | .rb ..::_ | .rp ..::_ | .ov ..::_ | .oe ..::_ | .bm ..::_ | .co ..::_=>simp [rei] at h
 | ref t =>
  intro cs x r h id hid
  match cs with
  | .ref t' n::cs =>
   simp only [rei] at h
   cases hb:Nat.beq t' t with
   | false=>rw [hb] at h;cases h
   | true=>rw [hb] at h;cases h;exact .inl (by simpa [idsOf,S.ids] using hid)
  | .rb t' n::cs =>
   simp only [rei] at h
   cases hb:Nat.beq t' t with
   | false=>rw [hb] at h;cases h
   | true=>rw [hb] at h;cases h;exact .inl (by simpa [idsOf,S.ids] using hid)
  | .nilP::cs=>simp only [rei] at h;cases h;exact .inl (by simpa [idsOf,S.ids] using hid)
  | []=>simp [rei] at h
  | .undef::_ | .int _ _::_ | .bool _::_ | .str _::_ | .err _::_ | .fn _::_ | .nilS::_ | .sl _ _::_ | .vw _ _::_ | .pv _ _ _ _::_ | .ptr _ _ _ _::_ | .mp _::_ | .clo _ _ _::_ | .ipt _ _ _::_ | .mv _ _::_ | .io _ _::_ | .rp ..::_ | .ov ..::_ | .oe ..::_ | .bm ..::_ | .co ..::_=>simp [rei] at h
theorem rei1_row {hp:Nat->Option Obj} {k:K} {cs:List S} {x:k.T} (h:rei1 hp k cs=some x):∀ id ∈ idsOf cs,∃ k xs gen hist frz,hp id=some (.row k xs gen hist frz):=by
 intro id hid
 unfold rei1 at h
 split at h
 ·rename_i y hy
  rcases rei_row k cs y [] hy id hid with q | q
  ·simp [idsOf] at q
  ·exact q
 ·cases h
theorem handV_frz {P:Program} {hp:Nat->Option Obj} {t:TypeId} {g:Bool} {cs:List S} {h:Hand} (hd:handV P hp t g cs=some h):(h.io=[]->∀ id ∈ h.frz,∃ k xs gen hist frz,hp id=some (.row k xs gen hist frz))/\h.io=[]:=by
 obtain ⟨k,x,_,hx,rfl⟩:=handV_some hd
 exact ⟨fun _=>rei1_row hx,rfl⟩
theorem handArg_frz {P:Program} {hp:Nat->Option Obj} {mv:Bool} {t:TypeId} {a:AV} {h:Hand} (hd:handArg P hp mv t a=some h):(h.io=[]->∀ id ∈ h.frz,∃ k xs gen hist frz,hp id=some (.row k xs gen hist frz))/\(isPtrV a=false->h.io=[]):=by
 unfold handArg at hd
 split at hd
 ·cases mv with
  | true =>
   simp only [cond_true] at hd
   split at hd
   ·split at hd
    ·simp only [Option.some.injEq] at hd;subst hd;exact ⟨fun _ id hid=>by simp at hid,fun _=>rfl⟩
    ·cases hd
   ·cases hd
  | false=>simp only [cond_false] at hd;obtain ⟨p1,p2⟩:=handV_frz hd;exact ⟨p1,fun _=>p2⟩
 ·rename_i id g
  cases mv with
  | true =>
   simp only [cond_true] at hd
   split at hd
   ·rename_i k xs gen hist ho
    cases hg:Nat.beq g gen with
    | false=>rw [hg] at hd;cases hd
    | true=>rw [hg] at hd;simp only [cond_true,Option.some.injEq] at hd;subst hd;exact ⟨fun _ id hid=>by simp at hid,fun _=>rfl⟩
   ·cases hd
  | false=>simp only [cond_false] at hd;obtain ⟨p1,p2⟩:=handV_frz hd;exact ⟨p1,fun _=>p2⟩
 ·refine ⟨fun hio=>?_,fun hp=>by simp [isPtrV] at hp⟩
  rename_i id g i p
  cases hp0:p.isEmpty with
  | false=>rw [hp0] at hd;cases hd
  | true =>
   rw [hp0] at hd
   simp only [cond_true] at hd
   split at hd
   ·rename_i cs e ho hu
    cases hne:(!cs.isEmpty && Nat.beq g 0 && Nat.beq i 0) with
    | false=>rw [hne] at hd;cases hd
    | true =>
     rw [hne] at hd
     simp only [cond_true] at hd
     split at hd
     ·split at hd
      ·simp only [Option.some.injEq] at hd;subst hd;simp at hio
      ·cases hd
     ·cases hd
   ·cases hd
 ·simp only [Option.some.injEq] at hd;subst hd;exact ⟨fun _ id hid=>by simp at hid,fun _=>rfl⟩
 ·obtain ⟨p1,p2⟩:=handV_frz hd
  exact ⟨p1,fun _=>p2⟩
 ·cases hd
theorem anyPtr_get {args:List AV} (h:anyPtr args=false)(a:AV)(ha:a ∈ args):isPtrV a=false:=by
 unfold anyPtr at h
 rw [List.any_eq_false] at h
 simpa using h a ha
def scal:S->Bool
 | .bool _ | .int _ _ | .str _ | .err _ | .fn _ | .ref _ _=>true
 | _=>false
theorem leaves_scal:∀ (k:K)(x:k.T),k.rows=false->∀ s ∈ leaves k x,scal s=true
 | .int _,_,_,s,h=>by simp [leaves] at h;subst h;rfl
 | .bool,_,_,s,h=>by simp [leaves] at h;subst h;rfl
 | .str,_,_,s,h=>by simp [leaves] at h;subst h;rfl
 | .err,_,_,s,h=>by simp [leaves] at h;subst h;rfl
 | .fn,_,_,s,h=>by simp [leaves] at h;subst h;rfl
 | .ref _,_,_,s,h=>by simp [leaves] at h;subst h;rfl
 | .slice _,_,hr,s,h=>by simp [K.rows] at hr
 | .prod a b,x,hr,s,h=>by
  simp [K.rows] at hr
  simp only [leaves,List.mem_append] at h
  rcases h with h | h
  ·exact leaves_scal a x.1 hr.1 s h
  ·exact leaves_scal b x.2 hr.2 s h
 | .strct a,x,hr,s,h=>leaves_scal a x hr s h
theorem lvs_scal:∀ (ks:List K)(x:Ts ks),ks.any K.rows=false->∀ p ∈ lvs ks x,∀ s ∈ p.2,scal s=true
 | [],_,_,p,h=>by simp [lvs] at h
 | [k],x,hr,p,h=>by
  simp [lvs] at h;subst h
  simp at hr
  exact leaves_scal k x hr
 | k::k'::r,x,hr,p,h=>by
  simp only [lvs,List.mem_cons] at h
  simp only [List.any_cons,Bool.or_eq_false_iff] at hr
  rcases h with rfl | h
  ·exact leaves_scal k x.1 hr.1
  ·exact lvs_scal (k'::r) x.2 (by simp only [List.any_cons,Bool.or_eq_false_iff];exact hr.2) p (by simpa using h)
theorem scal_rep {c c':Cx} (hte:TLe c.te c'.te) {s:S} {v:Value} (h:scal s=true)(hr:RepS c s v):RepS c' s v:=by
 cases s<;>simp [scal] at h<;>simp only [RepS] at hr ⊢<;>first | exact hr | (rw [errV_le hte];exact hr) | exact RefV.le hte hr
def PairR (c:Cx)(p:Bool × List S)(u:Value):Prop:=if p.1=true then ∃ a,u=Value.agg a/\LR (RepS c) p.2 a.toList else ∃ s,p.2=[s]/\RepS c s u
theorem pair_iff {c:Cx} {p:Bool × List S} {u:Value}:PairR c p u ↔ RepV c (.val p.1 p.2) u:=by
 obtain ⟨g,cs⟩:=p
 cases g<;>simp [PairR,RepV]
theorem lvs_length:∀ (ks:List K)(x:Ts ks),(lvs ks x).length=ks.length
 | [],_=>rfl
 | [_],_=>rfl
 | _::k'::r,x=>by simp only [lvs,List.length_cons];rw [lvs_length (k'::r) x.2];rfl
theorem ownRes_rep {te:TE} {w':World} {S':Nat->Prop} {okb:Nat->Prop}:∀ (ks:List K)(d:Option Nat)(own:List Bool)(comps l:List (Bool × List S))(u:Upd)(vals:List Value),ownRes d own comps=some (l,u)->ResV te w' S' okb (zipOwn own ks) comps vals ->
  (u=[]/\∀ c3:Cx,(∀ p ∈ comps,∀ s ∈ p.2,∀ v,RepS (clC te w' S') s v->RepS c3 s v)->LR (PairR c3) l vals) \/
  (∃ id k xs ob v,d=some id/\u=[(id,.row k xs 0 [] false)]/\RowArg te w' S' ob k xs v/\(∀ b,ob=some b->okb b/\¬ S' b)/\(∃ p ∈ comps,(.sl k xs:S) ∈ p.2) /\
   ∀ c3:Cx,(∀ p ∈ comps,∀ s ∈ p.2,∀ v,RepS (clC te w' S') s v->RepS c3 s v)->RepS c3 (.vw id 0) v->LR (PairR c3) l vals):=by
 intro ks
 induction ks with
 | nil =>
  intro d own comps l u vals h hr
  have:comps=[]/\vals=[]:=by
   cases own<;>cases comps<;>cases vals<;>simp [zipOwn,ResV] at hr ⊢
  obtain ⟨rfl,rfl⟩:=this
  have:l=[]/\u=[]:=by cases own<;>simp [ownRes] at h<;>first | exact ⟨h.1.symm,h.2.symm⟩ | exact h
  obtain ⟨rfl,rfl⟩:=this
  exact .inl ⟨rfl,fun _ _=>trivial⟩
 | cons k0 ks ih =>
  intro d own comps l u vals h hr
  have hz:zipOwn own (k0::ks)=(own.headD false,k0)::zipOwn own.tail ks:=by cases own<;>rfl
  rw [hz] at hr
  match comps,vals,hr with
  | p::cr,v::vr,hr =>
   have plain:∀ (o':List Bool),o'=own.tail->own.headD false=false->(∃ l1 u1,ownRes d o' cr=some (l1,u1)/\l=p::l1/\u=u1) ->
     (u=[]/\∀ c3:Cx,(∀ q ∈ p::cr,∀ s ∈ q.2,∀ v,RepS (clC te w' S') s v->RepS c3 s v)->LR (PairR c3) l (v::vr)) \/
     (∃ id k xs ob v',d=some id/\u=[(id,.row k xs 0 [] false)]/\RowArg te w' S' ob k xs v'/\(∀ b,ob=some b->okb b/\¬ S' b)/\(∃ q ∈ p::cr,(.sl k xs:S) ∈ q.2) /\
      ∀ c3:Cx,(∀ q ∈ p::cr,∀ s ∈ q.2,∀ v,RepS (clC te w' S') s v->RepS c3 s v)->RepS c3 (.vw id 0) v'->LR (PairR c3) l (v::vr)):=by
    intro o' ho' hown hh
    subst ho'
    rw [hown] at hr
    obtain ⟨g,cs⟩:=p
    simp only [ResV] at hr
    obtain ⟨hv,hr⟩:=hr
    obtain ⟨l1,u1,e1,rfl,rfl⟩:=hh
    have head:∀ c3:Cx,(∀ q ∈ (g,cs)::cr,∀ s ∈ q.2,∀ v,RepS (clC te w' S') s v->RepS c3 s v)->PairR c3 (g,cs) v:=by
     intro c3 hg
     rw [pair_iff]
     cases g with
     | true=>obtain ⟨arr,e,hl⟩:=hv;exact ⟨arr,e,hl.mono fun s hs v'=>hg (true,cs) (by simp) s hs v'⟩
     | false=>obtain ⟨s,e,hs⟩:=hv;subst e;exact ⟨s,rfl,hg (false,[s]) (by simp) s (by simp) v hs⟩
    rcases ih d own.tail cr l1 u vr e1 hr with ⟨rfl,q⟩ | ⟨id,k,xs,ob,v',q1,q2,q3,q4,⟨p',q5,q6⟩,q7⟩
    ·exact .inl ⟨rfl,fun c3 hg=>⟨head c3 hg,q c3 fun q hq=>hg q (by simp [hq])⟩⟩
    ·exact .inr ⟨id,k,xs,ob,v',q1,q2,q3,q4,⟨p',by simp [q5],q6⟩,fun c3 hg hv'=>⟨head c3 hg,q7 c3 (fun q hq=>hg q (by simp [hq])) hv'⟩⟩
   match own,h with
   | [],h =>
    simp only [ownRes] at h
    split at h
    ·rename_i l1 u1 e1
     simp only [Option.some.injEq,Prod.mk.injEq] at h
     exact plain [] rfl rfl ⟨l1,u1,e1,h.1.symm,h.2.symm⟩
    ·cases h
   | false::o,h =>
    simp only [ownRes] at h
    split at h
    ·rename_i l1 u1 e1
     simp only [Option.some.injEq,Prod.mk.injEq] at h
     exact plain o rfl rfl ⟨l1,u1,e1,h.1.symm,h.2.symm⟩
    ·cases h
   | true::o,h =>
    simp only [List.headD_cons,List.tail_cons] at hr
    obtain ⟨g,cs⟩:=p
    match cs,hr with
    | [.sl k xs],hr =>
     simp only [ResV] at hr
     obtain ⟨⟨ob,hra,hok⟩,hr⟩:=hr
     cases d with
     | none=>simp [ownRes] at h
     | some id =>
     simp only [ownRes] at h
     cases e1:ownRes none o cr with
     | none=>rw [e1] at h;cases h
     | some q =>
      obtain ⟨l1,u1⟩:=q
      rw [e1] at h
      simp only [Option.some.injEq,Prod.mk.injEq] at h
      obtain ⟨rfl,rfl⟩:=h
      rcases ih none o cr l1 u1 vr e1 hr with ⟨rfl,q⟩ | ⟨id',_,_,_,_,q1,_⟩
      ·refine .inr ⟨id,k,xs,ob,v,rfl,rfl,hra,hok,⟨(g,[.sl k xs]),by simp,by simp⟩,fun c3 hg hv'=>⟨?_,q c3 fun q hq=>hg q (by simp [hq])⟩⟩
       rw [pair_iff];exact ⟨_,rfl,hv'⟩
      ·cases q1
  | [],_,hr=>cases own<;>simp [ResV] at hr
  | _::_,[],hr =>
   exfalso
   unfold ResV at hr
   split at hr<;>simp_all
end Go.Eng
namespace Go.Eng
open Go.RowKit
theorem coHp_mem:∀ {cos:List CoD} {id:Nat} {o:Obj},coHp cos id=some o->∃ d ∈ cos,d.cid=id/\o=.col d.t d.off d.m d.k d.xs 0 none
 | [],id,o,h=>by cases h
 | d::r,id,o,h=>by
  simp only [coHp] at h
  by_cases e:d.cid=id
  ·rw [if_pos e] at h;cases h;exact ⟨d,by simp,e,rfl⟩
  ·rw [if_neg e] at h
   obtain ⟨d',q1,q2⟩:=coHp_mem h
   exact ⟨d',by simp [q1],q2⟩
theorem coHp_get:∀ {cos:List CoD} {d:CoD},(cos.map (·.cid)).Nodup->d ∈ cos->coHp cos d.cid=some (.col d.t d.off d.m d.k d.xs 0 none)
 | [],d,_,h=>by cases h
 | a::r,d,hn,h=>by
  simp only [List.map_cons,List.nodup_cons] at hn
  simp only [coHp]
  rcases List.mem_cons.1 h with rfl | h
  ·rw [if_pos rfl]
  ·rw [if_neg,coHp_get hn.2 h]
   intro e
   exact hn.1 (List.mem_map.2 ⟨d,h,e.symm⟩)
theorem coSame_cids:∀ {cos cos':List CoD},LR CoSame cos cos'->cos'.map (·.cid)=cos.map (·.cid)
 | [],[],_=>rfl
 | a::r,b::s,h=>by simp only [List.map_cons];rw [h.1.1,coSame_cids h.2]
 | [],_::_,h=>h.elim
 | _::_,[],h=>h.elim
theorem coSame_mem:∀ {cos cos':List CoD},LR CoSame cos cos'->∀ d ∈ cos,∃ d' ∈ cos',CoSame d d'
 | [],[],_,d,h=>by cases h
 | a::r,b::s,h,d,hd=>by
  rcases List.mem_cons.1 hd with rfl | hd
  ·exact ⟨b,by simp,h.1⟩
  ·obtain ⟨d',q1,q2⟩:=coSame_mem h.2 d hd
   exact ⟨d',by simp [q1],q2⟩
 | [],_::_,h,_,_=>h.elim
 | _::_,[],h,_,_=>h.elim
theorem coSame_mem':∀ {cos cos':List CoD},LR CoSame cos cos'->∀ d' ∈ cos',∃ d ∈ cos,CoSame d d'
 | [],[],_,d,h=>by cases h
 | a::r,b::s,h,d,hd=>by
  rcases List.mem_cons.1 hd with rfl | hd
  ·exact ⟨a,by simp,h.1⟩
  ·obtain ⟨d',q1,q2⟩:=coSame_mem' h.2 d hd
   exact ⟨d',by simp [q1],q2⟩
 | [],_::_,h,_,_=>h.elim
 | _::_,[],h,_,_=>h.elim
theorem LayOk.inj {l:List (Nat × Mode × K)} (h:LayOk l) {off:Nat} {m m':Mode} {k k':K} (h1:(off,m,k) ∈ l)(h2:(off,m',k') ∈ l):m=m'/\k=k':=by
 have sz:∀ (m:Mode) (k:K),0 < csz m k:=fun m k=>by cases m<;>simp [csz];exact size_pos k
 rcases h.2 _ h1 _ h2 with e | e | e
 ·cases e;exact ⟨rfl,rfl⟩
 ·have:=sz m k;simp at e;omega
 ·have:=sz m' k';simp at e;omega
theorem cidOf_inj {t t' off off':Nat} (h:off < 64)(h':off' < 64)(e:cidOf t off=cidOf t' off'):t=t'/\off=off':=by
 unfold cidOf at e
 omega
theorem ManR.two {A:Ann} {c c':Cx} (hM:ManR A c)(hM':ManR A c') {cid t off t' off':Nat} {m m':Mode} {k k':K} {xs:List k.T} {xs':List k'.T} {g g':Nat} {p p':Option Nat}
  (h:c.hp cid=some (.col t off m k xs g p)) (h':c'.hp cid=some (.col t' off' m' k' xs' g' p')):t=t'/\off=off'/\m=m'/\k=k':=by
 obtain ⟨h1,h2⟩:=hM.ci _ _ _ _ _ _ _ _ h
 obtain ⟨h3,h4⟩:=hM'.ci _ _ _ _ _ _ _ _ h'
 obtain ⟨rfl,rfl⟩:=cidOf_inj ((hM.lay t).1 _ h2).1 ((hM'.lay t').1 _ h4).1 (h1.symm.trans h3)
 obtain ⟨rfl,rfl⟩:=(hM.lay t).inj h2 h4
 exact ⟨rfl,rfl,rfl,rfl⟩
structure Behind (A:Ann)(c1 c2:Cx)(S':Nat->Prop)(args:List AV)(bs:List (Option Nat))(ds cos':List CoD):Prop where
 hds:∀ d ∈ ds,∃ g,c1.hp d.cid=some (.col d.t d.off d.m d.k d.xs g none)
 nod:(ds.map (·.cid)).Nodup
 out:ManOut A c1.te c2.te c1.w c2.w c1.S S' args bs ds cos'
 fr:Fr c1.w (fun b=>some b ∈ bs\/XOf c1.te c1.w c1.S ds b) c2.w
 hbs:∀ b,some b ∈ bs->∃ id,Live c1 id b
 sub:∀ b,c1.S b->c2.S b
 s2:ds ≠ []->c2.S=S'
 sup:∀ b,c2.S b->c1.S b\/c1.w.heap.size<=b\/some b ∈ bs
 hp1:∀ d ∈ cos',∃ g,c2.hp d.cid=some (.col d.t d.off d.m d.k d.xs g none)
 hp2:∀ cid,(∀ d ∈ ds,d.cid ≠ cid)->∀ t off m k (xs:List k.T) g p,c2.hp cid=some (.col t off m k xs g p) ↔ c1.hp cid=some (.col t off m k xs g p)
 lv:∀ id b,Live c2 id b->(Live c1 id b/\(some b ∈ bs->∃ (j:Nat) (k:K) (x:k.T),args[j]?=some (.val false [.io k x])/\bs[j]?=some (some b)))
section
variable {A:Ann} {te0:TE} {w0:World} {M:MS} {c1 c2:Cx} {S':Nat->Prop} {args:List AV} {bs:List (Option Nat)} {ds cos':List CoD}
theorem Behind.nod' (h:Behind A c1 c2 S' args bs ds cos'):(cos'.map (·.cid)).Nodup:=by rw [coSame_cids h.out.same];exact h.nod
theorem Behind.cc (h:Behind A c1 c2 S' args bs ds cos') {cid t off:Nat} {m:Mode} {k:K} {xs:List k.T} {g:Nat} {p:Option Nat} (hc:c2.hp cid=some (.col t off m k xs g p))(hp:∃ d ∈ ds,d.cid=cid) :
  (coC c2.te c2.w S' cos').hp cid=some (.col t off m k xs 0 none)/\p=none:=by
 obtain ⟨d,hd,rfl⟩:=hp
 obtain ⟨d',hd',e1,_⟩:=coSame_mem h.out.same d hd
 obtain ⟨g',q⟩:=h.hp1 d' hd'
 rw [e1,hc] at q
 cases q
 refine ⟨?_,rfl⟩
 rw [<- e1]
 exact coHp_get h.nod' hd'
theorem Behind.cc0 (h:Behind A c1 c2 S' args bs ds cos') {l:Lab} {b:Nat} (hx:OwnX (coC c1.te c1.w c1.S ds) l b):OwnX c1 l b:=by
 cases l with
 | man t i =>
  obtain ⟨⟨cid,off,m,k,xs,g,p,hc⟩,hi⟩:=hx
  obtain ⟨d,hd,rfl,e⟩:=coHp_mem hc
  obtain ⟨g',q⟩:=h.hds d hd
  cases e
  exact ⟨⟨_,_,_,_,_,_,_,q⟩,hi⟩
 | own cid i =>
  obtain ⟨⟨t,off,m,k,xs,g,p,hc,hm,hl⟩,hi⟩:=hx
  obtain ⟨d,hd,rfl,e⟩:=coHp_mem hc
  obtain ⟨g',q⟩:=h.hds d hd
  cases e
  exact ⟨⟨_,_,_,_,_,_,_,q,hm,hl⟩,hi⟩
def Lent (ds:List CoD):Lab->Prop
 | .man t _=>∃ d ∈ ds,d.t=t
 | .own cid _=>∃ d ∈ ds,d.cid=cid
theorem Behind.lent0 {te:TE} {w:World} {Sb:Nat->Prop} {l:Lab} {b:Nat} (hx:OwnX (coC te w Sb ds) l b):Lent ds l:=by
 cases l with
 | man t i =>
  obtain ⟨⟨cid,off,m,k,xs,g,p,hc⟩,hi⟩:=hx
  obtain ⟨d,hd,rfl,e⟩:=coHp_mem hc
  cases e
  exact ⟨d,hd,rfl⟩
 | own cid i =>
  obtain ⟨⟨t,off,m,k,xs,g,p,hc,hm,hl⟩,hi⟩:=hx
  obtain ⟨d,hd,rfl,e⟩:=coHp_mem hc
  exact ⟨d,hd,rfl⟩
theorem Behind.lent' (h:Behind A c1 c2 S' args bs ds cos') {l:Lab}:Lent cos' l ↔ Lent ds l:=by
 cases l with
 | man t i =>
  constructor
  ·rintro ⟨d',hd',rfl⟩
   obtain ⟨d,hd,e⟩:=coSame_mem' h.out.same d' hd'
   exact ⟨d,hd,e.2.1.symm⟩
  ·rintro ⟨d,hd,rfl⟩
   obtain ⟨d',hd',e⟩:=coSame_mem h.out.same d hd
   exact ⟨d',hd',e.2.1⟩
 | own cid i =>
  constructor
  ·rintro ⟨d',hd',rfl⟩
   obtain ⟨d,hd,e⟩:=coSame_mem' h.out.same d' hd'
   exact ⟨d,hd,e.1.symm⟩
  ·rintro ⟨d,hd,rfl⟩
   obtain ⟨d',hd',e⟩:=coSame_mem h.out.same d hd
   exact ⟨d',hd',e.1⟩
theorem Behind.notFull (h:Behind A c1 c2 S' args bs ds cos')(hM1:ManR A c1) {cid t off:Nat} {m:Mode} {k:K} {xs:List k.T} {g:Nat} {p:Option Nat} (hc:c1.hp cid=some (.col t off m k xs g p))(hn:∀ d ∈ ds,d.cid ≠ cid) :
  c2.te.ι t=c1.te.ι t:=by
 refine h.out.man.f.same t fun hf=>?_
 obtain ⟨h1,h2⟩:=hM1.ci _ _ _ _ _ _ _ _ hc
 obtain ⟨off',m',k',xs',g',p',q⟩:=hf.2 _ h2
 obtain ⟨d',hd',e,_⟩:=coHp_mem q
 obtain ⟨d,hd,e'⟩:=coSame_mem' h.out.same d' hd'
 exact hn d hd (by rw [<- e'.1,e,h1])
theorem Behind.own2 (h:Behind A c1 c2 S' args bs ds cos')(hM1:ManR A c1) {l:Lab} {b:Nat} (hx:OwnX c2 l b):(Lent ds l/\OwnX (coC c2.te c2.w S' cos') l b)\/(¬ Lent ds l/\OwnX c1 l b):=by
 by_cases hl:Lent ds l
 ·refine .inl ⟨hl,?_⟩
  cases l with
  | man t i =>
   obtain ⟨d',hd',e⟩:=h.lent'.2 hl
   subst e
   exact ⟨⟨d'.cid,_,_,_,_,_,_,coHp_get h.nod' hd'⟩,hx.2⟩
  | own cid i =>
   obtain ⟨⟨t,off,m,k,xs,g,p,hc,hm,hlt⟩,hi⟩:=hx
   exact ⟨⟨t,off,m,k,xs,_,_,(h.cc hc hl).1,hm,hlt⟩,hi⟩
 ·refine .inr ⟨hl,?_⟩
  cases l with
  | man t i =>
   obtain ⟨⟨cid,off,m,k,xs,g,p,hc⟩,hi⟩:=hx
   have hn:∀ d ∈ ds,d.cid ≠ cid:=by
    rintro d hd rfl
    have q:=h.cc hc ⟨d,hd,rfl⟩
    obtain ⟨d',hd',e,e2⟩:=coHp_mem q.1
    cases e2
    exact hl (h.lent'.1 ⟨d',hd',rfl⟩)
   have hc1:=(h.hp2 cid hn _ _ _ _ _ _ _).1 hc
   exact ⟨⟨cid,off,m,k,xs,g,p,hc1⟩,by rw [<- h.notFull hM1 hc1 hn];exact hi⟩
  | own cid i =>
   obtain ⟨⟨t,off,m,k,xs,g,p,hc,hm,hlt⟩,hi⟩:=hx
   have hn:∀ d ∈ ds,d.cid ≠ cid:=fun d hd e=>hl ⟨d,hd,e⟩
   refine ⟨⟨t,off,m,k,xs,g,p,(h.hp2 cid hn _ _ _ _ _ _ _).1 hc,hm,hlt⟩,?_⟩
   have:=(h.out.man.f.samo cid fun t off m k xs g p hq=>by
    obtain ⟨d',hd',e,_⟩:=coHp_mem hq
    obtain ⟨d,hd,e'⟩:=coSame_mem' h.out.same d' hd'
    exact hn d hd (by rw [<- e'.1,e])).1
   rw [<- this];exact hi
theorem Behind.still (h:Behind A c1 c2 S' args bs ds cos')(hM1:ManR A c1) {l:Lab} {b:Nat} (hl:¬ Lent ds l)(hx:OwnX c1 l b):c2.w.heap[b]?=c1.w.heap[b]?:=by
 obtain ⟨q1,q2,q3⟩:=hM1.sep l b hx
 refine h.fr.block b q1 ?_
 rintro (hb | ⟨l',hb⟩)
 ·obtain ⟨id,hid⟩:=h.hbs b hb;exact q3 id hid
 ·have:=hM1.one l l' b hx (h.cc0 hb)
  subst this
  exact hl (Behind.lent0 hb)
theorem Behind.stab (h:Behind A c1 c2 S' args bs ds cos')(hM1:ManR A c1)(hm1:Mem w0 M c1)(b:Nat)(hb:c1.S b):c2.w.heap[b]?=c1.w.heap[b]?:=by
 refine h.fr.block b (hm1.below b hb) ?_
 rintro (hq | ⟨l',hq⟩)
 ·obtain ⟨id,hid⟩:=h.hbs b hq;exact (hm1.live id b hid).2.1 hb
 ·exact (hM1.sep l' b (h.cc0 hq)).2.1 hb
theorem Behind.cells (h:Behind A c1 c2 S' args bs ds cos')(hM1:ManR A c1) {cid t off:Nat} {m:Mode} {k:K} {xs:List k.T} {g:Nat} {p:Option Nat} (hc:c1.hp cid=some (.col t off m k xs g p))(hn:∀ d ∈ ds,d.cid ≠ cid)
  {i b:Nat} {arr:Array Value} (hi:c1.te.ι t i=some b) (hb:Blk c2.w b arr):∃ arr0,Blk c1.w b arr0/\∀ o,off<=o->o < off+csz m k->arr[o]?=arr0[o]?:=by
 have hh:HeldC c1 t:=⟨cid,off,m,k,xs,g,p,hc⟩
 by_cases hl:Lent ds (.man t i)
 ·have hl':=h.lent'.2 hl
  obtain ⟨d',hd',e⟩:=hl'
  subst e
  have hlt:=(hM1.sep (.man d'.t i) b ⟨hh,hi⟩).1
  obtain ⟨arr0,q1,q2,q3⟩:=h.out.man.f.frc d'.t i b arr ⟨d'.cid,_,_,_,_,_,_,coHp_get h.nod' hd'⟩ (h.out.man.f.tle.2 _ _ _ hi) hlt hb
  refine ⟨arr0,q1,fun o ho1 ho2=>q3 o fun cid2 off2 m2 k2 xs2 g2 p2 hq=>?_⟩
  rintro ⟨z1,z2⟩
  obtain ⟨r1,r2⟩:=h.out.man.r.ci _ _ _ _ _ _ _ _ hq
  obtain ⟨r3,r4⟩:=hM1.ci _ _ _ _ _ _ _ _ hc
  obtain ⟨d2,hd2,e2,_⟩:=coHp_mem hq
  obtain ⟨d3,hd3,e3⟩:=coSame_mem' h.out.same d2 hd2
  rcases (hM1.lay _).2 _ r4 _ r2 with e | e | e
  ·cases e
   exact hn d3 hd3 (by rw [<- e3.1,e2,r1,r3])
  ·simp at e;omega
  ·simp at e;omega
 ·exact ⟨arr,hb.of (h.still hM1 hl ⟨hh,hi⟩).symm,fun _ _ _=>rfl⟩
theorem Behind.full (h:Behind A c1 c2 S' args bs ds cos')(hM1:ManR A c1)(hM2:∀ cid t off m k (xs:List k.T) g p,c2.hp cid=some (.col t off m k xs g p)->cid=cidOf t off/\(off,m,k) ∈ A.man t)(t:Nat):Full A c2 t ↔ Full A c1 t:=by
 have lay:=hM1.lay t
 constructor
 ·rintro ⟨h1,h2⟩
  refine ⟨h1,fun d hd=>?_⟩
  obtain ⟨off,m,k,xs,g,p,q⟩:=h2 d hd
  by_cases hp:∃ e ∈ ds,e.cid=cidOf t d.1
  ·obtain ⟨e,he,hee⟩:=hp
   obtain ⟨g',q'⟩:=h.hds e he
   rw [hee] at q'
   obtain ⟨e',he',es⟩:=coSame_mem h.out.same e he
   obtain ⟨g2,q2⟩:=h.hp1 e' he'
   rw [es.1,hee,q] at q2
   have:t=e'.t:=by cases q2;rfl
   rw [es.2.1] at this
   subst this
   exact ⟨_,_,_,_,_,_,q'⟩
  ·exact ⟨off,m,k,xs,g,p,(h.hp2 _ (fun e he hee=>hp ⟨e,he,hee⟩) _ _ _ _ _ _ _).1 q⟩
 ·rintro ⟨h1,h2⟩
  refine ⟨h1,fun d hd=>?_⟩
  obtain ⟨off,m,k,xs,g,p,q⟩:=h2 d hd
  by_cases hp:∃ e ∈ ds,e.cid=cidOf t d.1
  ·obtain ⟨e,he,hee⟩:=hp
   obtain ⟨g',q'⟩:=h.hds e he
   rw [hee,q] at q'
   have:t=e.t:=by cases q';rfl
   subst this
   obtain ⟨e',he',es⟩:=coSame_mem h.out.same e he
   obtain ⟨g2,q2⟩:=h.hp1 e' he'
   rw [es.1,hee,es.2.1] at q2
   exact ⟨_,_,_,_,_,_,q2⟩
  ·exact ⟨off,m,k,xs,g,p,(h.hp2 _ (fun e he hee=>hp ⟨e,he,hee⟩) _ _ _ _ _ _ _).2 q⟩
theorem Behind.r (h:Behind A c1 c2 S' args bs ds cos')(hM1:ManR A c1)(hm1:Mem w0 M c1):ManR A c2:=by
 have hO:=h.out.man
 have pas:∀ {cid t off:Nat} {m:Mode} {k:K} {xs:List k.T} {g:Nat} {p:Option Nat},c2.hp cid=some (.col t off m k xs g p) ->
   ((coC c2.te c2.w S' cos').hp cid=some (.col t off m k xs 0 none)/\p=none/\c2.S=S')\/(c1.hp cid=some (.col t off m k xs g p)/\∀ d ∈ ds,d.cid ≠ cid):=by
  intro cid t off m k xs g p hc
  by_cases hp:∃ d ∈ ds,d.cid=cid
  ·refine .inl ⟨(h.cc hc hp).1,(h.cc hc hp).2,h.s2 ?_⟩
   obtain ⟨d,hd,_⟩:=hp
   intro e;rw [e] at hd;cases hd
  ·have hn:∀ d ∈ ds,d.cid ≠ cid:=fun d hd e=>hp ⟨d,hd,e⟩
   exact .inr ⟨(h.hp2 cid hn _ _ _ _ _ _ _).1 hc,hn⟩
 have hci:∀ cid t off m k (xs:List k.T) g p,c2.hp cid=some (.col t off m k xs g p)->cid=cidOf t off/\(off,m,k) ∈ A.man t:=by
  intro cid t off m k xs g p hc
  rcases pas hc with ⟨q,_⟩ | ⟨q,_⟩
  ·exact hO.r.ci _ _ _ _ _ _ _ _ q
  ·exact hM1.ci _ _ _ _ _ _ _ _ q
 have hmove:∀ {k:K} {x:k.T} {cs:List Value},RepT c1.te c1.w c1.S k x cs->RepT c2.te c2.w c2.S k x cs:=fun hq=>RepT.move hO.f.tle (h.stab hM1 hm1) h.sub hq
 have samo:∀ cid,(∀ d ∈ ds,d.cid ≠ cid)->c2.te.ow cid=c1.te.ow cid/\c2.te.cur cid=c1.te.cur cid:=fun cid hn=>hO.f.samo cid fun t off m k xs g p hq=>by
  obtain ⟨d',hd',e,_⟩:=coHp_mem hq
  obtain ⟨d,hd,e'⟩:=coSame_mem' h.out.same d' hd'
  exact hn d hd (by rw [<- e'.1,e])
 refine ⟨hM1.lay,hci,fun cid t off m k xs g p hc i=>?_,fun t i b hh hi=>?_,fun cid t off k xs g p hc i x b arr hx hi hb=>?_,fun cid t off e xs g p hc i x hx=>?_,fun cid t off e xs g p hc i es hx=>?_,fun l b hx=>?_,fun l l' b hx hx'=>?_⟩
 ·rcases pas hc with ⟨q,_⟩ | ⟨q,hn⟩
  ·exact hO.r.dom _ _ _ _ _ _ _ _ q i
  ·rw [h.notFull hM1 q hn];exact hM1.dom _ _ _ _ _ _ _ _ q i
 ·rcases h.own2 hM1 (l:=.man t i) ⟨hh,hi⟩ with ⟨hl,q⟩ | ⟨hl,q⟩
  ·exact hO.r.box t i b q.1 q.2
  ·obtain ⟨arr,q1,q2⟩:=hM1.box t i b q.1 q.2
   exact ⟨arr,q1.of (h.still hM1 hl q),q2⟩
 ·rcases pas hc with ⟨q,_,hS⟩ | ⟨q,hn⟩
  ·have:=hO.r.dat _ _ _ k xs _ _ q i x b arr hx hi hb
   rw [hS];exact this
  ·rw [h.notFull hM1 q hn] at hi
   obtain ⟨arr0,z1,z2⟩:=h.cells hM1 q hn hi hb
   obtain ⟨vs,r1,r2⟩:=hM1.dat _ _ _ k xs _ _ q i x b arr0 hx hi z1
   refine ⟨vs,hmove r1,fun j v hv=>?_⟩
   have hj:j < k.size:=by rw [<- RepT.len r1];exact (List.getElem?_eq_some_iff.1 hv).1
   rw [z2 (off+j) (by omega) (by simp only [csz];omega)]
   exact r2 j v hv
 ·rcases pas hc with ⟨q,hp,hS⟩ | ⟨q,hn⟩
  ·subst hp
   have:=hO.r.own _ _ _ e xs _ _ q i x hx
   rw [hS];exact this
  ·obtain ⟨r1,r2⟩:=hM1.own _ _ _ e xs _ _ q i x hx
   rw [(samo cid hn).1,(samo cid hn).2]
   refine ⟨r1.move hO.f.tle (h.stab hM1 hm1) h.sub (fun b hb=>h.still hM1 (l:=.own cid i) (fun ⟨d,hd,e⟩=>hn d hd e) (hM1.ownB q (by simp) hx hb)),fun hpi b arr hi hb=>?_⟩
   rw [h.notFull hM1 q hn] at hi
   obtain ⟨arr0,z1,z2⟩:=h.cells hM1 q hn hi hb
   rw [z2 off (Nat.le_refl _) (by simp [csz])]
   exact r2 hpi b arr0 hi z1
 ·rcases pas hc with ⟨q,hp,hS⟩ | ⟨q,hn⟩
  ·exact hO.r.mpp _ _ _ e xs _ _ q i es hx
  ·obtain ⟨b',ents,clock,r1,r2,r3,r4,r5⟩:=hM1.mpp _ _ _ e xs _ _ q i es hx
   rw [(samo cid hn).1,(samo cid hn).2]
   refine ⟨b',ents,clock,r1,r2,by rw [h.still hM1 (l:=.own cid i) (fun ⟨d,hd,e⟩=>hn d hd e) (hM1.ownB q (by simp) hx r1)];exact r3,⟨r4.1.mono fun _ _ _ z=>⟨z.1,RepE.le hO.f.tle z.2⟩,r4.2⟩,fun b arr hi hb=>?_⟩
   rw [h.notFull hM1 q hn] at hi
   obtain ⟨arr0,z1,z2⟩:=h.cells hM1 q hn hi hb
   rw [z2 off (Nat.le_refl _) (by simp [csz])]
   exact r5 b arr0 hi z1
 ·rcases h.own2 hM1 hx with ⟨hl,q⟩ | ⟨hl,q⟩
  ·obtain ⟨r1,r2,_⟩:=hO.r.sep l b q
   have hne:ds ≠ []:=by
    cases l with
    | man t i=>obtain ⟨d,hd,_⟩:=hl;intro e;rw [e] at hd;cases hd
    | own cid i=>obtain ⟨d,hd,_⟩:=hl;intro e;rw [e] at hd;cases hd
   refine ⟨r1,by rw [h.s2 hne];exact r2,fun id hlv=>?_⟩
   obtain ⟨z1,z2⟩:=h.lv id b hlv
   rcases hO.f.wr l b q with y | y | ⟨l',y⟩
   ·have:=(hm1.live id b z1).1;omega
   ·obtain ⟨j,k,x,y1,y2⟩:=z2 y
    exact h.out.io l b q j k x y1 y2
   ·exact (hM1.sep l' b (h.cc0 y)).2.2 id z1
  ·obtain ⟨r1,r2,r3⟩:=hM1.sep l b q
   refine ⟨Nat.lt_of_lt_of_le r1 h.fr.size,fun hs=>?_,fun id hlv=>r3 id (h.lv id b hlv).1⟩
   rcases h.sup b hs with y | y | y
   ·exact r2 y
   ·omega
   ·obtain ⟨id,hid⟩:=h.hbs b y;exact r3 id hid
 ·have mix:∀ l l' b,Lent ds l->OwnX (coC c2.te c2.w S' cos') l b->¬ Lent ds l'->OwnX c1 l' b->False:=by
   intro l l' b hl q hl' q'
   obtain ⟨r1,r2,r3⟩:=hM1.sep l' b q'
   rcases hO.f.wr l b q with y | y | ⟨l2,y⟩
   ·have y:c1.w.heap.size<=b:=y;omega
   ·obtain ⟨id,hid⟩:=h.hbs b y;exact r3 id hid
   ·have:=hM1.one l' l2 b q' (h.cc0 y)
    subst this
    exact hl' (Behind.lent0 y)
  rcases h.own2 hM1 hx with ⟨hl,q⟩ | ⟨hl,q⟩<;>rcases h.own2 hM1 hx' with ⟨hl',q'⟩ | ⟨hl',q'⟩
  ·exact hO.r.one l l' b q q'
  ·exact (mix l l' b hl q hl' q').elim
  ·exact (mix l' l b hl' q' hl q).elim
  ·exact hM1.one l l' b q q'
theorem Behind.man (h:Behind A c1 c2 S' args bs ds cos')(hM1:Man A te0 w0 M c1)(hm1:Mem w0 M c1):Man A te0 w0 M c2:=by
 have hR:=h.r hM1.r hm1
 have hO:=h.out.man
 refine ⟨hR,fun l b hx=>?_,fun t i b arr hh hi hlt hb=>?_,hM1.f.tle.trans hO.f.tle,fun t hf=>?_,fun cid hn=>?_,fun t i b hi=>?_⟩
 ·rcases h.own2 hM1.r hx with ⟨hl,q⟩ | ⟨hl,q⟩
  ·rcases hO.f.wr l b q with y | y | ⟨l',y⟩
   ·exact .inl (Nat.le_trans hm1.fr.size y)
   ·obtain ⟨id,hid⟩:=h.hbs b y;exact (hm1.live id b hid).2.2.imp (fun q=>q) .inl
   ·exact hM1.f.wr l' b (h.cc0 y)
  ·exact hM1.f.wr l b q
 ·have hcol:∀ {cid t off:Nat} {m:Mode} {k:K} {xs:List k.T} {g:Nat} {p:Option Nat},c1.hp cid=some (.col t off m k xs g p)->∃ (xs':List k.T) (g':Nat) (p':Option Nat),c2.hp cid=some (.col t off m k xs' g' p'):=by
   intro cid t off m k xs g p hc
   by_cases hp:∃ d ∈ ds,d.cid=cid
   ·obtain ⟨d,hd,rfl⟩:=hp
    obtain ⟨d',hd',e⟩:=coSame_mem h.out.same d hd
    obtain ⟨g',q⟩:=h.hp1 d' hd'
    rw [e.1] at q
    obtain ⟨rfl,rfl,rfl,rfl⟩:=hM1.r.two hR hc q
    exact ⟨_,_,_,q⟩
   ·exact ⟨xs,g,p,(h.hp2 cid (fun d hd e=>hp ⟨d,hd,e⟩) _ _ _ _ _ _ _).2 hc⟩
  have hlt1:b < c1.w.heap.size:=Nat.lt_of_lt_of_le hlt hm1.fr.size
  rcases h.own2 hM1.r (l:=.man t i) ⟨hh,hi⟩ with ⟨hl,q⟩ | ⟨hl,q⟩
  ·obtain ⟨arr1,q1,q2,q3⟩:=hO.f.frc t i b arr q.1 q.2 hlt1 hb
   have hi1:c1.te.ι t i=some b:=by
    rcases hO.f.newb t i b q.2 with y | y
    ·exact y
    ·have y:c1.w.heap.size<=b:=y;omega
   have hh1:HeldC c1 t:=by
    obtain ⟨d,hd,e⟩:=hl
    obtain ⟨g,z⟩:=h.hds d hd
    subst e
    exact ⟨_,_,_,_,_,_,_,z⟩
   obtain ⟨arr0,p1,p2,p3⟩:=hM1.f.frc t i b arr1 hh1 hi1 hlt q1
   refine ⟨arr0,p1,p2.trans q2,fun o ho=>?_⟩
   rw [q3 o fun cid off m k xs g p hc=>?_,p3 o fun cid off m k xs g p hc=>?_]
   ·obtain ⟨xs',g',p',z⟩:=hcol hc
    exact ho cid off m k xs' g' p' z
   ·obtain ⟨d',hd',e,e2⟩:=coHp_mem hc
    obtain ⟨g',z⟩:=h.hp1 d' hd'
    cases e2
    exact ho _ _ _ _ _ _ _ z
  ·obtain ⟨arr0,p1,p2,p3⟩:=hM1.f.frc t i b arr q.1 q.2 hlt (hb.of (h.still hM1.r hl q).symm)
   refine ⟨arr0,p1,p2,fun o ho=>p3 o fun cid off m k xs g p hc=>?_⟩
   obtain ⟨xs',g',p',z⟩:=hcol hc
   exact ho cid off m k xs' g' p' z
 ·have hf1:¬ Full A c1 t:=fun q=>hf ((h.full hM1.r hR.ci t).2 q)
  rw [<- hM1.f.same t hf1]
  refine hO.f.same t fun q=>hf1 ⟨q.1,fun d hd=>?_⟩
  obtain ⟨off,m,k,xs,g,p,z⟩:=q.2 d hd
  obtain ⟨d',hd',e,e2⟩:=coHp_mem z
  obtain ⟨d0,hd0,es⟩:=coSame_mem' h.out.same d' hd'
  obtain ⟨g',y⟩:=h.hds d0 hd0
  cases e2
  rw [<- es.1,e,<- es.2.1] at y
  exact ⟨_,_,_,_,_,_,y⟩
 ·have hn1:∀ d ∈ ds,d.cid ≠ cid:=by
   rintro d hd rfl
   obtain ⟨d',hd',e⟩:=coSame_mem h.out.same d hd
   obtain ⟨g',q⟩:=h.hp1 d' hd'
   rw [e.1] at q
   exact hn _ _ _ _ _ _ _ q
  have s1:=hO.f.samo cid fun t off m k xs g p hq=>by
   obtain ⟨d',hd',e,_⟩:=coHp_mem hq
   obtain ⟨d,hd,e'⟩:=coSame_mem' h.out.same d' hd'
   exact hn1 d hd (by rw [<- e'.1,e])
  have s2:=hM1.f.samo cid fun t off m k xs g p hq=>hn _ _ _ _ _ _ _ ((h.hp2 cid hn1 _ _ _ _ _ _ _).2 hq)
  exact ⟨s1.1.trans s2.1,s1.2.trans s2.2⟩
 ·rcases hO.f.newb t i b hi with y | y
  ·exact hM1.f.newb t i b y
  ·exact .inr (Nat.le_trans hm1.fr.size y)
end
end Go.Eng
namespace Go.Eng
open Go.RowKit
theorem handV_io {P:Program} {hp:Nat->Option Obj} {t:TypeId} {g:Bool} {cs:List S} {h:Hand} (hd:handV P hp t g cs=some h):h.io=[]/\(∀ k x,h.arg ≠ .val false [.io k x])/\(h.mv ≠ []->∃ k xs,h.arg=.val false [.mv k xs]):=by
 obtain ⟨k,x,_,hx,rfl⟩:=handV_some hd
 exact ⟨rfl,fun k' y e=>(plain_inj k x).2 k' y e,fun h=>(h rfl).elim⟩
theorem handArg_io {P:Program} {hp:Nat->Option Obj} {mv:Bool} {t:TypeId} {a:AV} {h:Hand} (hd:handArg P hp mv t a=some h) :
  (∃ id k x,h.io=[(id,k)]/\h.mv=[]/\h.arg=.val false [.io k x])\/(h.io=[]/\(∀ k x,h.arg ≠ .val false [.io k x])/\(h.mv ≠ []->∃ k xs,h.arg=.val false [.mv k xs])):=by
 unfold handArg at hd
 split at hd
 ·cases mv with
  | true =>
   simp only [cond_true] at hd
   split at hd
   ·split at hd
    ·simp only [Option.some.injEq] at hd;subst hd;exact .inr ⟨rfl,fun _ _=>by simp,fun h=>(h rfl).elim⟩
    ·cases hd
   ·cases hd
  | false=>simp only [cond_false] at hd;exact .inr (handV_io hd)
 ·rename_i id g
  cases mv with
  | true =>
   simp only [cond_true] at hd
   split at hd
   ·rename_i k xs gen hist ho
    cases hg:Nat.beq g gen with
    | false=>rw [hg] at hd;cases hd
    | true=>rw [hg] at hd;simp only [cond_true,Option.some.injEq] at hd;subst hd;exact .inr ⟨rfl,fun _ _=>by simp,fun _=>⟨k,xs,rfl⟩⟩
   ·cases hd
  | false=>simp only [cond_false] at hd;exact .inr (handV_io hd)
 ·rename_i id g i p
  cases hp0:p.isEmpty with
  | false=>rw [hp0] at hd;cases hd
  | true =>
   rw [hp0] at hd
   simp only [cond_true] at hd
   split at hd
   ·rename_i cs e ho hu
    cases hne:(!cs.isEmpty && Nat.beq g 0 && Nat.beq i 0) with
    | false=>rw [hne] at hd;cases hd
    | true =>
     rw [hne] at hd
     simp only [cond_true] at hd
     split at hd
     ·split at hd
      ·rename_i k _ x _
       simp only [Option.some.injEq] at hd;subst hd;exact .inl ⟨id,_,_,rfl,rfl,rfl⟩
      ·cases hd
     ·cases hd
   ·cases hd
 ·simp only [Option.some.injEq] at hd;subst hd
  exact .inr ⟨rfl,fun k x e=>(by cases e),fun e=>(e rfl).elim⟩
 ·exact .inr (handV_io hd)
 ·cases hd
theorem LR3.of_get {α β γ:Type} {R:α->β->γ->Prop}:∀ {l:List α} {m:List β} {n:List γ},l.length=m.length->l.length=n.length->(∀ (i:Nat) a b c,l[i]?=some a->m[i]?=some b->n[i]?=some c->R a b c)->LR3 R l m n
 | [],[],[],_,_,_=>trivial
 | a::r,b::s,c::t,h1,h2,h=>⟨h 0 a b c rfl rfl rfl,LR3.of_get (by simpa using h1) (by simpa using h2) fun i x y z hx hy hz=>h (i+1) x y z (by simpa using hx) (by simpa using hy) (by simpa using hz)⟩
 | [],_::_,_,h1,_,_=>by simp at h1
 | _::_,[],_,h1,_,_=>by simp at h1
 | [],[],_::_,_,h2,_=>by simp at h2
 | _::_,_::_,[],_,h2,_=>by simp at h2
theorem resIo_cons {te : TE} {w' : World} {S' : Nat → Prop} {a : AV} {r : List AV} {ob : Option Nat} {bs : List (Option Nat)} {l : List (Bool × List S)} (ha : ∀ k x, a ≠ .val false [.io k x]) (h : ResIo te w' S' (a :: r) (ob :: bs) l) : ResIo te w' S' r bs l := by
  unfold ResIo at h
  split at h
  all_goals first
  | (simp_all; done)
  | (rename_i h1 h2 h3 h4; trace_state; simp_all; done)
theorem resIo_get {te : TE} {w' : World} {S' : Nat → Prop} {β : Nat → Option Nat} : ∀ (hs : List Hand) (l : List (Bool × List S)),
    (∀ h ∈ hs, (∃ id k x, h.io = [(id, k)] ∧ h.mv = [] ∧ h.arg = .val false [.io k x]) ∨ (h.io = [] ∧ (∀ k x, h.arg ≠ .val false [.io k x]) ∧ (h.mv ≠ [] → ∃ k xs, h.arg = .val false [.mv k xs]))) →
    ResIo te w' S' (hs.map Hand.arg) (hs.map (Hand.blk β)) l →
    ∀ id, (∃ cs b k, (id, k) ∈ hs.flatMap Hand.io ∧ hget (ioUpd (hs.flatMap Hand.io) l) id = some (.box cs) ∧ β id = some b ∧ BoxArg te w' S' b cs ∧ ¬ S' b ∧ cs.length = k.size) ∨ ((∀ k, (id, k) ∉ hs.flatMap Hand.io) ∧ hget (ioUpd (hs.flatMap Hand.io) l) id = none)
  | [], l, _, _, id => by
    right
    refine ⟨by simp, ?_⟩
    simp [ioUpd, hget]
  | h :: hs, l, hio, hr, id => by
    rcases hio h (by simp) with ⟨j, k, x, e1, e2, e3⟩ | ⟨e1, e2, _⟩
    · simp only [List.map_cons, e3] at hr
      match l, hr with
      | p :: l, hr =>
        simp only [ResIo] at hr
        obtain ⟨⟨b, hb, h1, h2, h3⟩, hr⟩ := hr
        have hbl : h.blk β = β j := by simp [Hand.blk, e1, e2]
        rw [hbl] at hb
        have e : (h :: hs).flatMap Hand.io = (j, k) :: hs.flatMap Hand.io := by simp [e1]
        rw [e]
        simp only [ioUpd, hget]
        by_cases hj : j = id
        · subst hj
          left
          exact ⟨p.2, b, k, by simp, by simp, hb, h1, h2, h3⟩
        · have hbq : Nat.beq j id = false := by
            cases hq : Nat.beq j id with
            | true => exact (hj (Nat.eq_of_beq_eq_true hq)).elim
            | false => rfl
          rw [hbq]
          rcases resIo_get hs l (fun h hh => hio h (by simp [hh])) hr id with ⟨cs, b', k', q1, q2⟩ | ⟨q1, q2⟩
          · exact .inl ⟨cs, b', k', by simp [q1], by simpa using q2⟩
          · right
            refine ⟨fun k' hk' => ?_, by simpa using q2⟩
            rcases List.mem_cons.1 hk' with hk' | hk'
            · simp at hk'; exact hj hk'.1.symm
            · exact q1 k' hk'
      | [], hr => simp [ResIo] at hr
    · have e : (h :: hs).flatMap Hand.io = hs.flatMap Hand.io := by simp [e1]
      rw [e]
      have hr' : ResIo te w' S' (hs.map Hand.arg) (hs.map (Hand.blk β)) l := by
        simp only [List.map_cons] at hr
        exact resIo_cons e2 hr
      exact resIo_get hs l (fun h hh => hio h (by simp [hh])) hr' id
theorem hget_deads:∀ (l:List Nat)(id:Nat),hget (deads l) id=if id ∈ l then some (.box []) else none
 | [],id=>by simp [deads,hget]
 | a::r,id=>by
  have ih:=hget_deads r id
  unfold deads at ih ⊢
  simp only [List.map_cons,hget]
  by_cases h:a=id
  ·subst h;simp
  ·have hb:Nat.beq a id=false:=by
    cases hq:Nat.beq a id with
    | true=>exact (h (Nat.eq_of_beq_eq_true hq)).elim
    | false=>rfl
   rw [hb]
   simp only [cond_false,List.mem_cons,Ne.symm h,false_or]
   exact ih
theorem tupA_one {arr:Array Value} {x:Value} (h:arr.toList=[x]):tupA arr=x:=by
 have:arr=#[x]:=by apply Array.ext';simpa using h
 subst this;rfl
theorem tupA_many {arr:Array Value} (h:arr.toList.length ≠ 1):tupA arr=.tuple arr:=by
 unfold tupA
 rw [dif_neg (by simpa using h)]
theorem resV_len {te:TE} {w':World} {S' okb:Nat->Prop}:∀ (res:List (Bool × K))(l:List (Bool × List S))(vals:List Value),ResV te w' S' okb res l vals->vals.length=res.length
 | [],l,vals,h=>by cases l<;>cases vals<;>simp [ResV] at h ⊢
 | (o,k)::r,[],vals,h=>by cases o<;>cases vals<;>simp [ResV] at h
 | (o,k)::r,p::l,[],h=>by
  exfalso
  unfold ResV at h
  split at h<;>simp_all
 | (o,k)::r,p::l,v::vs,h=>by
  have:ResV te w' S' okb r l vs:=by
   unfold ResV at h
   split at h<;>simp_all
  simp [resV_len r l vs this]
theorem postOf_some {tup:Bool} {d:Option Nat} {own:List Bool} {n:Nat} {io:List (Nat × K)} {vs l:List (Bool × List S)} {u:Upd} (h:ownRes d own (vs.take n)=some (l,u)):postOf tup d own n io vs=((bif tup then .tup l else oneV l),u++ioUpd io (vs.drop n)):=by
 unfold postOf;rw [h]
theorem postOf_none {tup:Bool} {d:Option Nat} {own:List Bool} {n:Nat} {io:List (Nat × K)} {vs:List (Bool × List S)} (h:ownRes d own (vs.take n)=none):postOf tup d own n io vs=(.undef,ioUpd io (vs.drop n)):=by
 unfold postOf;rw [h]
theorem cst_self {k:K} (xs:List k.T):cst k k xs=some xs:=by unfold cst;rw [dif_pos rfl]
theorem coArgs_some {hp:Nat->Option Obj}:∀ {cids:List Nat} {l:List (AV × K)},coArgs hp cids=some l->∃ ds:List CoD,l=ds.map (fun d=>(coAV d,K.slice d.k))/\LR (fun (cid:Nat)(d:CoD)=>d.cid=cid/\∃ g,hp cid=some (.col d.t d.off d.m d.k d.xs g none)) cids ds
 | [],l,h=>by simp [coArgs] at h;subst h;exact ⟨[],rfl,trivial⟩
 | cid::r,l,h=>by
  simp only [coArgs] at h
  split at h
  ·rename_i a l' h1 h2
   simp only [Option.some.injEq] at h;subst h
   obtain ⟨ds,rfl,hl⟩:=coArgs_some h2
   unfold coArg at h1
   split at h1
   ·rename_i t off m k xs g hq
    simp only [Option.some.injEq] at h1;subst h1
    exact ⟨⟨cid,t,off,m,k,xs⟩::ds,rfl,⟨rfl,g,hq⟩,hl⟩
   ·cases h1
  ·cases h
theorem lr_cids {hp:Nat->Option Obj}:∀ {cids:List Nat} {ds:List CoD},LR (fun (cid:Nat)(d:CoD)=>d.cid=cid/\∃ g,hp cid=some (.col d.t d.off d.m d.k d.xs g none)) cids ds->ds.map (·.cid)=cids
 | [],[],_=>rfl
 | a::r,b::s,h=>by simp only [List.map_cons];rw [h.1.1,lr_cids h.2]
 | [],_::_,h=>h.elim
 | _::_,[],h=>h.elim
theorem dupF_nodup:∀ {l:List Nat},dupF l=true->l.Nodup
 | [],_=>List.nodup_nil
 | a::r,h=>by
  simp only [dupF,Bool.and_eq_true,Bool.not_eq_true'] at h
  refine List.nodup_cons.2 ⟨fun hm=>?_,dupF_nodup h.2⟩
  rw [List.contains_iff_mem.2 hm] at h;cases h.1
theorem coUpd_get {hp:Nat->Option Obj}:∀ {cids:List Nat} {ds cos':List CoD} {l:List (Bool × List S)},LR (fun (cid:Nat)(d:CoD)=>d.cid=cid/\∃ g,hp cid=some (.col d.t d.off d.m d.k d.xs g none)) cids ds->LR CoSame ds cos' ->
  LR (fun (p:Bool × List S) (d:CoD)=>p.2=[.sl d.k d.xs]) l cos'->dupF cids=true ->
  ∀ id,(id ∈ cids/\∃ d' ∈ cos',d'.cid=id/\∃ g,hget (coUpd hp cids l) id=some (.col d'.t d'.off d'.m d'.k d'.xs (g+1) none)/\∃ (xs:List d'.k.T),hp id=some (.col d'.t d'.off d'.m d'.k xs g none))\/(id ∉ cids/\hget (coUpd hp cids l) id=none)
 | [],[],[],[],_,_,_,_,id=>.inr ⟨by simp,rfl⟩
 | cid::r,d::ds,d'::cos',p::l,h1,h2,h3,hn,id=>by
  obtain ⟨⟨rfl,g,hq⟩,h1⟩:=h1
  obtain ⟨⟨e1,e2,e3,e4,e5⟩,h2⟩:=h2
  obtain ⟨hp2,h3⟩:=h3
  simp only [dupF,Bool.and_eq_true,Bool.not_eq_true'] at hn
  have hnm:d.cid ∉ r:=fun hm=>by rw [List.contains_iff_mem.2 hm] at hn;cases hn.1
  obtain ⟨dc,dt,do',dm,dk,dxs⟩:=d
  obtain ⟨dc',dt',do2,dm',dk',dxs'⟩:=d'
  simp only at e1 e2 e3 e4 e5 hq hp2 hnm
  subst e1;subst e2;subst e3;subst e4;subst e5
  simp only [coUpd,hq,hp2,cst_self,hget]
  by_cases hj:dc'=id
  ·subst hj
   exact .inl ⟨by simp,_,List.mem_cons_self,rfl,g,by simp,dxs,hq⟩
  ·have hb:Nat.beq dc' id=false:=by
    cases q:Nat.beq dc' id with
    | true=>exact (hj (Nat.eq_of_beq_eq_true q)).elim
    | false=>rfl
   rw [hb]
   simp only [cond_false]
   rcases coUpd_get h1 h2 h3 hn.2 id with ⟨q1,d2,q2,q3⟩ | ⟨q1,q2⟩
   ·exact .inl ⟨by simp [q1],d2,by simp [q2],q3⟩
   ·exact .inr ⟨by simp [q1,Ne.symm hj],q2⟩
 | [],_::_,_,_,h,_,_,_,_=>h.elim
 | _::_,[],_,_,h,_,_,_,_=>h.elim
 | _,[],_::_,_,_,h,_,_,_=>h.elim
 | _,_::_,[],_,_,h,_,_,_=>h.elim
 | _,_,[],_::_,_,_,h,_,_=>h.elim
 | _,_,_::_,[],_,_,h,_,_=>h.elim
theorem inj_co (k:K)(x:k.T):isCo (inj k x)=false:=by
 cases k<;>simp [inj,leaves,K.isAgg,isCo]
theorem handV_co {P:Program} {hp:Nat->Option Obj} {t:TypeId} {g:Bool} {cs:List S} {h:Hand} (hd:handV P hp t g cs=some h):isCo h.arg=false:=by
 obtain ⟨k,x,_,hx,rfl⟩:=handV_some hd
 exact inj_co k x
theorem handArg_co {P:Program} {hp:Nat->Option Obj} {mv:Bool} {t:TypeId} {a:AV} {h:Hand} (hd:handArg P hp mv t a=some h):isCo h.arg=false:=by
 unfold handArg at hd
 split at hd
 ·cases mv with
  | true =>
   simp only [cond_true] at hd
   split at hd
   ·split at hd
    ·simp only [Option.some.injEq] at hd;subst hd;rfl
    ·cases hd
   ·cases hd
  | false=>simp only [cond_false] at hd;exact handV_co hd
 ·rename_i id g
  cases mv with
  | true =>
   simp only [cond_true] at hd
   split at hd
   ·rename_i k xs gen hist ho
    cases hg:Nat.beq g gen with
    | false=>rw [hg] at hd;cases hd
    | true=>rw [hg] at hd;simp only [cond_true,Option.some.injEq] at hd;subst hd;rfl
   ·cases hd
  | false=>simp only [cond_false] at hd;exact handV_co hd
 ·rename_i id g i p
  cases hp0:p.isEmpty with
  | false=>rw [hp0] at hd;cases hd
  | true =>
   rw [hp0] at hd
   simp only [cond_true] at hd
   split at hd
   ·rename_i cs e ho hu
    cases hne:(!cs.isEmpty && Nat.beq g 0 && Nat.beq i 0) with
    | false=>rw [hne] at hd;cases hd
    | true =>
     rw [hne] at hd
     simp only [cond_true] at hd
     split at hd
     ·split at hd
      ·simp only [Option.some.injEq] at hd;subst hd;rfl
      ·cases hd
     ·cases hd
   ·cases hd
 ·simp only [Option.some.injEq] at hd;subst hd;rfl
 ·exact handV_co hd
 ·cases hd
theorem ioUpd_take:∀ (io:List (Nat × K))(l:List (Bool × List S)),ioUpd io l=ioUpd io (l.take io.length)
 | [],l=>by cases l<;>rfl
 | _::r,[]=>by simp [ioUpd]
 | (id,k)::r,p::l=>by simp only [ioUpd,List.length_cons,List.take_succ_cons];rw [ioUpd_take r l]
theorem ioKs_hands:∀ (hs:List Hand),(∀ h ∈ hs,(∃ id k x,h.io=[(id,k)]/\h.mv=[]/\h.arg=.val false [.io k x])\/(h.io=[]/\(∀ k x,h.arg ≠ .val false [.io k x])/\(h.mv ≠ []->∃ k xs,h.arg=.val false [.mv k xs]))) ->
  (∀ h ∈ hs,isCo h.arg=false)->(ioKs (hs.map Hand.arg)).length=(hs.flatMap Hand.io).length
 | [],_,_=>rfl
 | h::hs,hi,hc=>by
  have ih:=ioKs_hands hs (fun h hh=>hi h (by simp [hh])) (fun h hh=>hc h (by simp [hh]))
  rw [List.flatMap_cons,List.length_append,<- ih]
  rcases hi h (by simp) with ⟨id,k,x,q1,q2,q3⟩ | ⟨q1,q2,_⟩
  ·rw [q1,List.map_cons,q3];simp [ioKs];omega
  ·have hq:isCo h.arg=false:=hc h (by simp)
   rw [q1,List.map_cons]
   have:∀ (a:AV) (r:List AV),(∀ k x,a ≠ .val false [.io k x])->isCo a=false->ioKs (a::r)=ioKs r:=by
    intro a r h1 h2
    conv=>lhs;unfold ioKs
    split
    ·rename_i e;cases e
    ·rename_i k x r' e;simp only [List.cons.injEq] at e;exact (h1 _ _ e.1).elim
    ·rename_i e;simp only [List.cons.injEq] at e;rw [e.1] at h2;simp [isCo] at h2
    ·rename_i e;simp only [List.cons.injEq] at e;rw [e.2]
   rw [this _ _ q2 hq];simp
theorem ownX_s {te:TE} {w w':World} {Sb Sb':Nat->Prop} {cos:List CoD} {l:Lab} {b:Nat} (h:OwnX (coC te w Sb cos) l b):OwnX (coC te w' Sb' cos) l b:=by
 cases l<;>exact h
theorem manIn_of {A:Ann} {c:Cx} (hM:ManR A c) {ds:List CoD} (hn:(ds.map (·.cid)).Nodup)(hd:∀ d ∈ ds,∃ g,c.hp d.cid=some (.col d.t d.off d.m d.k d.xs g none)):ManR A (coC c.te c.w c.S ds):=by
 have up:∀ {cid t off:Nat} {m:Mode} {k:K} {xs:List k.T} {g:Nat} {p:Option Nat},(coC c.te c.w c.S ds).hp cid=some (.col t off m k xs g p)->∃ g',c.hp cid=some (.col t off m k xs g' none)/\p=none:=by
  intro cid t off m k xs g p h
  obtain ⟨d,hd',rfl,e⟩:=coHp_mem h
  obtain ⟨g',q⟩:=hd d hd'
  cases e
  exact ⟨g',q,rfl⟩
 have held:∀ {t},HeldC (coC c.te c.w c.S ds) t->HeldC c t:=by
  rintro t ⟨cid,off,m,k,xs,g,p,h⟩
  obtain ⟨g',q,_⟩:=up h
  exact ⟨cid,off,m,k,xs,g',none,q⟩
 have own:∀ {l b},OwnX (coC c.te c.w c.S ds) l b->OwnX c l b:=by
  intro l b h
  cases l with
  | man t i=>exact ⟨held h.1,h.2⟩
  | own cid i =>
   obtain ⟨⟨t,off,m,k,xs,g,p,q1,q2⟩,q3⟩:=h
   obtain ⟨g',q,_⟩:=up q1
   exact ⟨⟨t,off,m,k,xs,g',none,q,q2⟩,q3⟩
 refine ⟨hM.lay,fun cid t off m k xs g p h=>?_,fun cid t off m k xs g p h i=>?_,fun t i b hh hi=>hM.box t i b (held hh) hi,fun cid t off k xs g p h=>?_,fun cid t off e xs g p h=>?_,fun cid t off e xs g p h=>?_,fun l b hb=>?_,fun l l' b hb hb'=>hM.one l l' b (own hb) (own hb')⟩
 ·obtain ⟨g',q,_⟩:=up h;exact hM.ci _ _ _ _ _ _ _ _ q
 ·obtain ⟨g',q,_⟩:=up h;exact hM.dom _ _ _ _ _ _ _ _ q i
 ·obtain ⟨g',q,_⟩:=up h;exact hM.dat _ _ _ _ _ _ _ q
 ·obtain ⟨g',q,rfl⟩:=up h;exact hM.own _ _ _ _ _ _ _ q
 ·obtain ⟨g',q,_⟩:=up h;exact hM.mpp _ _ _ _ _ _ _ q
 ·obtain ⟨q1,q2,q3⟩:=hM.sep l b (own hb)
  refine ⟨q1,q2,fun id hl=>?_⟩
  obtain ⟨z,_⟩:=hl
  cases z
theorem Man.frame {A:Ann} {te0:TE} {w0:World} {M M':MS} {c:Cx} (h:Man A te0 w0 M c)(hm:∀ b,M.f b->M'.f b):Man A te0 w0 M' c :=
 ⟨h.r,fun l b hb=>(h.f.wr l b hb).imp id (hm b),h.f.frc,h.f.tle,h.f.same,h.f.samo,h.f.newb⟩
theorem ManOut.sb {A:Ann} {te te':TE} {w w':World} {Sb Sb2 S':Nat->Prop} {args:List AV} {bs:List (Option Nat)} {cos cos':List CoD} (h:ManOut A te te' w w' Sb S' args bs cos cos'):ManOut A te te' w w' Sb2 S' args bs cos cos' :=
 ⟨h.same,h.man.frame fun b hb=>hb.imp id fun ⟨l,q⟩=>⟨l,ownX_s q⟩,h.io⟩
theorem Man.name {A:Ann} {te0:TE} {w0:World} {M:MS} {c:Cx} {d:Nat} {β':Nat->Option Nat} {o:Obj} (hM:Man A te0 w0 M c)(hd:c.hp d=none)(hβ:∀ id,id ≠ d->β' id=c.β id)(ho:∀ t off m k (xs:List k.T) g p,o ≠ .col t off m k xs g p)
  (hb:∀ b,β' d=some b->o.live=true->∀ l,¬ OwnX c l b):Man A te0 w0 M { c with β:=β',hp:=upd c.hp d o }:=by
 have hc:ColEq c { c with β:=β',hp:=upd c.hp d o }:=by
  intro cid t off m k xs g p
  show upd c.hp d o cid=_ ↔ _
  by_cases e:cid=d
  ·subst e
   simp only [upd,if_true,hd]
   exact ⟨fun q=>by simp only [Option.some.injEq] at q;exact (ho _ _ _ _ _ _ _ q).elim,fun q=>by cases q⟩
  ·simp [upd,e]
 have own:=fun l b=>hc.own (c':={ c with β:=β',hp:=upd c.hp d o }) rfl l b
 have held:=fun t=>hc.held t
 refine ⟨⟨hM.r.lay,fun cid t off m k xs g p h=>hM.r.ci _ _ _ _ _ _ _ _ ((hc ..).1 h),fun cid t off m k xs g p h=>hM.r.dom _ _ _ _ _ _ _ _ ((hc ..).1 h),fun t i b hh hi=>hM.r.box t i b ((held t).1 hh) hi,fun cid t off k xs g p h=>hM.r.dat _ _ _ _ _ _ _ ((hc ..).1 h),fun cid t off e xs g p h=>hM.r.own _ _ _ _ _ _ _ ((hc ..).1 h),fun cid t off e xs g p h=>hM.r.mpp _ _ _ _ _ _ _ ((hc ..).1 h),fun l b hx=>?_,fun l l' b hx hx'=>hM.r.one l l' b ((own l b).1 hx) ((own l' b).1 hx')⟩,?_⟩
 ·obtain ⟨q1,q2,q3⟩:=hM.r.sep l b ((own l b).1 hx)
  refine ⟨q1,q2,fun id hl=>?_⟩
  obtain ⟨z1,o',z2,z3⟩:=hl
  by_cases e:id=d
  ·subst e
   have z2:upd c.hp id o id=some o':=z2
   simp [upd] at z2;subst z2
   exact hb b z1 z3 l ((own l b).1 hx)
  ·have z2:upd c.hp d o id=some o':=z2
   simp [upd,e] at z2
   exact q3 id ⟨(hβ id e).symm.trans z1,o',z2,z3⟩
 ·refine ⟨fun l b hx=>hM.f.wr l b ((own l b).1 hx),fun t i b arr hh hi hlt hb=>?_,hM.f.tle,fun t hf=>hM.f.same t fun hq=>hf ⟨hq.1,fun d hd=>?_⟩,fun cid h=>hM.f.samo cid fun t off m k xs g p hq=>h _ _ _ _ _ _ _ ((hc ..).2 hq),hM.f.newb⟩
  ·obtain ⟨arr0,p1,p2,p3⟩:=hM.f.frc t i b arr ((held t).1 hh) hi hlt hb
   exact ⟨arr0,p1,p2,fun o ho=>p3 o fun cid off m k xs g p h=>ho _ _ _ _ _ _ _ ((hc ..).2 h)⟩
  ·obtain ⟨off,m,k,xs,g,p,q⟩:=hq.2 d hd
   exact ⟨off,m,k,xs,g,p,(hc ..).2 q⟩
section
variable {P:Program} {A:Ann} {te0:TE} {Gl:Nat->Option Go.Obj} {C:CallF} {w0:World} {M:MS} {c:Cx} {hp:Nat->Option Obj}
theorem callOut_ok (hC:SoundC P A Gl C)(hm:Mem w0 M c)(hM:Man A te0 w0 M c)(hte:c.te.te=A.te)(hgl:Glob Gl c.S c.w)(hh:∀ id o,hp id=some o->c.hp id=some o) {dst:Option Nat} (hf:∀ d,dst=some d->hp d=none->c.hp d=none) {ty:TypeId} {own mvs:List Bool} {cids:List Nat} {cb:Bool} {f f':Nat} {ats:List TypeId} {args as:List AV} {vs:Array Value} {sg:Sig} {post:sg.R->AV × Upd} {rr:sg.R}
  (hr:LR (RepV c) args vs.toList) (h:callOut P hp dst ty own mvs cids cb f ats args=.call true sg f' as post) (hc:C sg f' as=some rr) :
  f' = f /\ cb = true /\ (∃ fn, P.funcs[f]? = some fn /\ (fn.name == "runtime.NumGoroutine") = false /\ fn.body.isNone = false) /\
  Calls P f vs c.w (fun e w'=>∃ v' c',e=.returned v'/\c'.w=w'/\Mem w0 M c'/\ExtM c c'/\c'.hp=hpU (post rr).2 c.hp/\RepV c' (post rr).1 v'/\Man A te0 w0 M c'):=by
 unfold callOut at h
 split at h
 ·rename_i tup ks hs cos0 hres hargs hcos
  obtain ⟨ds,rfl,hds⟩:=coArgs_some hcos
  dsimp only at h
  cases hcond:(ownOk own ks && Nat.ble (anyOwn own) 1 && (Nat.beq (anyOwn own) 0 || (fresh hp dst).isSome) && exOk (exAll args hs) && hs.all (fun h=>disj h.excl h.frz) && (tup == !(Nat.beq ks.length 1)) && dupF cids) with
  | false=>rw [hcond] at h;cases h
  | true =>
   rw [hcond] at h
   simp only [cond_true] at h
   simp only [Bool.and_eq_true] at hcond
   obtain ⟨⟨⟨⟨⟨⟨_,_⟩,hfrd⟩,hex⟩,hdj⟩,htup⟩,hdup⟩:=hcond
   split at h
   ·rename_i u hu
    cases h
    refine ⟨rfl,rfl,?_⟩
    have eco:List.map (fun x:AV × K=>x.1) (List.map (fun d=>(coAV d,K.slice d.k)) ds)=ds.map coAV:=by rw [List.map_map];rfl
    rw [eco] at hc
    obtain ⟨hlen,hget⟩:=handArgs_get hargs
    have hisco:∀ h ∈ hs,isCo h.arg=false:=by
     intro h hh1
     obtain ⟨j,hj⟩:=List.mem_iff_getElem?.1 hh1
     obtain ⟨hlt,_⟩:=List.getElem?_eq_some_iff.1 hj
     obtain ⟨h',b,t,z1,z2⟩:=hget j _ (List.getElem?_eq_getElem (by omega))
     rw [hj] at z1;cases z1
     exact handArg_co z2
    obtain ⟨hfn,hcall⟩:=hC _ _ _ _ _ (fun a ha=>by
     obtain ⟨h,hh1,rfl⟩:=List.mem_map.1 ha
     exact hisco h hh1) hc
    refine ⟨hfn,?_⟩
    have hcids:=lr_cids hds
    have hnod:(ds.map (·.cid)).Nodup:=by rw [hcids];exact dupF_nodup hdup
    have hdsc:∀ d ∈ ds,∃ g,c.hp d.cid=some (.col d.t d.off d.m d.k d.xs g none):=by
     intro d hd
     have:∀ {cids:List Nat} {ds:List CoD},LR (fun (cid:Nat) (d:CoD)=>d.cid=cid/\∃ g,hp cid=some (.col d.t d.off d.m d.k d.xs g none)) cids ds->∀ d ∈ ds,∃ g,hp d.cid=some (.col d.t d.off d.m d.k d.xs g none):=by
      intro cids
      induction cids with
      | nil=>intro ds h d hd;cases ds with
       | nil=>cases hd
       | cons a r=>exact h.elim
      | cons a r ih =>
       intro ds h d hd
       cases ds with
       | nil=>exact h.elim
       | cons b s =>
        rcases List.mem_cons.1 hd with rfl | hd
        ·obtain ⟨e,g,q⟩:=h.1;exact ⟨g,by rw [e];exact q⟩
        ·exact ih h.2 d hd
     obtain ⟨g,q⟩:=this hds d hd
     exact ⟨g,hh _ _ q⟩
    have hlr:=hr.length
    -- what is known of each argument
    have hinfo:∀ (j:Nat) h,hs[j]?=some h->∃ a v b t,args[j]?=some a/\vs.toList[j]?=some v/\RepV c a v/\handArg P hp b t a=some h:=by
     intro j h hj
     obtain ⟨hlt,_⟩:=List.getElem?_eq_some_iff.1 hj
     have ha:args[j]?=some args[j]:=List.getElem?_eq_getElem (by omega)
     obtain ⟨h',b,t,e1,e2⟩:=hget j _ ha
     rw [hj] at e1;cases e1
     obtain ⟨v,e3,e4⟩:=hr.get j _ ha
     exact ⟨_,v,b,t,ha,e3,e4,e2⟩
    have hmem:∀ h ∈ hs,∃ (j:Nat),hs[j]?=some h:=fun h hh=>List.mem_iff_getElem?.1 hh
    -- handed names are lent nowhere
    have hnofz:∀ id,id ∈ hs.flatMap Hand.excl->id ∉ hs.flatMap Hand.frz:=by
     intro id h1 h2
     obtain ⟨ha,ha1,ha2⟩:=List.mem_flatMap.1 h1
     obtain ⟨hb,hb1,hb2⟩:=List.mem_flatMap.1 h2
     obtain ⟨i,hi⟩:=hmem ha ha1
     obtain ⟨j,hj⟩:=hmem hb hb1
     by_cases hij:i=j
     ·subst hij
      rw [hi] at hj;cases hj
      exact disj_spec (List.all_eq_true.1 hdj ha ha1) ha2 hb2
     ·obtain ⟨a1,_,_,_,e1,_⟩:=hinfo i ha hi
      obtain ⟨a2,_,_,_,e2,_⟩:=hinfo j hb hj
      exact exOk_spec hex i j _ _ hij (exAll_get e1 hi) (exAll_get e2 hj) id ha2 (by simp [hb2])
    have hflag:(ks.any K.rows || anyPtr args || !cids.isEmpty)=false->∀ h ∈ hs,h.io=[]:=by
     intro hfl h hh
     simp only [Bool.or_eq_false_iff] at hfl
     obtain ⟨j,hj⟩:=hmem h hh
     obtain ⟨a,_,_,_,e1,_,_,e2⟩:=hinfo j h hj
     exact (handArg_frz e2).2 (anyPtr_get hfl.1.2 a (List.mem_of_getElem? e1))
    -- frozen,or lent alone
    have hc1:∃ (c1:Cx) (Sa:Nat->Prop),c1.w=c.w/\c1.β=c.β/\(Mem w0 M c1/\Man A te0 w0 M c1/\ColEq c c1)/\Ext c c1/\c1.hp=hpU u c.hp/\(∀ b,c.S b->Sa b)/\(∀ id ∈ hs.flatMap Hand.frz,∀ b,c.β id=some b->Sa b)/\(∀ b,Sa b->b < c.w.heap.size) /\
      (∀ id b,id ∈ hs.flatMap Hand.excl->Live c id b->¬ Sa b)/\(∀ id,id ∈ hs.flatMap Hand.excl->c1.hp id=c.hp id) /\
      (((ks.any K.rows || anyPtr args || !cids.isEmpty)=true/\∀ b,Sa b ↔ c1.S b)\/((ks.any K.rows || anyPtr args || !cids.isEmpty)=false/\c1.S=c.S)):=by
     cases hfl:(ks.any K.rows || anyPtr args || !cids.isEmpty) with
     | true =>
      rw [hfl] at hu
      simp only [cond_true] at hu
      obtain ⟨c1,e1,e2,m1',x1,p1,p2⟩:=frz_ok hm.here hh hu
      have m1:=hm.step m1'
      have hcoleq:ColEq c c1:=by
       intro cid t off m k xs g p
       rw [p1];unfold hpU
       cases hq:Go.Eng.hget u cid with
       | none=>simp
       | some o =>
        obtain ⟨k',xs',gen',hist',frz',t1,rfl⟩:=frzU_get hu hq
        have t2:=hh _ _ t1
        refine ⟨fun z=>?_,fun z=>?_⟩
        ·cases z
        ·rw [t2] at z;cases z
      have hM1:Man A te0 w0 M c1:=hM.lift x1.te x1 m1' hcoleq
      have hsame:∀ id,id ∈ hs.flatMap Hand.excl->c1.hp id=c.hp id:=by
       intro id hid
       rw [p1];unfold hpU;rw [frzU_keys hu (hnofz id hid)]
      refine ⟨c1,c1.S,e1,e2,⟨m1,hM1,hcoleq⟩,x1,p1,x1.sub,p2,fun b hb=>by rw [<- e1];exact m1.below b hb,fun id b hid hl=>?_,hsame,.inl ⟨rfl,fun b=>Iff.rfl⟩⟩
      obtain ⟨q1,o,q2,q3⟩:=hl
      exact (m1.live id b ⟨by rw [e2];exact q1,o,by rw [hsame id hid];exact q2,q3⟩).2.1
     | false =>
      rw [hfl] at hu
      simp only [cond_false,Option.some.injEq] at hu
      subst hu
      have hrow:∀ id ∈ hs.flatMap Hand.frz,∃ o,c.hp id=some o/\o.isRow=true:=by
       intro id hid
       obtain ⟨h,hh1,hh2⟩:=List.mem_flatMap.1 hid
       obtain ⟨j,hj⟩:=hmem h hh1
       obtain ⟨a,_,_,_,_,_,_,e2⟩:=hinfo j h hj
       obtain ⟨k,xs,gen,hist,frz,e3⟩:=(handArg_frz e2).1 (hflag hfl h hh1) id hh2
       exact ⟨_,hh id _ e3,rfl⟩
      refine ⟨c,fun b=>c.S b\/∃ id ∈ hs.flatMap Hand.frz,c.β id=some b,rfl,rfl,⟨hm,hM,fun _ _ _ _ _ _ _ _=>Iff.rfl⟩,Ext.refl c,rfl,fun b hb=>.inl hb,fun id hid b hb=>.inr ⟨id,hid,hb⟩,fun b hb=>?_,fun id b hid hl hb=>?_,fun _ _=>rfl,.inr ⟨rfl,rfl⟩⟩
      ·rcases hb with hb | ⟨id,hid,hb⟩
       ·exact hm.below b hb
       ·obtain ⟨o,ho,hrw⟩:=hrow id hid
        obtain ⟨x,hx⟩:=blk_of_repO (hm.obj id o ho) (.inr hrw) hb
        exact lt_of_some hx
      ·rcases hb with hb | ⟨id',hid',hb⟩
       ·exact (hm.live id b hl).2.1 hb
       ·obtain ⟨o,ho,hrw⟩:=hrow id' hid'
        by_cases hv:o.live=true
        ·have:=hm.one id id' b hl ⟨hb,o,ho,hv⟩
         subst this
         exact hnofz id hid hid'
        ·cases o with
         | box cs=>cases hrw
         | mp k es=>cases hrw
         | fm es=>cases hrw
         | col=>cases hrw
         | row k xs gen hist frz =>
          have hft:frz=true:=by simpa [Obj.live] using hv
          have:=hm.obj id' _ ho
          simp only [RepO,hb] at this
          exact (hm.live id b hl).2.1 (this.2.2 hft)
    obtain ⟨c1,Sa,e1,e2,⟨m1,hM1,hceq⟩,x1,p1,p2,p3,p4,p5,p6,p7⟩:=hc1
    have hdsc1:∀ d ∈ ds,∃ g,c1.hp d.cid=some (.col d.t d.off d.m d.k d.xs g none):=fun d hd=>by
     obtain ⟨g,q⟩:=hdsc d hd;exact ⟨g,(hceq ..).2 q⟩
    have hempty:(ks.any K.rows || anyPtr args || !cids.isEmpty)=false->ds=[]:=by
     intro hfl
     simp only [Bool.or_eq_false_iff,Bool.not_eq_false'] at hfl
     have:cids=[]:=List.isEmpty_iff.1 hfl.2
     rw [this] at hcids
     exact List.map_eq_nil_iff.1 hcids
    have hSaE:ds ≠ []->Sa=c1.S:=by
     intro hne
     rcases p7 with ⟨_,hsa⟩ | ⟨hfl,_⟩
     ·funext b;exact propext (hsa b)
     ·exact (hne (hempty hfl)).elim
    have hcc0:∀ l b,OwnX (coC c.te c.w Sa ds) l b->OwnX c1 l b:=by
     intro l b hx
     cases l with
     | man t i =>
      obtain ⟨⟨cid,off,m,k,xs,g,p,hq⟩,hi⟩:=hx
      obtain ⟨d,hd,rfl,e⟩:=coHp_mem hq
      obtain ⟨g',q⟩:=hdsc1 d hd
      cases e
      exact ⟨⟨_,_,_,_,_,_,_,q⟩,by rw [x1.te];exact hi⟩
     | own cid i =>
      obtain ⟨⟨t,off,m,k,xs,g,p,hq,hmd,hlt⟩,hi⟩:=hx
      obtain ⟨d,hd,rfl,e⟩:=coHp_mem hq
      obtain ⟨g',q⟩:=hdsc1 d hd
      cases e
      exact ⟨⟨_,_,_,_,_,_,_,q,hmd,hlt⟩,by rw [x1.te];exact hi⟩
    have hrepj:∀ (j:Nat) h,hs[j]?=some h->∃ a v,args[j]?=some a/\vs.toList[j]?=some v/\ArgRel c.te c.w Sa h.arg v (h.blk c.β)/\(∀ b,h.blk c.β=some b->∃ id ∈ h.excl,Live c id b)/\(∀ id ∈ h.excl,id ∈ a.ids)/\(h.mv=[]\/h.io=[])/\(∀ id ∈ h.mv,∃ k xs gen hist,c.hp id=some (.row k xs gen hist false)) /\
      (∀ id k,(id,k) ∈ h.io->∃ cs x,c.hp id=some (.box cs)/\cs ≠ []/\cs.length=k.size/\h.arg=.val false [.io k x]/\h.blk c.β=c.β id)/\h.excl.length<=1:=by
     intro j h hj
     obtain ⟨a,v,b,t,q1,q2,q3,q4⟩:=hinfo j h hj
     obtain ⟨r1,r2,r3,r4,r5,r6,r7⟩:=handArg_rep hm hh q4 q3 p2 (fun id hid b hb=>p3 id (List.mem_flatMap.2 ⟨h,List.mem_of_getElem? hj,hid⟩) b hb)
     exact ⟨a,v,q1,q2,r1,r2,r3,r4,r5,r6,r7⟩
    have hbs:∀ (j b:Nat),(hs.map (Hand.blk c.β))[j]?=some (some b)->∃ h,hs[j]?=some h/\h.blk c.β=some b:=by
     intro j b hj
     rw [List.getElem?_map] at hj
     cases hh2:hs[j]? with
     | none=>rw [hh2] at hj;cases hj
     | some h=>rw [hh2] at hj;simp at hj;exact ⟨h,rfl,hj⟩
    have hexm:∀ h ∈ hs,∀ id ∈ h.excl,id ∈ hs.flatMap Hand.excl:=fun h hh id hid=>List.mem_flatMap.2 ⟨h,hh,hid⟩
    refine (hcall c.te c.w Sa vs (hs.map (Hand.blk c.β)) hte (fun b o hb=>⟨p2 b (hgl b o hb).1,(hgl b o hb).2⟩) p4 ?_ ?_ ?_ ?_).mono ?_
    ·refine LR3.of_get (by simp at hlr ⊢;omega) (by simp) fun j a v b ha hv hb=>?_
     rw [List.getElem?_map] at ha hb
     cases hj:hs[j]? with
     | none=>rw [hj] at ha;cases ha
     | some h =>
      rw [hj] at ha hb
      simp at ha hb
      subst ha;subst hb
      obtain ⟨a',v',q1,q2,q3,_⟩:=hrepj j h hj
      rw [hv] at q2;cases q2
      exact q3
    ·intro j b hj
     obtain ⟨h,hj,hb⟩:=hbs j b hj
     obtain ⟨a',v',_,_,_,q4,_⟩:=hrepj j h hj
     obtain ⟨id,hid,hl⟩:=q4 b hb
     exact ⟨(hm.live id b hl).1,p5 id b (hexm h (List.mem_of_getElem? hj) id hid) hl⟩
    ·intro j j' b hj hj'
     obtain ⟨h,hj,hb⟩:=hbs j b hj
     obtain ⟨h',hj',hb'⟩:=hbs j' b hj'
     obtain ⟨a1,v1,z1,_,_,q4,q5,_⟩:=hrepj j h hj
     obtain ⟨a2,v2,z2,_,_,q4',q5',_⟩:=hrepj j' h' hj'
     obtain ⟨id,hid,hl⟩:=q4 b hb
     obtain ⟨id',hid',hl'⟩:=q4' b hb'
     have:=hm.one id id' b hl hl'
     subst this
     by_cases e:j=j'
     ·exact e
     ·exact (exOk_spec hex j j' _ _ e (exAll_get z1 hj) (exAll_get z2 hj') id hid (by simp [q5' id hid'])).elim
    ·refine ⟨hnod,?_,fun l b hx hb=>?_⟩
     ·by_cases hne:ds=[]
      ·subst hne
       refine ⟨hM.r.lay,fun _ _ _ _ _ _ _ _ q=>(by cases q),fun _ _ _ _ _ _ _ _ q=>(by cases q),fun t i b ⟨_,_,_,_,_,_,_,q⟩=>(by cases q),fun _ _ _ _ _ _ _ q=>(by cases q),fun _ _ _ _ _ _ _ q=>(by cases q),fun _ _ _ _ _ _ _ q=>(by cases q),fun l b hx=>?_,fun l l' b hx=>?_⟩
       all_goals
        exfalso
        cases l with
        | man t i=>obtain ⟨⟨_,_,_,_,_,_,_,q⟩,_⟩:=hx;cases q
        | own cid i=>obtain ⟨⟨_,_,_,_,_,_,_,q,_⟩,_⟩:=hx;cases q
      ·rw [hSaE hne]
       have:=manIn_of hM1.r hnod hdsc1
       rw [x1.te,e1] at this;exact this
     ·obtain ⟨j,hj⟩:=List.mem_iff_getElem?.1 hb
      obtain ⟨h,hj,hb2⟩:=hbs j b hj
      obtain ⟨_,_,_,_,_,q4,_⟩:=hrepj j h hj
      obtain ⟨id,hid,hl⟩:=q4 b hb2
      refine (hM1.r.sep l b (hcc0 l b hx)).2.2 id ?_
      obtain ⟨z1,o,z2,z3⟩:=hl
      exact ⟨by rw [e2];exact z1,o,by rw [p6 id (hexm h (List.mem_of_getElem? hj) id hid)];exact z2,z3⟩
    -- behind the call
    rintro e w' ⟨v',te',S',cos',rfl,⟨arr,rfl,hfr,hS1,hS2,hrv,hio⟩,hmo,hcr⟩
    let comps:=lvs (Sig.ks ⟨zipOwn own ks,(hs.flatMap Hand.io).map (fun x:Nat × K=>x.2)++(List.map (fun d=>(coAV d,K.slice d.k)) ds).map (fun x:AV × K=>x.2)⟩) rr
    have hzl:∀ (o:List Bool) (l:List K),(zipOwn o l).length=l.length:=by
     intro o l;induction l generalizing o with
     | nil=>cases o<;>rfl
     | cons a r ih=>cases o<;>simp [zipOwn,ih]
    have hzk:∀ (o:List Bool) (l:List K),(zipOwn o l).map (·.2)=l:=by
     intro o l;induction l generalizing o with
     | nil=>cases o<;>rfl
     | cons a r ih=>cases o<;>simp [zipOwn,ih]
    simp only [hzl] at hrv hio hcr
    have hiof:∀ h ∈ hs,(∃ id k x,h.io=[(id,k)]/\h.mv=[]/\h.arg=.val false [.io k x])\/(h.io=[]/\(∀ k x,h.arg ≠ .val false [.io k x])/\(h.mv ≠ []->∃ k xs,h.arg=.val false [.mv k xs])):=by
     intro h hh1
     obtain ⟨j,hj⟩:=hmem h hh1
     obtain ⟨_,_,_,_,_,_,_,q⟩:=hinfo j h hj
     exact handArg_io q
    have hnio:=ioKs_hands hs hiof hisco
    rw [hnio] at hio hcr
    let L:=(comps.drop ks.length).take (hs.flatMap Hand.io).length
    have hLu:ioUpd (hs.flatMap Hand.io) (comps.drop ks.length)=ioUpd (hs.flatMap Hand.io) L:=ioUpd_take _ _
    let CU:=coUpd hp cids (comps.drop (ks.length+(hs.flatMap Hand.io).length))
    have hcu:∀ id,(id ∈ cids/\∃ d' ∈ cos',d'.cid=id/\∃ g,Go.Eng.hget CU id=some (.col d'.t d'.off d'.m d'.k d'.xs (g+1) none)/\∃ (xs:List d'.k.T),hp id=some (.col d'.t d'.off d'.m d'.k xs g none))\/(id ∉ cids/\Go.Eng.hget CU id=none) :=
     coUpd_get hds hmo.same hcr hdup
    have hget2:=resIo_get hs L hiof hio
    let I0:Nat->Prop:=fun id=>id ∈ hs.flatMap Hand.excl
    let I:Nat->Prop:=fun id=>I0 id\/id ∈ cids
    let S2:Nat->Prop:=fun b=>((ks.any K.rows || anyPtr args || !cids.isEmpty)=true/\S' b)\/((ks.any K.rows || anyPtr args || !cids.isEmpty)=false/\c1.S b)
    let c2:Cx:={ te:=te',w:=w',S:=S2,β:=c.β,hp:=hpU (ioUpd (hs.flatMap Hand.io) L++(CU++deads (hs.flatMap Hand.mv))) c1.hp }
    have hmvB:∀ b,mvB (hs.map Hand.arg) (hs.map (Hand.blk c.β)) b->∃ id,I0 id/\Live c id b/\∃ h ∈ hs,id ∈ h.mv:=by
     rintro b ⟨j,k,xs,h1,h2⟩
     obtain ⟨h,hj,hb⟩:=hbs j b h2
     rw [List.getElem?_map,hj] at h1
     simp at h1
     obtain ⟨_,_,_,_,_,q4,_,q6,_,q8,_⟩:=hrepj j h hj
     obtain ⟨id,hid,hl⟩:=q4 b hb
     refine ⟨id,hexm h (List.mem_of_getElem? hj) id hid,hl,h,List.mem_of_getElem? hj,?_⟩
     simp only [Hand.excl,List.mem_append,List.mem_map] at hid
     rcases hid with hid | ⟨p,hp1,rfl⟩
     ·exact hid
     ·obtain ⟨cs,x,_,_,_,e9,_⟩:=q8 p.1 p.2 hp1
      rw [h1] at e9;simp at e9
    have hlive1:∀ id b,I0 id->(Live c1 id b ↔ Live c id b):=by
     intro id b hid
     constructor
     ·rintro ⟨q1,o,q2,q3⟩;exact ⟨by rw [<- e2];exact q1,o,by rw [<- p6 id hid];exact q2,q3⟩
     ·rintro ⟨q1,o,q2,q3⟩;exact ⟨by rw [e2];exact q1,o,by rw [p6 id hid];exact q2,q3⟩
    have hin:∀ id,I0 id->(∃ k,(id,k) ∈ hs.flatMap Hand.io)\/(id ∈ hs.flatMap Hand.mv/\∀ k,(id,k) ∉ hs.flatMap Hand.io):=by
     intro id hid
     obtain ⟨h,hh1,hh2⟩:=List.mem_flatMap.1 hid
     simp only [Hand.excl,List.mem_append,List.mem_map] at hh2
     rcases hh2 with hh2 | ⟨p,hp1,rfl⟩
     ·right
      refine ⟨List.mem_flatMap.2 ⟨h,hh1,hh2⟩,fun k hk=>?_⟩
      obtain ⟨j,hj⟩:=hmem h hh1
      obtain ⟨_,_,_,_,_,_,_,_,q7,_,_⟩:=hrepj j h hj
      obtain ⟨k1,xs,gen,hist,e9⟩:=q7 id hh2
      obtain ⟨h',hh1',hh2'⟩:=List.mem_flatMap.1 hk
      obtain ⟨j',hj'⟩:=hmem h' hh1'
      obtain ⟨_,_,_,_,_,_,_,_,_,q8,_⟩:=hrepj j' h' hj'
      obtain ⟨cs,x,e10,_⟩:=q8 id k hh2'
      rw [e9] at e10;cases e10
     ·left
      exact ⟨p.2,List.mem_flatMap.2 ⟨h,hh1,hp1⟩⟩
    have hdis:∀ id,I0 id->id ∉ cids:=by
     intro id hid hcd
     have hcol:∃ d ∈ ds,d.cid=id:=by rw [<- hcids] at hcd;obtain ⟨d,hd,e⟩:=List.mem_map.1 hcd;exact ⟨d,hd,e⟩
     obtain ⟨d,hd,e⟩:=hcol
     obtain ⟨g,q⟩:=hdsc d hd
     rw [e] at q
     rcases hin id hid with ⟨k,hk⟩ | ⟨hmm,_⟩
     ·obtain ⟨h,hh1,hh2⟩:=List.mem_flatMap.1 hk
      obtain ⟨j,hj⟩:=hmem h hh1
      obtain ⟨_,_,_,_,_,_,_,_,_,q8,_⟩:=hrepj j h hj
      obtain ⟨cs,x,e10,_⟩:=q8 id k hh2
      rw [q] at e10;cases e10
     ·obtain ⟨h,hh1,hh2⟩:=List.mem_flatMap.1 hmm
      obtain ⟨j,hj⟩:=hmem h hh1
      obtain ⟨_,_,_,_,_,_,_,_,q7,_,_⟩:=hrepj j h hj
      obtain ⟨k1,xs,gen,hist,e9⟩:=q7 id hh2
      rw [q] at e9;cases e9
    have hcun:∀ id,id ∉ cids->Go.Eng.hget CU id=none:=fun id hid=>(hcu id).elim (fun q=>(hid q.1).elim) (fun q=>q.2)
    have hc2hp:∀ id,¬ I id->c2.hp id=c1.hp id:=by
     intro id hid0
     have hid:¬ I0 id:=fun q=>hid0 (.inl q)
     show hpU _ c1.hp id=_
     unfold hpU
     rw [hget_append,hget_append,hcun id (fun q=>hid0 (.inr q))]
     rcases hget2 id with ⟨cs,b,k,q1,_⟩ | ⟨_,q2⟩
     ·obtain ⟨h,hh1,hh2⟩:=List.mem_flatMap.1 q1
      exact (hid (hexm h hh1 id (by simp only [Hand.excl,List.mem_append,List.mem_map];exact .inr ⟨(id,k),hh2,rfl⟩))).elim
     ·rw [q2,hget_deads,if_neg]
      intro hmm
      obtain ⟨h,hh1,hh2⟩:=List.mem_flatMap.1 hmm
      exact hid (hexm h hh1 id (by simp only [Hand.excl,List.mem_append];exact .inl hh2))
    have hc2I:∀ id,I0 id->c2.hp id=some (.box [])\/∃ cs b,c2.hp id=some (.box cs)/\cs ≠ []/\c.β id=some b/\BoxArg te' w' S' b cs/\¬ S' b/\∃ k,(id,k) ∈ hs.flatMap Hand.io:=by
     intro id hid
     rcases hget2 id with ⟨cs,b,k,q1,q2,q3,q4,q5,q6⟩ | ⟨q1,q2⟩
     ·right
      refine ⟨cs,b,?_,?_,q3,q4,q5,k,q1⟩
      ·show hpU _ c1.hp id=_
       unfold hpU
       rw [hget_append,q2]
      ·rintro rfl
       have:=size_pos k
       simp at q6;omega
     ·left
      rcases hin id hid with ⟨k,hk⟩ | ⟨hmm,_⟩
      ·exact (q1 k hk).elim
      ·show hpU _ c1.hp id=_
       unfold hpU
       rw [hget_append,q2,hget_append,hcun id (hdis id hid),hget_deads,if_pos hmm]
    have hc2C:∀ id,id ∈ cids->∃ d' ∈ cos',d'.cid=id/\∃ g,c2.hp id=some (.col d'.t d'.off d'.m d'.k d'.xs (g+1) none)/\∃ (xs:List d'.k.T),c1.hp id=some (.col d'.t d'.off d'.m d'.k xs g none):=by
     intro id hid
     rcases hcu id with ⟨_,d',h1,h2,g,h3,xs,h4⟩ | ⟨q,_⟩
     ·refine ⟨d',h1,h2,g,?_,xs,(hceq ..).2 (hh _ _ h4)⟩
      show hpU _ c1.hp id=_
      unfold hpU
      have hno:Go.Eng.hget (ioUpd (hs.flatMap Hand.io) L) id=none:=by
       rcases hget2 id with ⟨cs,b,k,q1,_⟩ | ⟨_,q2⟩
       ·obtain ⟨h,hh1,hh2⟩:=List.mem_flatMap.1 q1
        exact (hdis id (hexm h hh1 id (by simp only [Hand.excl,List.mem_append,List.mem_map];exact .inr ⟨(id,k),hh2,rfl⟩)) hid).elim
       ·exact q2
      rw [hget_append,hno,hget_append,h3]
     ·exact (q hid).elim
    have hflagio:∀ id k,(id,k) ∈ hs.flatMap Hand.io->(ks.any K.rows || anyPtr args || !cids.isEmpty)=true:=by
     intro id k hk
     cases hfl:(ks.any K.rows || anyPtr args || !cids.isEmpty) with
     | true=>rfl
     | false =>
      obtain ⟨h,hh1,hh2⟩:=List.mem_flatMap.1 hk
      rw [hflag hfl h hh1] at hh2;simp at hh2
    have hSS:∀ b,(ks.any K.rows || anyPtr args || !cids.isEmpty)=true->S' b->S2 b:=fun b h1 h2=>.inl ⟨h1,h2⟩
    have hclosed:(ks.any K.rows || anyPtr args || !cids.isEmpty)=true->∀ s v,RepS (clC te' w' S') s v->RepS c2 s v:=fun hfl s v hsv=>closed_rep (c:=c2) (TLe.refl _) (fun _ _=>rfl) (fun b hb=>hSS b hfl hb) hsv
    have ht:Turns w0 M c1 I (XOf c.te c.w Sa ds) c2:=by
     refine ⟨by rw [x1.te];exact hmo.man.f.tle,fun cid hn=>?_,by rw [e1];exact hfr.os,by rw [e1];exact hfr.tape,by rw [e1];exact hfr.output,by rw [e1];exact hfr.size,fun b hb hnl hnx=>?_,fun b hx=>?_,fun b hb=>?_,fun b hb=>?_,fun id hid=>⟨hc2hp id hid,by show c.β id=c1.β id;rw [e2]⟩,fun id o hid ho=>?_,fun id b hid hl=>?_,fun id s v hid hsi hrs=>?_⟩
     ·rw [x1.te]
      refine hmo.man.f.samo cid fun t off m k xs g p hq=>?_
      obtain ⟨d',hd',e,_⟩:=coHp_mem hq
      obtain ⟨d,hd,e'⟩:=coSame_mem' hmo.same d' hd'
      exact hn (.inr (by rw [<- hcids];exact List.mem_map.2 ⟨d,hd,by rw [<- e'.1,e]⟩))
     ·rw [e1]
      rw [e1] at hb
      refine hfr.block b hb fun hbm=>?_
      rcases hbm with hbm | hbm
      rotate_left
      ·exact hnx hbm
      obtain ⟨j,hj⟩:=List.mem_iff_getElem?.1 hbm
      obtain ⟨h,hj,hb2⟩:=hbs j b hj
      obtain ⟨_,_,_,_,_,q4,_⟩:=hrepj j h hj
      obtain ⟨id,hid,hl⟩:=q4 b hb2
      exact hnl id (.inl (hexm h (List.mem_of_getElem? hj) id hid)) ((hlive1 id b (hexm h (List.mem_of_getElem? hj) id hid)).2 hl)
     ·obtain ⟨l,hx⟩:=hx
      have hx1:=hcc0 l b hx
      obtain ⟨q1,q2,q3⟩:=hM1.r.sep l b hx1
      exact ⟨q2,q3,hM1.f.wr l b hx1⟩
     ·rcases p7 with ⟨hfl,hsa⟩ | ⟨hfl,hsa⟩
      ·exact .inl ⟨hfl,hS1 b ((hsa b).2 hb)⟩
      ·exact .inr ⟨hfl,hb⟩
     ·rcases p7 with ⟨hfl,hsa⟩ | ⟨hfl,hsa⟩
      ·rcases hb with ⟨_,hb⟩ | ⟨hfl',_⟩
       ·obtain ⟨q1,q2⟩:=hS2 b hb
        refine ⟨q1,?_⟩
        rcases q2 with q2 | q2 | q2
        ·exact .inl ((hsa b).1 q2)
        ·exact .inr (.inr (by rw [e1];exact q2))
        ·obtain ⟨id,hid,hl,_⟩:=hmvB b q2
         exact .inr (.inl ⟨id,.inl hid,(hlive1 id b hid).2 hl⟩)
       ·rw [hfl] at hfl';cases hfl'
      ·rcases hb with ⟨hfl',_⟩ | ⟨_,hb⟩
       ·rw [hfl] at hfl';cases hfl'
       ·exact ⟨Nat.lt_of_lt_of_le (m1.below b hb) (by rw [e1];exact hfr.size),.inl hb⟩
     ·rcases hid with hid | hid
      rotate_left
      ·obtain ⟨d',_,_,g,q,_⟩:=hc2C id hid
       rw [q] at ho;cases ho;trivial
      rcases hc2I id hid with q | ⟨cs,b,q1,q2,q3,q4,q5,k,q6⟩
      ·rw [q] at ho;cases ho
       intro hne;exact (hne rfl).elim
      ·rw [q1] at ho;cases ho
       intro _
       obtain ⟨arr2,t1,t2⟩:=q4
       exact ⟨b,arr2,q3,t1,t2.mono fun s _ v=>hclosed (hflagio id k q6) s v⟩
     ·rcases hid with hid | hid
      rotate_left
      ·obtain ⟨d',_,_,g,q,_⟩:=hc2C id hid
       obtain ⟨_,o,z1,z2⟩:=hl
       rw [q] at z1;cases z1;cases z2
      rcases hc2I id hid with q | ⟨cs,b',q1,q2,q3,q4,q5,k,q6⟩
      ·obtain ⟨_,o,z1,z2⟩:=hl
       rw [q] at z1;cases z1;simp [Obj.live] at z2
      ·obtain ⟨z0,o,z1,z2⟩:=hl
       have z0':c.β id=some b:=z0
       rw [q3] at z0';cases z0'
       refine ⟨?_,?_⟩
       ·rintro (⟨_,hb⟩ | ⟨hfl,_⟩)
        ·exact q5 hb
        ·rw [hflagio id k q6] at hfl;cases hfl
       ·rw [hlive1 id _ hid]
        obtain ⟨h,hh1,hh2⟩:=List.mem_flatMap.1 q6
        obtain ⟨j,hj⟩:=hmem h hh1
        obtain ⟨_,_,_,_,_,_,_,_,_,q8,_⟩:=hrepj j h hj
        obtain ⟨cs0,x,e10,e11,_⟩:=q8 id k hh2
        exact ⟨q3,_,e10,by simp [Obj.live,e11]⟩
     ·-- values that name it
      rcases hid with hid | hid
      rotate_left
      ·obtain ⟨d',_,_,g,q,xs0,q0⟩:=hc2C id hid
       have hnc:∀ o,c2.hp id=some o->∃ t off m k,∃ (xs:List k.T),∃ g p,o=.col t off m k xs g p:=fun o ho=>by
        rw [q] at ho;cases ho;exact ⟨_,_,_,_,_,_,_,rfl⟩
       cases s<;>simp only [S.ids,List.cons.injEq,and_true,reduceCtorEq] at hsi
       case vw j g=>subst hsi;exact ⟨hrs.1,_,q,fun k xs gen hist frz e=>by cases e⟩
       case pv j g off len=>subst hsi;exact ⟨hrs.1,_,q,fun k xs gen hist frz e=>by cases e⟩
       case ptr j g i p=>subst hsi;obtain ⟨z0,oo,z1,z2,_⟩:=hrs;exact ⟨z0,_,q,z2,fun cs e hne=>(by cases e),fun k xs gen hist frz e=>by cases e⟩
       case mp j=>subst hsi;exact ⟨hrs.1,_,q,fun e=>by cases e⟩
       case rp t i off=>obtain ⟨b,h1,h2⟩:=hrs;exact ⟨b,hmo.man.f.tle.2 _ _ _ (by rw [<- x1.te];exact h1),h2⟩
       case ov j g0 i =>
        subst hsi
        obtain ⟨z0,oo,z1,z2⟩:=hrs
        rw [q0] at z1;cases z1
        have:=(z2 _ _ _ _ _ _ _ rfl).1
        exact ⟨z0,_,q,fun t off m k xs g' p e=>by cases e;exact ⟨by omega,fun h=>by omega⟩⟩
       case oe j g0 i qq p =>
        subst hsi
        obtain ⟨z0,oo,z1,zp,z2⟩:=hrs
        rw [q0] at z1;cases z1
        refine ⟨z0,_,q,zp,fun t off m e xs g' q' he=>?_⟩
        obtain ⟨dc,dt,do',dm,dk,dxs⟩:=d'
        simp only [Option.some.injEq,Obj.col.injEq] at he
        obtain ⟨rfl,rfl,rfl,rfl,rfl,rfl,rfl⟩:=he
        have:=(z2 _ _ _ _ _ _ _ rfl).1
        exact ⟨by omega,fun h=>by omega⟩
       case bm f j=>subst hsi;obtain ⟨p,hv,o',h1,h2⟩:=hrs;exact ⟨p,hv,_,q,fun cs e=>by cases e⟩
      rcases hc2I id hid with q | ⟨cs,b',q1,q2,q3,q4,q5,k,q6⟩
      ·cases s<;>simp only [S.ids,List.cons.injEq,and_true,reduceCtorEq] at hsi
       case mp j=>exact row_ids' (c:=c1) (by rw [x1.te];exact hmo.man.f.tle) q (.inr rfl) (by simp [S.ids,hsi]) rfl hrs
       case rp t i off=>exact row_ids' (c:=c1) (by rw [x1.te];exact hmo.man.f.tle) q (.inr rfl) (by simp [S.ids,hsi]) rfl hrs
       case ov j g i=>exact row_ids' (c:=c1) (by rw [x1.te];exact hmo.man.f.tle) q (.inr rfl) (by simp [S.ids,hsi]) rfl hrs
       case oe j g i q p=>exact row_ids' (c:=c1) (by rw [x1.te];exact hmo.man.f.tle) (by assumption) (.inr rfl) (by simp [S.ids,hsi]) rfl hrs
       case bm f j=>exact row_ids' (c:=c1) (by rw [x1.te];exact hmo.man.f.tle) q (.inr rfl) (by simp [S.ids,hsi]) rfl hrs
       case vw j g=>subst hsi;exact ⟨hrs.1,_,q,fun k xs gen hist frz e=>by cases e⟩
       case pv j g off len=>subst hsi;exact ⟨hrs.1,_,q,fun k xs gen hist frz e=>by cases e⟩
       case ptr j g i p =>
        subst hsi
        obtain ⟨z0,oo,z1,z2,_⟩:=hrs
        exact ⟨z0,_,q,z2,fun cs e hne=>by (cases e;exact (hne rfl).elim),fun k xs gen hist frz e=>by cases e⟩
      ·obtain ⟨h,hh1,hh2⟩:=List.mem_flatMap.1 q6
       obtain ⟨j0,hj0⟩:=hmem h hh1
       obtain ⟨_,_,_,_,_,_,_,_,_,q8,_⟩:=hrepj j0 h hj0
       obtain ⟨cs0,x,e10,e11,_⟩:=q8 id k hh2
       have e10':c1.hp id=some (.box cs0):=by rw [p6 id hid];exact e10
       cases s<;>simp only [S.ids,List.cons.injEq,and_true,reduceCtorEq] at hsi
       case mp j=>exact box_ids' (c:=c1) (by rw [x1.te];exact hmo.man.f.tle) e10' e11 q1 (by show c.β id=_;rw [e2]) (by simp [S.ids,hsi]) rfl hrs
       case rp t i off=>exact box_ids' (c:=c1) (by rw [x1.te];exact hmo.man.f.tle) e10' e11 q1 (by show c.β id=_;rw [e2]) (by simp [S.ids,hsi]) rfl hrs
       case ov j g i=>exact box_ids' (c:=c1) (by rw [x1.te];exact hmo.man.f.tle) e10' e11 q1 (by show c.β id=_;rw [e2]) (by simp [S.ids,hsi]) rfl hrs
       case oe j g i q p=>exact box_ids' (c:=c1) (by rw [x1.te];exact hmo.man.f.tle) e10' e11 q1 (by show c.β id=_;rw [e2]) (by simp [S.ids,hsi]) rfl hrs
       case bm f j=>exact box_ids' (c:=c1) (by rw [x1.te];exact hmo.man.f.tle) e10' e11 q1 (by show c.β id=_;rw [e2]) (by simp [S.ids,hsi]) rfl hrs
       case vw j g=>subst hsi;exact ⟨hrs.1,_,q1,fun k xs gen hist frz e=>by cases e⟩
       case pv j g off len=>subst hsi;exact ⟨hrs.1,_,q1,fun k xs gen hist frz e=>by cases e⟩
       case ptr j g i p =>
        subst hsi
        obtain ⟨z0,oo,z1,z2,z3,_⟩:=hrs
        rw [e10'] at z1;cases z1
        obtain ⟨b2,y1,y2,y3⟩:=z3 cs0 rfl e11
        exact ⟨z0,_,q1,z2,fun cs e hne=>⟨b2,by show c.β j=_;rw [<- e2];exact y1,y2,y3⟩,fun k xs gen hist frz e=>by cases e⟩
    have hm2:=ht.mem m1
    have hx2:=x1.m.trans (ht.ext m1)
    have hM2':Man A te0 w0 M c2/\∀ l b,OwnX c2 l b->OwnX (coC te' w' S' cos') l b\/OwnX c1 l b:=by
     have hB:Behind A c1 c2 S' (hs.map Hand.arg) (hs.map (Hand.blk c.β)) ds cos':=by
      refine ⟨hdsc1,hnod,?_,?_,fun b hb=>?_,ht.sub,fun hne=>?_,fun b hb=>?_,fun d' hd'=>?_,fun cid hn t off m k xs g p=>?_,fun id b hl=>?_⟩
      ·have:=ManOut.sb (Sb2:=c1.S) hmo
       rw [x1.te,e1];exact this
      ·rw [x1.te,e1]
       refine ⟨hfr.os,hfr.tape,hfr.output,hfr.size,fun b hb hnx=>hfr.block b hb fun hq=>hnx (hq.imp id fun ⟨l,z⟩=>⟨l,ownX_s z⟩)⟩
      ·obtain ⟨j,hj⟩:=List.mem_iff_getElem?.1 hb
       obtain ⟨h,hj,hb2⟩:=hbs j b hj
       obtain ⟨_,_,_,_,_,q4,_⟩:=hrepj j h hj
       obtain ⟨id,hid,hl⟩:=q4 b hb2
       exact ⟨id,(hlive1 id b (hexm h (List.mem_of_getElem? hj) id hid)).2 hl⟩
      ·have hfl:(ks.any K.rows || anyPtr args || !cids.isEmpty)=true:=by
        cases hfl:(ks.any K.rows || anyPtr args || !cids.isEmpty) with
        | true=>rfl
        | false=>exact (hne (hempty hfl)).elim
       funext b
       show (_\/_)=_
       rw [hfl];simp
      ·rcases (ht.sup b hb).2 with q | ⟨id,hid,hl⟩ | q
       ·exact .inl q
       ·-- what was moved
        right;right
        rcases hb with ⟨hfl,hb⟩ | ⟨_,hb⟩
        ·rcases (hS2 b hb).2 with y | y | y
         ·have:=m1.live id b hl
          rcases p7 with ⟨_,hsa⟩ | ⟨hfl',_⟩
          ·exact (this.2.1 ((hsa b).1 y)).elim
          ·rw [hfl] at hfl';cases hfl'
         ·have:=(m1.live id b hl).1;rw [e1] at this;omega
         ·obtain ⟨j,k,xs,_,y2⟩:=y
          exact List.mem_of_getElem? y2
        ·exact ((m1.live id b hl).2.1 hb).elim
       ·exact .inr (.inl q)
      ·have hd'c:d'.cid ∈ cids:=by
        obtain ⟨d,hd,es⟩:=coSame_mem' hmo.same d' hd'
        rw [<- hcids,es.1];exact List.mem_map.2 ⟨d,hd,rfl⟩
       obtain ⟨d2,hd2,e,g,q,_⟩:=hc2C _ hd'c
       have hn':(cos'.map (·.cid)).Nodup:=by rw [coSame_cids hmo.same];exact hnod
       have:d2=d':=by
        have g1:=coHp_get hn' hd2
        have g2:=coHp_get hn' hd'
        rw [e,g2] at g1
        obtain ⟨dc,dt,do',dm,dk,dxs⟩:=d2
        obtain ⟨dc',dt',do2,dm',dk',dxs'⟩:=d'
        simp only at e
        subst e
        cases g1;rfl
       subst this
       exact ⟨g+1,q⟩
      ·have hnc:cid ∉ cids:=by
        intro hq
        rw [<- hcids] at hq
        obtain ⟨d,hd,e⟩:=List.mem_map.1 hq
        exact hn d hd e
       by_cases hid:I0 cid
       ·have z1:∀ o,c1.hp cid=some o->o ≠ .col t off m k xs g p:=by
         rintro o ho rfl
         rw [p6 cid hid] at ho
         rcases hin cid hid with ⟨k',hk⟩ | ⟨hmm,_⟩
         ·obtain ⟨h,hh1,hh2⟩:=List.mem_flatMap.1 hk
          obtain ⟨j,hj⟩:=hmem h hh1
          obtain ⟨_,_,_,_,_,_,_,_,_,q8,_⟩:=hrepj j h hj
          obtain ⟨cs,x,e10,_⟩:=q8 cid k' hh2
          rw [ho] at e10;cases e10
         ·obtain ⟨h,hh1,hh2⟩:=List.mem_flatMap.1 hmm
          obtain ⟨j,hj⟩:=hmem h hh1
          obtain ⟨_,_,_,_,_,_,_,_,q7,_,_⟩:=hrepj j h hj
          obtain ⟨k1,xs1,gen,hist,e9⟩:=q7 cid hh2
          rw [ho] at e9;cases e9
        refine ⟨fun q=>?_,fun q=>(z1 _ q rfl).elim⟩
        rcases hc2I cid hid with y | ⟨cs,b,y,_⟩
        ·rw [y] at q;cases q
        ·rw [y] at q;cases q
       ·rw [hc2hp cid (fun q=>q.elim hid hnc)]
      ·by_cases hid:I id
       ·obtain ⟨z1,z2⟩:=ht.live id b hid hl
        refine ⟨z2,fun hb=>?_⟩
        rcases hid with hid | hid
        ·rcases hc2I id hid with q | ⟨cs,b',q1,q2,q3,q4,q5,k,q6⟩
         ·obtain ⟨_,o,y1,y2⟩:=hl
          rw [q] at y1;cases y1;simp [Obj.live] at y2
         ·obtain ⟨h,hh1,hh2⟩:=List.mem_flatMap.1 q6
          obtain ⟨j,hj⟩:=hmem h hh1
          obtain ⟨_,_,_,_,_,_,_,_,_,q8,_⟩:=hrepj j h hj
          obtain ⟨cs0,x,e10,e11,e12,e13,e14⟩:=q8 id k hh2
          refine ⟨j,k,x,by rw [List.getElem?_map,hj];exact congrArg some e13,?_⟩
          rw [List.getElem?_map,hj]
          have:c.β id=some b:=hl.1
          exact congrArg some (e14.trans this)
        ·obtain ⟨d',_,_,g,q,_⟩:=hc2C id hid
         obtain ⟨_,o,y1,y2⟩:=hl
         rw [q] at y1;cases y1;cases y2
       ·obtain ⟨z0,o,z1,z2⟩:=hl
        rw [hc2hp id hid] at z1
        have hl1:Live c1 id b:=⟨by rw [e2];exact z0,o,z1,z2⟩
        refine ⟨hl1,fun hb=>?_⟩
        exfalso
        obtain ⟨j,hj⟩:=List.mem_iff_getElem?.1 hb
        obtain ⟨h,hj,hb2⟩:=hbs j b hj
        obtain ⟨_,_,_,_,_,q4,_⟩:=hrepj j h hj
        obtain ⟨id',hid',hl'⟩:=q4 b hb2
        have hI:=hexm h (List.mem_of_getElem? hj) id' hid'
        have:=m1.one id id' b hl1 ((hlive1 id' b hI).2 hl')
        subst this
        exact hid (.inl hI)
     exact ⟨hB.man hM1 m1,fun l b hx=>(hB.own2 hM1.r hx).imp (·.2) (·.2)⟩
    obtain ⟨hM2,hM2f⟩:=hM2'
    have hhp2:∀ (uo:Upd) id,hpU uo c2.hp id=hpU (uo++(ioUpd (hs.flatMap Hand.io) L)++(CU++(deads (hs.flatMap Hand.mv)++u))) c.hp id:=by
     intro uo id
     show hpU uo (hpU _ c1.hp) id=_
     rw [p1]
     have a1:hpU (ioUpd (hs.flatMap Hand.io) L++(CU++deads (hs.flatMap Hand.mv))) (hpU u c.hp)=hpU ((ioUpd (hs.flatMap Hand.io) L++(CU++deads (hs.flatMap Hand.mv)))++u) c.hp:=funext fun id=>hpU_append _ _ _ id
     rw [a1,hpU_append]
     simp only [List.append_assoc]
    -- what the results say
    have hgood2:∀ p ∈ comps.take ks.length,∀ s ∈ p.2,∀ v,RepS (clC te' w' S') s v->RepS c2 s v:=by
     intro p hp1 s hs1 v hsv
     cases hfl:(ks.any K.rows || anyPtr args || !cids.isEmpty) with
     | true=>exact hclosed hfl s v hsv
     | false =>
      have hfl':ks.any K.rows=false:=by simp only [Bool.or_eq_false_iff] at hfl;exact hfl.1.1
      have hio0:(hs.flatMap Hand.io)=[]:=by
       rw [List.flatMap_eq_nil_iff]
       exact hflag hfl
      have hsc:scal s=true:=by
       refine lvs_scal _ rr ?_ p (List.mem_of_mem_take hp1) s hs1
       show (Sig.ks ⟨zipOwn own ks,(hs.flatMap Hand.io).map (fun x:Nat × K=>x.2)++(List.map (fun d=>(coAV d,K.slice d.k)) ds).map (fun x:AV × K=>x.2)⟩).any K.rows=false
       rw [Sig.ks_eq];simp only [hzk,hio0,hempty hfl,List.map_nil,List.append_nil]
       exact hfl'
      exact scal_rep (c:=clC te' w' S') (c':=c2) (TLe.refl _) hsc hsv
    have hpost:(fun r=>let p:=postOf tup dst own ks.length (hs.flatMap Hand.io) (lvs _ r);(p.1,p.2++(coUpd hp cids ((lvs _ r).drop (ks.length+(hs.flatMap Hand.io).length))++(deads (hs.flatMap Hand.mv)++u)))) rr=((postOf tup dst own ks.length (hs.flatMap Hand.io) comps).1,(postOf tup dst own ks.length (hs.flatMap Hand.io) comps).2++(CU++(deads (hs.flatMap Hand.mv)++u))):=rfl
    have hval:∀ (c3:Cx) (l:List (Bool × List S)),LR (PairR c3) l arr.toList->RepV c3 (bif tup then .tup l else oneV l) (tupA arr):=by
     intro c3 l hl
     have hln:=hl.length
     have hrl:arr.toList.length=ks.length:=by
      rw [resV_len _ _ _ hrv,hzl]
     cases htp:tup with
     | true =>
      rw [htp] at htup
      have:arr.toList.length ≠ 1:=by
       rw [hrl];intro h1;rw [h1] at htup;simp at htup
      simp only [cond_true]
      rw [tupA_many this]
      exact ⟨arr,rfl,hl⟩
     | false =>
      rw [htp] at htup
      have h1:ks.length=1:=by
       have:Nat.beq ks.length 1=true:=by
        cases hq:Nat.beq ks.length 1 with
        | true=>rfl
        | false=>rw [hq] at htup;simp at htup
       exact Nat.eq_of_beq_eq_true this
      simp only [cond_false]
      match l,hal:arr.toList,hl,hln,hrl with
      | [(g,cs)],[x],hl,_,_ =>
       rw [tupA_one hal]
       exact pair_iff.1 hl.1
      | [],[],_,_,hrl=>simp at hrl;omega
      | _::_::_,_,_,hln,hrl=>simp at hln;omega
    -- the two ways
    cases hor:ownRes dst own (comps.take ks.length) with
    | none =>
     refine ⟨tupA arr,c2,rfl,rfl,hm2,hx2,?_,?_,hM2⟩
     ·rw [hpost]
      have:(postOf tup dst own ks.length (hs.flatMap Hand.io) comps).2=ioUpd (hs.flatMap Hand.io) L:=by rw [postOf_none hor];exact hLu
      rw [this]
      funext id
      have:=hhp2 [] id
      rw [hpU_nil] at this
      simpa using this
     ·rw [hpost]
      have:(postOf tup dst own ks.length (hs.flatMap Hand.io) comps).1=.undef:=by rw [postOf_none hor]
      rw [this];trivial
    | some q =>
     obtain ⟨l,uo⟩:=q
     have hp1':(postOf tup dst own ks.length (hs.flatMap Hand.io) comps).1=(bif tup then .tup l else oneV l):=by rw [postOf_some hor]
     have hp2':(postOf tup dst own ks.length (hs.flatMap Hand.io) comps).2=uo++ioUpd (hs.flatMap Hand.io) L:=by rw [postOf_some hor,<- hLu]
     rcases ownRes_rep ks dst own _ l uo arr.toList hor hrv with ⟨rfl,hk⟩ | ⟨d,k,xs,ob,v,rfl,rfl,q3,q4,⟨pp,q5,q6⟩,q7⟩
     ·refine ⟨tupA arr,c2,rfl,rfl,hm2,hx2,?_,?_,hM2⟩
      ·rw [hpost,hp2']
       funext id
       have:=hhp2 [] id
       rw [hpU_nil] at this
       simpa using this
      ·rw [hpost,hp1']
       exact hval c2 l (hk c2 hgood2)
     ·-- a row of one's own
      have hfl:(ks.any K.rows || anyPtr args || !cids.isEmpty)=true:=by
       cases hfl:(ks.any K.rows || anyPtr args || !cids.isEmpty) with
       | true=>rfl
       | false =>
        exfalso
        have hfl':ks.any K.rows=false:=by simp only [Bool.or_eq_false_iff] at hfl;exact hfl.1.1
        have hio0:(hs.flatMap Hand.io)=[]:=by
         rw [List.flatMap_eq_nil_iff]
         exact hflag hfl
        have:scal (.sl k xs)=true:=by
         refine lvs_scal _ rr ?_ pp (List.mem_of_mem_take q5) _ q6
         show (Sig.ks ⟨zipOwn own ks,(hs.flatMap Hand.io).map (fun x:Nat × K=>x.2)++(List.map (fun d=>(coAV d,K.slice d.k)) ds).map (fun x:AV × K=>x.2)⟩).any K.rows=false
         rw [Sig.ks_eq];simp only [hzk,hio0,hempty hfl,List.map_nil,List.append_nil]
         exact hfl'
        simp [scal] at this
      have hownpos:(Nat.beq (anyOwn own) 0)=false:=by
       have:∀ (d:Option Nat) (own:List Bool) (cm l:List (Bool × List S)) (u:Upd),ownRes d own cm=some (l,u)->u ≠ []->anyOwn own ≠ 0:=by
        intro d own
        induction own generalizing d with
        | nil =>
         intro cm
         induction cm with
         | nil=>intro l u h hu;simp [ownRes] at h;exact (hu h.2).elim
         | cons p r ih =>
          intro l u h hu
          simp only [ownRes] at h
          split at h
          ·rename_i l1 u1 e9
           simp only [Option.some.injEq,Prod.mk.injEq] at h
           exact ih l1 u1 e9 (by rw [h.2];exact hu)
          ·cases h
        | cons o os ih =>
         intro cm l u h hu
         cases o with
         | true=>simp [anyOwn]
         | false =>
          cases cm with
          | nil=>simp [ownRes] at h;exact (hu h.2).elim
          | cons p r =>
           simp only [ownRes] at h
           split at h
           ·rename_i l1 u1 e9
            simp only [Option.some.injEq,Prod.mk.injEq] at h
            have:=ih d r l1 u1 e9 (by rw [h.2];exact hu)
            simpa [anyOwn] using this
           ·cases h
       have:=this _ _ _ _ _ hor (by simp)
       cases hq:Nat.beq (anyOwn own) 0 with
       | true=>exact (this (Nat.eq_of_beq_eq_true hq)).elim
       | false=>rfl
      rw [hownpos] at hfrd
      simp only [Bool.false_or] at hfrd
      obtain ⟨d',hd'⟩:=Option.isSome_iff_exists.1 hfrd
      obtain ⟨z1,z2⟩:=fresh_some hd'
      cases z1
      have hcd:=hf d rfl z2
      have hc2d:c2.hp d=none:=by
       have hnI:¬ I d:=by
        intro hid
        rcases hid with hid | hid
        rotate_left
        ·obtain ⟨d',_,_,g,_,xs',q0⟩:=hc2C d hid
         rw [(hceq ..).1 q0] at hcd;cases hcd
        rcases hin d hid with ⟨k',hk'⟩ | ⟨hmm,_⟩
        ·obtain ⟨h,hh1,hh2⟩:=List.mem_flatMap.1 hk'
         obtain ⟨j,hj⟩:=hmem h hh1
         obtain ⟨_,_,_,_,_,_,_,_,_,q8,_⟩:=hrepj j h hj
         obtain ⟨cs,x,e10,_⟩:=q8 d k' hh2
         rw [hcd] at e10;cases e10
        ·obtain ⟨h,hh1,hh2⟩:=List.mem_flatMap.1 hmm
         obtain ⟨j,hj⟩:=hmem h hh1
         obtain ⟨_,_,_,_,_,_,_,_,q7',_,_⟩:=hrepj j h hj
         obtain ⟨k1,xs1,gen,hist,e9⟩:=q7' d hh2
         rw [hcd] at e9;cases e9
       rw [hc2hp d hnI,p1]
       unfold hpU
       split
       ·rename_i o ho
        rw [hfl] at hu
        simp only [cond_true] at hu
        obtain ⟨k',xs',gen',hist',frz',t1,_⟩:=frzU_get hu ho
        rw [z2] at t1;cases t1
       ·exact hcd
      let β':Nat->Option Nat:=fun j=>if j=d then ob else c2.β j
      have hβ':∀ id,id ≠ d->β' id=c2.β id:=fun id hid=>by simp [β',hid]
      let c3:Cx:={ c2 with β:=β',hp:=upd c2.hp d (.row k xs 0 [] false) }
      have hβd:c3.β d=ob:=by simp [c3,β']
      have hm3:Mem w0 M c3:=by
       refine Mem.name hm2 hc2d hβ' ?_ ?_
       ·unfold RepO
        show match c3.β d with | none=>_ | some b=>_
        rw [hβd]
        cases ob with
        | none=>exact q3.2
        | some b =>
         obtain ⟨cap,ar,a,y1,y2,y3,y4,y5,y6⟩:=q3
         exact ⟨⟨ar,y4.blk,y5,fun i x hx=>by
          obtain ⟨vs',t1,t2⟩:=y6 i x hx
          exact ⟨vs',RepT.mono (w:=w') (fun _ _=>rfl) (fun b hb=>hSS b hfl hb) t1,t2⟩⟩,fun _=>⟨ar,y4⟩,fun h=>by cases h⟩
       ·intro b hb _
        have hb':ob=some b:=by rw [<- hβd];exact hb
        obtain ⟨⟨y1,y2,_⟩,y3⟩:=q4 b hb'
        have hns:¬ S2 b:=by
         rintro (⟨_,z⟩ | ⟨z,_⟩)
         ·exact y3 z
         ·rw [hfl] at z;cases z
        refine ⟨y1,hns,?_,fun id hl=>?_⟩
        ·rcases y2 with y2 | y2
         ·exact .inl (Nat.le_trans hm.fr.size y2)
         ·obtain ⟨id,_,hl,_⟩:=hmvB b y2
          exact (hm.live id b hl).2.2
        ·-- nobody else names it
         have hlc:Live c id b/\(∀ h ∈ hs,id ∉ h.mv):=by
          by_cases hid:I id
          ·rcases hid with hid | hid
           rotate_left
           ·obtain ⟨d',_,_,g,q,_⟩:=hc2C id hid
            obtain ⟨_,o,z1,z2⟩:=hl
            rw [q] at z1;cases z1;cases z2
           rcases hc2I id hid with q | ⟨cs,b',q1,q2,q3',q4',q5',k',q6'⟩
           ·obtain ⟨_,o,z1,z2⟩:=hl
            rw [q] at z1;cases z1;simp [Obj.live] at z2
           ·obtain ⟨h1,h2⟩:=ht.live id b (.inl hid) hl
            refine ⟨(hlive1 id b hid).1 h2,fun h hh1 hh2=>?_⟩
            obtain ⟨j,hj⟩:=hmem h hh1
            obtain ⟨_,_,_,_,_,_,_,_,q7',_,_⟩:=hrepj j h hj
            obtain ⟨k1,xs1,gen,hist,e9⟩:=q7' id hh2
            obtain ⟨h',hh1',hh2'⟩:=List.mem_flatMap.1 q6'
            obtain ⟨j',hj'⟩:=hmem h' hh1'
            obtain ⟨_,_,_,_,_,_,_,_,_,q8,_⟩:=hrepj j' h' hj'
            obtain ⟨cs',x,e10,_⟩:=q8 id k' hh2'
            rw [e9] at e10;cases e10
          ·obtain ⟨z0,o,z1,z2⟩:=hl
           rw [hc2hp id hid] at z1
           have hl1:Live c1 id b:=⟨by rw [e2];exact z0,o,z1,z2⟩
           refine ⟨?_,fun h hh1 hh2=>hid (.inl (hexm h hh1 id (by simp only [Hand.excl,List.mem_append];exact .inl hh2)))⟩
           refine ⟨z0,?_⟩
           rw [p1] at z1
           unfold hpU at z1
           split at z1
           ·rename_i o' ho'
            rw [hfl] at hu
            simp only [cond_true] at hu
            obtain ⟨k',xs',gen',hist',frz',t1,rfl⟩:=frzU_get hu ho'
            simp only [Option.some.injEq] at z1
            subst z1
            simp [Obj.live] at z2
           ·exact ⟨o,z1,z2⟩
         obtain ⟨hlc,hnm⟩:=hlc
         rcases y2 with y2 | y2
         ·have:=(hm.live id b hlc).1;omega
         ·obtain ⟨id',hid',hl',h,hh1,hh2⟩:=hmvB b y2
          have:=hm.one id id' b hlc hl'
          subst this
          exact hnm h hh1 hh2
      have hM3:Man A te0 w0 M c3:=by
       refine Man.name hM2 hc2d hβ' (fun _ _ _ _ _ _ _ e=>by cases e) fun b hb _ l hx=>?_
       have hb':ob=some b:=by rw [<- hβd];exact hb
       obtain ⟨⟨y1,y2,y4⟩,y3⟩:=q4 b hb'
       obtain ⟨z1,z2,z3⟩:=hM2.r.sep l b hx
       by_cases hpas:OwnX (coC te' w' S' cos') l b
       ·exact y4 ⟨l,hpas⟩
       ·rcases y2 with y2 | y2
        ·rcases hM2f l b hx with q | q
         ·exact hpas q
         ·have:=(hM1.r.sep l b q).1;rw [e1] at this;omega
        ·obtain ⟨id,hid,hl,_⟩:=hmvB b y2
         rcases hM2f l b hx with q | q
         ·exact hpas q
         ·exact (hM1.r.sep l b q).2.2 id ((hlive1 id b hid).2 hl)
      have hx3:Ext c2 c3:=Ext.name (c:=c2) (o:=.row k xs 0 [] false) hc2d hβ'
      refine ⟨tupA arr,c3,rfl,rfl,hm3,hx2.trans hx3.m,?_,?_,hM3⟩
      ·rw [hpost,hp2']
       funext id
       rw [<- hhp2 [(d,.row k xs 0 [] false)] id,hpU_cons,hpU_nil]
      ·rw [hpost,hp1']
       refine hval c3 l (q7 c3 (fun p hp1 s hs1 v hsv=>hx3.rep (hgood2 p hp1 s hs1 v hsv)) ?_)
       refine ⟨?_,.row k xs 0 [] false,by simp [c3,upd],fun k' xs' gen' hist' frz' e'=>?_⟩
       ·unfold RowArg at q3
        cases ob with
        | none=>rw [q3.1];rfl
        | some b=>obtain ⟨cap,ar,a,y1,_⟩:=q3;rw [y1];rfl
       ·cases e'
        refine ⟨Nat.le_refl _,fun _=>?_,fun h=>(h rfl).elim⟩
        simp only [VwNow]
        rw [hβd]
        cases ob with
        | none =>
         obtain ⟨y1,rfl⟩:=q3
         exact ⟨y1,by simp⟩
        | some b =>
         obtain ⟨cap,ar,a,y1,y2,y3,y4,y5,y6⟩:=q3
         exact ⟨cap,ar,a,y1,y2,y4.blk,by simp,fun hc0=>⟨by simpa using (y3 hc0).1,by simpa using (y3 hc0).2⟩⟩
   ·cases h
 ·cases h
end
end Go.Eng
namespace Go.Eng
open Go.RowKit
def ItemOk (te:TE)(w:World)(Sb:Nat->Prop)(t i off:Nat)(ob:Option Nat)(v:Value)(pd:Prop):(m:Mode)->(k:K)->k.T->Prop
 | .dat,k,x=>∀ b arr,te.ι t i=some b->Blk w b arr->∃ vs,RepT te w Sb k x vs/\∀ (j:Nat) v,vs[j]?=some v->arr[off+j]?=some v
 | .own,.slice e,x=>RowArg te w Sb ob e x v/\(¬ pd->∀ b arr,te.ι t i=some b->Blk w b arr->arr[off]?=some v)
 | .mp,.slice (.prod (.int .i64) (.ref e)),x=>∃ b' ents clock,ob=some b'/\v=.map (some b')/\w.heap[b']?=some (.map ents clock)/\(LR (RepM te (.ref e)) (x:List (Int × Option Nat)) ents.toList/\MapKept.Stamped ents clock)/\(∀ b arr,te.ι t i=some b->Blk w b arr->arr[off]?=some v)
 | _,_,_=>True
theorem ItemOk.mono {te te':TE} {w w':World} {Sb Sb':Nat->Prop} {t i off:Nat} {ob:Option Nat} {v:Value} {pd pd':Prop} (ht:TLe te te')(hst:∀ b,Sb b->w'.heap[b]?=w.heap[b]?)(hs:∀ b,Sb b->Sb' b) {m:Mode} (hob:m ≠ .dat->∀ b,ob=some b->w'.heap[b]?=w.heap[b]?) {k:K}
  (hbx:∀ b arr',te'.ι t i=some b->Blk w' b arr'->te.ι t i=some b/\∃ arr,Blk w b arr/\∀ o,off<=o->o < off+csz m k->arr'[o]?=arr[o]?) (hpd:pd->pd') {x:k.T} (h:ItemOk te w Sb t i off ob v pd m k x):ItemOk te' w' Sb' t i off ob v pd' m k x:=by
 unfold ItemOk at h ⊢
 split
 ·intro b arr' hb hbk
  obtain ⟨hb0,arr,q1,q2⟩:=hbx b arr' hb hbk
  obtain ⟨vs,r1,r2⟩:=h b arr hb0 q1
  refine ⟨vs,RepT.move ht hst hs r1,fun j u hu=>?_⟩
  have hj:j < vs.length:=(List.getElem?_eq_some_iff.1 hu).1
  rw [RepT.len r1] at hj
  rw [q2 (off+j) (by omega) (by simp only [csz];omega)];exact r2 j u hu
 ·refine ⟨RowArg.move ht hst hs (fun b hb=>hob (by simp) b hb) h.1,fun hp b arr' hb hbk=>?_⟩
  obtain ⟨hb0,arr,q1,q2⟩:=hbx b arr' hb hbk
  rw [q2 off (by omega) (by simp only [csz];omega)]
  exact h.2 (fun q=>hp (hpd q)) b arr hb0 q1
 ·obtain ⟨b',ents,clock,h1,h2,h3,h4,h5⟩:=h
  refine ⟨b',ents,clock,h1,h2,by rw [hob (by simp) b' h1];exact h3,⟨h4.1.mono fun _ _ _ q=>⟨q.1,RepE.le ht q.2⟩,h4.2⟩,fun b arr' hb hbk=>?_⟩
  obtain ⟨hb0,arr,q1,q2⟩:=hbx b arr' hb hbk
  rw [q2 off (by omega) (by simp only [csz];omega)]
  exact h5 b arr hb0 q1
 ·trivial
def Items (c:Cx):Prop:=∀ cid t off m k (xs:List k.T) g p,c.hp cid=some (.col t off m k xs g p)->∀ i x,xs[i]?=some x->ItemOk c.te c.w c.S t i off (c.te.ow cid i) (c.te.cur cid i) (p=some i) m k x
theorem ManR.items {A:Ann} {c:Cx} (hM:ManR A c):Items c:=by
 intro cid t off m k xs g p hc i x hx
 cases m with
 | dat=>exact fun b arr hb hbk=>hM.dat cid t off k xs g p hc i x b arr hx hb hbk
 | own =>
  cases k with
  | slice e=>exact hM.own cid t off e xs g p hc i x hx
  | _=>trivial
 | mp =>
  cases k with
  | slice e =>
   cases e with
   | prod a b =>
    cases a with
    | int ik =>
     cases b with
     | ref e=>cases ik<;>first | exact hM.mpp cid t off e xs g p hc i x hx | trivial
     | _=>cases ik<;>trivial
    | _=>trivial
   | _=>trivial
  | _=>trivial
theorem ManR.of_items {A:Ann} {c:Cx} (lay:∀ t,LayOk (A.man t))
  (ci:∀ cid t off m k (xs:List k.T) g p,c.hp cid=some (.col t off m k xs g p)->cid=cidOf t off/\(off,m,k) ∈ A.man t)
  (dom:∀ cid t off m k (xs:List k.T) g p,c.hp cid=some (.col t off m k xs g p)->∀ i,i < xs.length ↔ (c.te.ι t i).isSome=true)
  (box:∀ t i b,HeldC c t->c.te.ι t i=some b->∃ arr,BlkFree c.w b arr/\(∀ v ∈ arr.toList,Go.Eng.one v=true)/\∀ d ∈ A.man t,d.1+csz d.2.1 d.2.2<=arr.size)
  (it:Items c)
  (sep:∀ l b,OwnX c l b->b < c.w.heap.size/\¬ c.S b/\∀ id,¬ Live c id b)
  (one:∀ l l' b,OwnX c l b->OwnX c l' b->l=l'):ManR A c:=by
 refine ⟨lay,ci,dom,box,fun cid t off k xs g p hc i x b arr hx=>?_,fun cid t off e xs g p hc i x hx=>?_,fun cid t off e xs g p hc i es hx=>?_,sep,one⟩
 ·exact it cid t off .dat k xs g p hc i x hx b arr
 ·exact it cid t off .own (.slice e) xs g p hc i x hx
 ·exact it cid t off .mp _ xs g p hc i es hx
def StepOkM (A:Ann)(te0:TE)(w0:World)(M:MS)(c:Cx)(nx:Result Next)(v:AV)(u:Upd):Prop :=
 ∃ nv c',nx=.ok nv c'.w/\Mem w0 M c'/\ExtM c c'/\c'.hp=hpU u c.hp/\Man A te0 w0 M c'/\((∃ v',nv=.value v'/\RepV c' v v')\/(nv=.skip/\v=.undef))
theorem colSafe_get {d:Option Nat} {hp:Nat->Option Obj} {c:Cx} (hh:∀ id o,hp id=some o->c.hp id=some o)(hf:∀ i,d=some i->hp i=none->c.hp i=none):∀ {u:Upd},colSafe d hp u=true->∀ id o,hget u id=some o->(∀ t off m k (xs:List k.T) g p,o ≠ .col t off m k xs g p)/\∀ t off m k (xs:List k.T) g p,c.hp id ≠ some (.col t off m k xs g p)
 | [],_,id,o,h=>by simp [hget] at h
 | (j,q)::r,hs,id,o,h=>by
  simp only [colSafe,Bool.and_eq_true] at hs
  simp only [hget] at h
  cases hb:Nat.beq j id with
  | false=>rw [hb] at h;exact colSafe_get hh hf hs.2 id o h
  | true =>
   rw [hb] at h
   simp only [cond_true,Option.some.injEq] at h
   have:=Nat.eq_of_beq_eq_true hb
   subst this;subst h
   have h1:=hs.1
   refine ⟨fun t off m k xs g p e=>by subst e;simp at h1,fun t off m k xs g p e=>?_⟩
   split at h1
   ·cases h1
   ·cases h1
   ·rename_i o' h2 h3 h4
    rw [hh _ _ h4] at e
    cases e
    first | exact h3 _ _ _ _ _ _ _ rfl | exact h2 _ _ _ _ _ _ _ rfl
   ·rename_i h2 h4
    split at h1
    ·rename_i jj
     have:=Nat.eq_of_beq_eq_true h1
     subst this
     rw [hf _ rfl h4] at e;cases e
    ·cases h1
theorem colEq_of {d:Option Nat} {hp:Nat->Option Obj} {c c':Cx} (hh:∀ id o,hp id=some o->c.hp id=some o)(hf:∀ i,d=some i->hp i=none->c.hp i=none) {u:Upd} (hs:colSafe d hp u=true)(he:c'.hp=hpU u c.hp):ColEq c c':=by
 intro cid t off m k xs g p
 rw [he]
 unfold hpU
 cases hg:hget u cid with
 | none=>rfl
 | some o =>
  obtain ⟨h1,h2⟩:=colSafe_get hh hf hs cid o hg
  simp only []
  exact ⟨fun e=>by cases e;exact (h1 _ _ _ _ _ _ _ rfl).elim,fun e=>(h2 _ _ _ _ _ _ _ e).elim⟩
theorem StepOk.man {A:Ann} {te0:TE} {w0:World} {M:MS} {c:Cx} {nx:Result Next} {v:AV} {u:Upd} {d:Option Nat} {hp:Nat->Option Obj} (hm:Mem w0 M c)(hM:Man A te0 w0 M c)(hh:∀ id o,hp id=some o->c.hp id=some o)(hf:∀ i,d=some i->hp i=none->c.hp i=none)(hs:colSafe d hp u=true)
  (h:StepOk c.w (here c) c nx v u):StepOkM A te0 w0 M c nx v u:=by
 obtain ⟨nv,c',e1,e2,e3,e4,e5⟩:=h
 exact ⟨nv,c',e1,hm.step e2,e3.m,e4,hM.lift e3.te e3 e2 (colEq_of hh hf hs e4),e5⟩
theorem frz_man {A:Ann} {te0:TE} {w0:World} {M:MS} {c:Cx} (hm:Mem w0 M c)(hM:Man A te0 w0 M c) {hp:Nat->Option Obj} (hh:∀ id o,hp id=some o->c.hp id=some o) {ids:List Nat} {u:Upd} (h:frzU hp ids=some u) :
  ∃ c1,c1.w=c.w/\c1.β=c.β/\Mem w0 M c1/\Ext c c1/\c1.hp=hpU u c.hp/\(∀ id ∈ ids,∀ b,c.β id=some b->c1.S b)/\Man A te0 w0 M c1/\ColEq c c1:=by
 obtain ⟨c1,f1,f2,m1,x1,p1,p2⟩:=frz_ok hm.here hh h
 have hc:ColEq c c1:=by
  intro cid t off m k xs g p
  rw [p1]
  unfold hpU
  cases hg:hget u cid with
  | none=>rfl
  | some o =>
   obtain ⟨k',xs',gen,hist,frz,t1,rfl⟩:=frzU_get h hg
   simp only []
   exact ⟨fun e=>(by cases e),fun e=>(by rw [hh _ _ t1] at e;cases e)⟩
 exact ⟨c1,f1,f2,hm.step m1,x1,p1,p2,hM.lift x1.te x1 m1 hc,hc⟩
theorem StepOkM.after {A:Ann} {te0:TE} {w0:World} {M:MS} {c c1:Cx} {nx:Result Next} {v:AV} {u u1:Upd} (he:Ext c c1)(hp:c1.hp=hpU u1 c.hp)(h:StepOkM A te0 w0 M c1 nx v u):StepOkM A te0 w0 M c nx v (u++u1):=by
 obtain ⟨nv,c',e1,e2,e3,e4,e5,e6⟩:=h
 refine ⟨nv,c',e1,e2,he.m.trans e3,?_,e5,e6⟩
 rw [e4,hp];funext id;exact hpU_append _ _ _ id
def TE.tset (te:TE)(cid i:Nat)(ob:Option Nat)(v:Value):TE :=
 { te with ow:=fun a j=>if a=cid/\j=i then ob else te.ow a j,cur:=fun a j=>if a=cid/\j=i then v else te.cur a j }
theorem TE.tset_le (te:TE)(cid i:Nat)(ob:Option Nat)(v:Value):TLe te (te.tset cid i ob v):=⟨rfl,fun _ _ _ h=>h⟩
structure ColStep (A:Ann)(w0:World)(M:MS)(c:Cx)(cid t off:Nat)(m:Mode)(k:K)(xs xs':List k.T)(g g':Nat)(p p':Option Nat)(i:Nat)(ob:Option Nat)(v:Value)(w':World):Prop where
 old:c.hp cid=some (.col t off m k xs g p)
 os:w'.os=c.w.os
 tape:w'.tape=c.w.tape
 output:w'.output=c.w.output
 size:c.w.heap.size<=w'.heap.size
 len:xs'.length=xs.length
 rest:∀ j,j ≠ i->xs'[j]?=xs[j]?
 gen:g < g'\/(g'=g/\xs'=xs/\ob=c.te.ow cid i/\v=c.te.cur cid i)
 pend:∀ j,j ≠ i->p=some j->p'=some j
 blk:∀ b,b < c.w.heap.size->c.te.ι t i ≠ some b->(m=.dat\/i ≥ xs.length\/c.te.ow cid i ≠ some b)->w'.heap[b]?=c.w.heap[b]?
 box:∀ b arr,c.te.ι t i=some b->BlkFree c.w b arr->(∀ v ∈ arr.toList,Go.Eng.one v=true)->off+csz m k<=arr.size->∃ arr',BlkFree w' b arr'/\(∀ v ∈ arr'.toList,Go.Eng.one v=true)/\arr'.size=arr.size/\∀ o,¬ (off<=o/\o < off+csz m k)->arr'[o]?=arr[o]?
 obn:m ≠ .dat->∀ b,ob=some b->c.te.ow cid i=some b\/(b < w'.heap.size/\¬ c.S b/\(∀ id,¬ Live c id b)/\(∀ l,¬ OwnX c l b)/\(w0.heap.size<=b\/M.f b))
 item:∀ x,xs'[i]?=some x->ItemOk c.te w' c.S t i off ob v (p'=some i) m k x
def Cx.cset (c:Cx)(cid t off:Nat)(m:Mode)(k:K)(xs':List k.T)(g':Nat)(p':Option Nat)(i:Nat)(ob:Option Nat)(v:Value)(w':World):Cx :=
 { c with te:=c.te.tset cid i ob v,w:=w',hp:=upd c.hp cid (.col t off m k xs' g' p') }
section
variable {A:Ann} {te0:TE} {w0:World} {M:MS} {c:Cx} {cid t off:Nat} {m:Mode} {k:K} {xs xs':List k.T} {g g':Nat} {p p':Option Nat} {i:Nat} {ob:Option Nat} {v:Value} {w':World}
def ColStep.X (c:Cx)(cid t:Nat)(m:Mode)(k:K)(xs:List k.T)(i b:Nat):Prop:=c.te.ι t i=some b\/(m ≠ .dat/\i < xs.length/\c.te.ow cid i=some b)
theorem ColStep.ownX (h:ColStep A w0 M c cid t off m k xs xs' g g' p p' i ob v w') {b:Nat} (hx:ColStep.X c cid t m k xs i b):∃ l,OwnX c l b:=by
 rcases hx with hx | ⟨h1,h2,h3⟩
 ·exact ⟨.man t i,⟨cid,off,m,k,xs,g,p,h.old⟩,hx⟩
 ·exact ⟨.own cid i,⟨t,off,m,k,xs,g,p,h.old,h1,h2⟩,h3⟩
theorem ColStep.same (h:ColStep A w0 M c cid t off m k xs xs' g g' p p' i ob v w') {b:Nat} (hb:b < c.w.heap.size)(hx:¬ ColStep.X c cid t m k xs i b):w'.heap[b]?=c.w.heap[b]?:=by
 refine h.blk b hb (fun q=>hx (.inl q)) ?_
 by_cases hm:m=.dat
 ·exact .inl hm
 ·by_cases hi:i < xs.length
  ·exact .inr (.inr fun q=>hx (.inr ⟨hm,hi,q⟩))
  ·exact .inr (.inl (by omega))
theorem ColStep.turns (h:ColStep A w0 M c cid t off m k xs xs' g g' p p' i ob v w')(hm:Mem w0 M c)(hM:Man A te0 w0 M c):Turns w0 M c (·=cid) (ColStep.X c cid t m k xs i) (c.cset cid t off m k xs' g' p' i ob v w'):=by
 have hhp:(c.cset cid t off m k xs' g' p' i ob v w').hp cid=some (.col t off m k xs' g' p'):=by simp [Cx.cset,upd]
 refine ⟨TE.tset_le ..,fun j hj=>⟨?_,?_⟩,h.os,h.tape,h.output,h.size,fun b hb _ hx=>h.same hb hx,fun b hx=>?_,fun _ q=>q,fun b hb=>⟨Nat.lt_of_lt_of_le (hm.below b hb) h.size,.inl hb⟩,fun j hj=>⟨by simp [Cx.cset,upd,hj],rfl⟩,fun j o hj ho=>?_,fun j b hj hl=>?_,fun j s v' hj hs hr=>?_⟩
 ·funext a;simp [Cx.cset,TE.tset,hj]
 ·funext a;simp [Cx.cset,TE.tset,hj]
 ·obtain ⟨l,hl⟩:=h.ownX hx
  exact ⟨(hM.r.sep l b hl).2.1,(hM.r.sep l b hl).2.2,hM.f.wr l b hl⟩
 ·subst hj;rw [hhp] at ho;cases ho;trivial
 ·subst hj
  obtain ⟨_,o,h2,h3⟩:=hl
  rw [hhp] at h2;cases h2;cases h3
 ·subst hj
  have hold:=h.old
  cases s<;>simp only [S.ids,List.cons.injEq,and_true,reduceCtorEq] at hs
  case vw q n =>
   subst hs
   exact ⟨hr.1,_,hhp,fun _ _ _ _ _ e=>by cases e⟩
  case pv q n o1 l1 =>
   subst hs
   exact ⟨hr.1,_,hhp,fun _ _ _ _ _ e=>by cases e⟩
  case ptr q n i1 p1 =>
   subst hs
   obtain ⟨h0,o,h1,h2,_⟩:=hr
   exact ⟨h0,_,hhp,h2,fun _ e=>(by cases e),fun _ _ _ _ _ e=>(by cases e)⟩
  case mp q =>
   subst hs
   exact ⟨hr.1,_,hhp,fun e=>by cases e⟩
  case rp t1 i1 o1 =>
   obtain ⟨b,h1,h2⟩:=hr
   exact ⟨b,h1,h2⟩
  case ov q n i1 =>
   subst hs
   obtain ⟨h0,o,h1,h2⟩:=hr
   rw [hold] at h1;cases h1
   refine ⟨h0,_,hhp,fun t2 off2 m2 k2 xs2 g2 p2 e=>?_⟩
   cases e
   obtain ⟨r1,r2⟩:=h2 _ _ _ _ _ _ _ rfl
   rcases h.gen with hg | ⟨hg,hx,ho,hv⟩
   ·exact ⟨by omega,fun e=>by omega⟩
   ·subst hg
    refine ⟨r1,fun e=>⟨(r2 e).1,?_⟩⟩
    rw [(r2 e).2]
    simp only [Cx.cset,TE.tset]
    split
    ·rename_i hq;rw [hq.2];exact hv.symm
    ·rfl
  case oe q n i1 j1 p1 =>
   subst hs
   obtain ⟨h0,o,h1,hp1,h2⟩:=hr
   rw [hold] at h1;cases h1
   refine ⟨h0,_,hhp,hp1,fun t2 off2 m2 e2 xs2 g2 p2 e=>?_⟩
   cases e
   obtain ⟨r1,r2⟩:=h2 _ _ _ _ _ _ _ rfl
   rcases h.gen with hg | ⟨hg,hx,ho,hv⟩
   ·exact ⟨by omega,fun e=>by omega⟩
   ·subst hg;subst hx
    refine ⟨r1,fun e=>?_⟩
    obtain ⟨s1,s2,b,s3,s4⟩:=r2 e
    refine ⟨s1,s2,b,?_,s4⟩
    simp only [Cx.cset,TE.tset]
    split
    ·rename_i hq;rw [ho,<- hq.2];exact s3
    ·exact s3
  case bm f q =>
   subst hs
   obtain ⟨p1,hv,o,h1,h2⟩:=hr
   exact ⟨p1,hv,_,hhp,fun _ e=>by cases e⟩
theorem ColStep.col (h:ColStep A w0 M c cid t off m k xs xs' g g' p p' i ob v w') {cid2 t2 off2:Nat} {m2:Mode} {k2:K} {xs2:List k2.T} {g2:Nat} {p2:Option Nat} (hc:(c.cset cid t off m k xs' g' p' i ob v w').hp cid2=some (.col t2 off2 m2 k2 xs2 g2 p2)) :
  (cid2=cid/\(Obj.col t2 off2 m2 k2 xs2 g2 p2=.col t off m k xs' g' p'))\/(cid2 ≠ cid/\c.hp cid2=some (.col t2 off2 m2 k2 xs2 g2 p2)):=by
 by_cases e:cid2=cid
 ·subst e
  simp only [Cx.cset,upd,if_true,Option.some.injEq] at hc
  exact .inl ⟨rfl,hc.symm⟩
 ·simp only [Cx.cset,upd,e,if_false] at hc
  exact .inr ⟨e,hc⟩
theorem cset_hp:(c.cset cid t off m k xs' g' p' i ob v w').hp cid=some (.col t off m k xs' g' p'):=by simp [Cx.cset,upd]
theorem ColStep.held (h:ColStep A w0 M c cid t off m k xs xs' g g' p p' i ob v w')(t2:Nat):HeldC (c.cset cid t off m k xs' g' p' i ob v w') t2 ↔ HeldC c t2:=by
 constructor
 ·rintro ⟨cid2,off2,m2,k2,xs2,g2,p2,q⟩
  rcases h.col q with ⟨rfl,e⟩ | ⟨_,q⟩
  ·cases e;exact ⟨_,_,_,_,_,_,_,h.old⟩
  ·exact ⟨_,_,_,_,_,_,_,q⟩
 ·rintro ⟨cid2,off2,m2,k2,xs2,g2,p2,q⟩
  by_cases e:cid2=cid
  ·subst e
   rw [h.old] at q;cases q
   exact ⟨cid2,off,m,k,xs',g',p',cset_hp⟩
  ·exact ⟨cid2,_,_,_,_,_,_,by simp only [Cx.cset,upd,e,if_false];exact q⟩
theorem ColStep.own (h:ColStep A w0 M c cid t off m k xs xs' g g' p p' i ob v w') {l:Lab} {b:Nat} (hx:OwnX (c.cset cid t off m k xs' g' p' i ob v w') l b):OwnX c l b\/(l=.own cid i/\m ≠ .dat/\ob=some b):=by
 cases l with
 | man t2 i2=>exact .inl ⟨(h.held t2).1 hx.1,hx.2⟩
 | own cid2 i2 =>
  obtain ⟨⟨t2,off2,m2,k2,xs2,g2,p2,q1,q2,q3⟩,q4⟩:=hx
  simp only [Cx.cset,TE.tset] at q4
  split at q4
  ·rename_i hq
   obtain ⟨rfl,rfl⟩:=hq
   rcases h.col q1 with ⟨_,e⟩ | ⟨e,_⟩
   ·cases e;exact .inr ⟨rfl,q2,q4⟩
   ·exact (e rfl).elim
  ·rcases h.col q1 with ⟨rfl,e⟩ | ⟨_,q⟩
   ·cases e
    exact .inl ⟨⟨_,_,_,_,_,_,_,h.old,q2,by rw [<- h.len];exact q3⟩,q4⟩
   ·exact .inl ⟨⟨_,_,_,_,_,_,_,q,q2,q3⟩,q4⟩
theorem ColStep.man (h:ColStep A w0 M c cid t off m k xs xs' g g' p p' i ob v w')(hm:Mem w0 M c)(hM:Man A te0 w0 M c):Man A te0 w0 M (c.cset cid t off m k xs' g' p' i ob v w'):=by
 have hT:=h.turns hm hM
 have hstab:=hT.stab hm
 have hci:=hM.r.ci cid t off m k xs g p h.old
 have hh0:HeldC c t:=⟨cid,off,m,k,xs,g,p,h.old⟩
 -- blocks that are owned by others
 have hsame:∀ l b,OwnX c l b->l ≠ .man t i->(l ≠ .own cid i\/m=.dat)->w'.heap[b]?=c.w.heap[b]?:=by
  intro l b hl h1 h2
  refine h.same (hM.r.sep l b hl).1 ?_
  rintro (hx | ⟨y1,y2,y3⟩)
  ·exact h1 (hM.r.one l (.man t i) b hl ⟨hh0,hx⟩)
  ·have:=hM.r.one l (.own cid i) b hl ⟨⟨t,off,m,k,xs,g,p,h.old,y1,y2⟩,y3⟩
   exact h2.elim (fun q=>q this) y1
 -- boxes
 have hbox:∀ t2 i2 b,HeldC c t2->c.te.ι t2 i2=some b->∃ arr arr',BlkFree c.w b arr/\BlkFree w' b arr'/\(∀ v ∈ arr'.toList,Go.Eng.one v=true)/\arr'.size=arr.size/\(∀ d ∈ A.man t2,d.1+csz d.2.1 d.2.2<=arr.size)/\∀ o,(t2=t/\i2=i->¬ (off<=o/\o < off+csz m k))->arr'[o]?=arr[o]?:=by
  intro t2 i2 b hh hi
  obtain ⟨arr,q1,q2,q3⟩:=hM.r.box t2 i2 b hh hi
  by_cases e:t2=t/\i2=i
  ·obtain ⟨rfl,rfl⟩:=e
   obtain ⟨arr',r1,r2,r3,r4⟩:=h.box b arr hi q1 q2 (q3 _ hci.2)
   exact ⟨arr,arr',q1,r1,r2,r3,q3,fun o ho=>r4 o (ho ⟨rfl,rfl⟩)⟩
  ·have:=hsame (.man t2 i2) b ⟨hh,hi⟩ (fun q=>e (by cases q;exact ⟨rfl,rfl⟩)) (.inl (fun q=>by cases q))
   exact ⟨arr,arr,q1,q1.of this,q2,rfl,q3,fun _ _=>rfl⟩
 have hR:ManR A (c.cset cid t off m k xs' g' p' i ob v w'):=by
  refine ManR.of_items hM.r.lay (fun cid2 t2 off2 m2 k2 xs2 g2 p2 hc=>?_) (fun cid2 t2 off2 m2 k2 xs2 g2 p2 hc j=>?_) (fun t2 i2 b hh hi=>?_) (fun cid2 t2 off2 m2 k2 xs2 g2 p2 hc j x hx=>?_) (fun l b hl=>?_) (fun l l' b hl hl'=>?_)
  ·rcases h.col hc with ⟨rfl,e⟩ | ⟨_,q⟩
   ·cases e;exact hci
   ·exact hM.r.ci _ _ _ _ _ _ _ _ q
  ·rcases h.col hc with ⟨rfl,e⟩ | ⟨_,q⟩
   ·cases e;rw [h.len];exact hM.r.dom _ _ _ _ _ _ _ _ h.old j
   ·exact hM.r.dom _ _ _ _ _ _ _ _ q j
  ·obtain ⟨arr,arr',q1,q2,q3,q4,q5,_⟩:=hbox t2 i2 b ((h.held t2).1 hh) hi
   exact ⟨arr',q2,q3,fun d hd=>by rw [q4];exact q5 d hd⟩
  ·-- items
   by_cases hcj:cid2=cid/\j=i
   ·obtain ⟨rfl,rfl⟩:=hcj
    rcases h.col hc with ⟨_,e⟩ | ⟨e,_⟩
    ·cases e
     have e1:(c.cset cid2 t off m k xs' g' p' j ob v w').te.ow cid2 j=ob:=by simp [Cx.cset,TE.tset]
     have e2:(c.cset cid2 t off m k xs' g' p' j ob v w').te.cur cid2 j=v:=by simp [Cx.cset,TE.tset]
     rw [e1,e2]
     exact ItemOk.mono (TE.tset_le ..) (fun _ _=>rfl) (fun _ h=>h) (fun _ _ _=>rfl) (fun b arr' q1 q2=>⟨q1,arr',q2,fun _ _ _=>rfl⟩) (fun q=>q) (h.item x hx)
    ·exact (e rfl).elim
   ·have e1:(c.cset cid t off m k xs' g' p' i ob v w').te.ow cid2 j=c.te.ow cid2 j:=by simp [Cx.cset,TE.tset,hcj]
    have e2:(c.cset cid t off m k xs' g' p' i ob v w').te.cur cid2 j=c.te.cur cid2 j:=by simp [Cx.cset,TE.tset,hcj]
    rw [e1,e2]
    have main:∀ (xs2:List k2.T) (g3:Nat) (p3:Option Nat),c.hp cid2=some (.col t2 off2 m2 k2 xs2 g3 p3)->xs2[j]?=some x->(p3=some j->p2=some j)->ItemOk (c.cset cid t off m k xs' g' p' i ob v w').te w' c.S t2 j off2 (c.te.ow cid2 j) (c.te.cur cid2 j) (p2=some j) m2 k2 x:=by
     intro xs2 g3 p3 hc3 hx3 hp3
     have hit:=hM.r.items cid2 t2 off2 m2 k2 xs2 g3 p3 hc3 j x hx3
     refine ItemOk.mono (TE.tset_le ..) hstab (fun _ h=>h) (fun hmd b hb=>?_) (fun b arr' hb hbk=>⟨hb,?_⟩) hp3 hit
     ·refine hsame (.own cid2 j) b ⟨⟨t2,off2,m2,k2,xs2,g3,p3,hc3,hmd,(List.getElem?_eq_some_iff.1 hx3).1⟩,hb⟩ (fun q=>by cases q) (.inl fun q=>hcj (by cases q;exact ⟨rfl,rfl⟩))
     ·have hb:c.te.ι t2 j=some b:=hb
      obtain ⟨arr,arr'',q1,q2,_,_,_,q6⟩:=hbox t2 j b ⟨_,_,_,_,_,_,_,hc3⟩ hb
      have:=hbk.uniqM q2.blk
      subst this
      refine ⟨arr,q1.blk,fun o h1 h2=>q6 o ?_⟩
      rintro ⟨rfl,rfl⟩ ⟨h3,h4⟩
      have hci2:=hM.r.ci _ _ _ _ _ _ _ _ hc3
      rcases (hM.r.lay t2).2 _ hci.2 _ hci2.2 with q | q | q
      ·cases q;exact hcj ⟨by rw [hci2.1,hci.1],rfl⟩
      ·simp only [] at q;omega
      ·simp only [] at q;omega
    rcases h.col hc with ⟨rfl,e⟩ | ⟨_,q⟩
    ·cases e
     have hj:j ≠ i:=fun q=>hcj ⟨rfl,q⟩
     exact main xs g p h.old (by rw [<- h.rest j hj];exact hx) (h.pend j hj)
    ·exact main xs2 g2 p2 q hx (fun q=>q)
  ·rcases h.own hl with q | ⟨rfl,q1,q2⟩
   ·obtain ⟨r1,r2,r3⟩:=hM.r.sep l b q
    refine ⟨Nat.lt_of_lt_of_le r1 h.size,r2,fun id hid=>?_⟩
    by_cases e:id=cid
    ·subst e
     obtain ⟨_,o,y2,y3⟩:=hid
     simp [Cx.cset,upd] at y2;subst y2;cases y3
    ·exact r3 id ⟨hid.1,by obtain ⟨o,y2,y3⟩:=hid.2;exact ⟨o,by simpa [Cx.cset,upd,e] using y2,y3⟩⟩
   ·have hlive:∀ id,Live (c.cset cid t off m k xs' g' p' i ob v w') id b->Live c id b:=by
     intro id hid
     by_cases e:id=cid
     ·subst e
      obtain ⟨_,o,y2,y3⟩:=hid
      simp [Cx.cset,upd] at y2;subst y2;cases y3
     ·exact ⟨hid.1,by obtain ⟨o,y2,y3⟩:=hid.2;exact ⟨o,by simpa [Cx.cset,upd,e] using y2,y3⟩⟩
    rcases h.obn q1 b q2 with r | ⟨r1,r2,r3,r4,r5⟩
    ·by_cases hi:i < xs.length
     ·obtain ⟨s1,s2,s3⟩:=hM.r.sep (.own cid i) b ⟨⟨t,off,m,k,xs,g,p,h.old,q1,hi⟩,r⟩
      exact ⟨Nat.lt_of_lt_of_le s1 h.size,s2,fun id hid=>s3 id (hlive id hid)⟩
     ·exfalso
      obtain ⟨⟨t2,off2,m2,k2,xs2,g2,p2,y1,y2,y3⟩,_⟩:=hl
      rcases h.col y1 with ⟨_,e⟩ | ⟨e,_⟩
      ·cases e;rw [h.len] at y3;exact hi y3
      ·exact e rfl
    ·exact ⟨r1,r2,fun id hid=>r3 id (hlive id hid)⟩
  ·-- one label for each block
   have key:∀ l,OwnX c l b->OwnX (c.cset cid t off m k xs' g' p' i ob v w') l b->(m ≠ .dat/\ob=some b)->OwnX (c.cset cid t off m k xs' g' p' i ob v w') (.own cid i) b->l=.own cid i:=by
    intro l h1 h3 h2 h4
    rcases h.obn h2.1 b h2.2 with r | ⟨_,_,_,r4,_⟩
    ·refine hM.r.one l _ b h1 ⟨⟨t,off,m,k,xs,g,p,h.old,h2.1,?_⟩,r⟩
     obtain ⟨⟨t2,off2,m2,k2,xs2,g2,p2,y1,y2,y3⟩,_⟩:=h4
     rcases h.col y1 with ⟨_,e⟩ | ⟨e,_⟩
     ·cases e;rw [h.len] at y3;exact y3
     ·exact (e rfl).elim
    ·exact (r4 l h1).elim
   rcases h.own hl with q | ⟨q1,q2⟩<;>rcases h.own hl' with r | ⟨r1,r2⟩
   ·exact hM.r.one l l' b q r
   ·subst r1;exact key l q hl r2 hl'
   ·subst q1;exact (key l' r hl' q2 hl).symm
   ·rw [q1,r1]
 refine ⟨hR,fun l b hl=>?_,fun t2 i2 b arr2 hh hi hlt hbk=>?_,hM.f.tle,fun t2 ht=>?_,fun cid2 hn=>?_,hM.f.newb⟩
 ·rcases h.own hl with q | ⟨rfl,q1,q2⟩
  ·exact hM.f.wr l b q
  ·rcases h.obn q1 b q2 with r | ⟨_,_,_,_,r5⟩
   ·by_cases hi:i < xs.length
    ·exact hM.f.wr (.own cid i) b ⟨⟨t,off,m,k,xs,g,p,h.old,q1,hi⟩,r⟩
    ·exfalso
     obtain ⟨⟨t2,off2,m2,k2,xs2,g2,p2,y1,y2,y3⟩,_⟩:=hl
     rcases h.col y1 with ⟨_,e⟩ | ⟨e,_⟩
     ·cases e;rw [h.len] at y3;exact hi y3
     ·exact e rfl
   ·exact r5
 ·have hh':=(h.held t2).1 hh
  obtain ⟨arr,arr',q1,q2,_,q4,_,q6⟩:=hbox t2 i2 b hh' hi
  have:=hbk.uniqM q2.blk
  subst this
  obtain ⟨arr0,r1,r2,r3⟩:=hM.f.frc t2 i2 b arr hh' hi hlt q1.blk
  refine ⟨arr0,r1,by rw [r2,q4],fun o ho=>?_⟩
  rw [q6 o,r3 o]
  ·intro cid3 off3 m3 k3 xs3 g3 p3 hc3
   by_cases e:cid3=cid
   ·subst e
    rw [h.old] at hc3;cases hc3
    exact ho cid3 off m k xs' g' p' (by simp [Cx.cset,upd])
   ·exact ho cid3 off3 m3 k3 xs3 g3 p3 (by simp only [Cx.cset,upd,e,if_false];exact hc3)
  ·rintro ⟨rfl,rfl⟩
   exact ho cid off m k xs' g' p' (by simp [Cx.cset,upd])
 ·refine hM.f.same t2 fun hf=>ht ⟨hf.1,fun d hd=>?_⟩
  obtain ⟨off2,m2,k2,xs2,g2,p2,q⟩:=hf.2 d hd
  by_cases e:cidOf t2 d.1=cid
  ·rw [e,h.old] at q;cases q
   rw [e];exact ⟨off,m,k,xs',g',p',cset_hp⟩
  ·exact ⟨_,_,_,xs2,g2,p2,by simp only [Cx.cset,upd,e,if_false];exact q⟩
 ·by_cases e:cid2=cid
  ·subst e;exact (hn t off m k xs' g' p' (by simp [Cx.cset,upd])).elim
  ·have:=hM.f.samo cid2 fun t2 off2 m2 k2 xs2 g2 p2 q=>hn t2 off2 m2 k2 xs2 g2 p2 (by simp only [Cx.cset,upd,e,if_false];exact q)
   refine ⟨?_,?_⟩
   ·rw [<- this.1];funext a;simp [Cx.cset,TE.tset,e]
   ·rw [<- this.2];funext a;simp [Cx.cset,TE.tset,e]
theorem ColStep.ok (h:ColStep A w0 M c cid t off m k xs xs' g g' p p' i ob v w')(hm:Mem w0 M c)(hM:Man A te0 w0 M c) {nx:Result Next} {nv:Next} (hn:nx=.ok nv w') {av:AV}
  (hv:(∃ v',nv=.value v'/\RepV (c.cset cid t off m k xs' g' p' i ob v w') av v')\/(nv=.skip/\av=.undef)):StepOkM A te0 w0 M c nx av [(cid,.col t off m k xs' g' p')] :=
 ⟨nv,c.cset cid t off m k xs' g' p' i ob v w',hn,(h.turns hm hM).mem hm,(h.turns hm hM).ext hm,by rw [hpU_cons,hpU_nil];rfl,h.man hm hM,hv⟩
end
end Go.Eng
