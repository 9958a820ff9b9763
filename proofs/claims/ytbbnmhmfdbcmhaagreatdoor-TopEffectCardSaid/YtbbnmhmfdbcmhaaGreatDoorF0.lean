/- The small machine that reads the program's functions, and its soundness: plain definitions and lemmas. No conditions. -/
import GoSem.Step
import Derived.KernelRfl
import Derived.Calls
import Derived.Below
import Derived.MapKept
import Derived.Laws.Strings
set_option linter.all false
set_option linter.unusedVariables false
set_option linter.unusedSimpArgs false
set_option linter.deprecated false
def Ny := @List.length_append
def Nz := @Option.some.injEq
def NA := @List.length_set
def NB := @Nat.eq_of_beq_eq_true
def NC := @List.length_cons
def ND := @if_neg
def NF := @decide_eq_false
def NG := @Nat.le_refl
def NH := @cond_true
def NI := @if_pos
def NJ := @List.getElem?_eq_some_iff
def NK := @decide_eq_true
def NL := @List.length_nil
def NM := @Bool.and_eq_true
def NN := @Option.getD_some
def NO := @List.mem_cons
def NP := @List.getD_eq_getElem?_getD
def NQ := @Int.toNat_natCast
def NR := @Array.getElem?_toList
def NS := @cond_false
def NT := @List.getElem?_eq_getElem
def NU := @List.mem_append
def NV := @List.map_cons
def NW := @List.mem_cons_of_mem
def NX := @List.mem_of_getElem?
def NY := @List.cons.injEq
def NZ := @List.getElem?_append_left
def N0 := @decide_eq_true_eq
def N1 := @Nat.lt_of_lt_of_le
def N2 := @Array.getD_eq_getD_getElem?
def N3 := @Nat.le_of_ble_eq_true
def N4 := @List.cons_append
def N5 := @List.mem_singleton
def N6 := @List.getElem?_append_right
def N7 := @List.append_assoc
def N8 := @List.getElem_mem
def N9 := @List.mem_map
def Oa := @Nat.le_trans
def Ob := @List.drop_eq_getElem_cons
def Oc := @List.not_mem_nil
def Od := @Bool.false_eq_true
def Oe := @List.mem_flatMap
def Of := @Nat.mul_le_mul_right
def Og := @Nat.add_mul
def Oh := @true_and
def Oi := @List.drop_of_length_le
def Oj := @Int.eq_ofNat_of_zero_le
def Ol := @List.getElem?_take
def Om := @List.mem_cons_self
def On := @Nat.ble_eq_true_of_le
def Oo := @List.mem_iff_getElem?
def Oq := @List.append_nil
def Ot := @List.getElem?_map
def Ou := @Array.getElem?_setIfInBounds_ne
def Ov := @Prod.mk.injEq
def Ow := @Array.getElem?_eq_none
def Ox := @Nat.zero_add
def Oy := @Nat.lt_or_ge
def Oz := @Bool.not_eq_true'
def OA := @List.length_take
def OB := @Array.getElem?_eq_getElem
def OC := @List.length_map
def OD := @List.mem_or_eq_of_mem_set
def OE := @if_false
def OF := @forall_eq_or_imp
def OG := @List.getElem?_set_self
def OH := @List.getElem?_set_ne
def OI := @Array.getElem?_setIfInBounds_self_of_lt
def OJ := @List.nil_append
def OK := @beq_false_of_ne
def OL := @List.contains_iff_mem
def OM := @List.contains_cons
def ON := @or_false
def OO := @Array.toList_map
def OP := @List.flatMap_cons
def OQ := @List.getElem?_drop
def OR := @List.length_eq_zero_iff
def OS := @Option.map_some
def OT := @List.length_drop
def OU := @Prod.ext
def OV := @and_true
def OW := @List.all_eq_true
def OX := @Array.getElem?_eq_some_iff
def OY := @List.map_nil
def OZ := @decide_true
def O0 := @List.take_of_length_le
def O1 := @Array.getElem?_setIfInBounds
def O2 := @Bool.and_true
def O3 := @Option.bind_some
def O4 := @List.filter_cons
def O5 := @Array.ext'
def O6 := @beq_eq_false_iff_ne
def O7 := @Array.length_toList
def O8 := @if_true
def O9 := @Bool.or_false
def Pa := @List.mem_of_mem_take
def Pb := @List.contains_nil
def Pc := @List.getElem?_eq_none
def Pd := @Bool.not_false
def Pe := @Eq.trans
def Pf := @List.foldl_cons
def Pg := @forall_eq
def Ph := @Bool.or_eq_false_iff
def Pj := @Nat.lt_succ_self
def Pk := @Nat.add_assoc
def Pm := @List.drop_zero
def Pn := @List.nodup_cons
def Po := @List.map_append
def Pp := @Int.fdiv_eq_ediv_of_nonneg
def Pq := @decide_eq_decide
def Pr := @Array.getElem?_modify
def Ps := @BitVec.toNat_ofInt
def Pt := @Option.isSome_iff_exists
def Pu := @Array.size_setIfInBounds
def Pv := @List.flatten_cons
def Pw := @Bool.not_true
def Py := @List.length_pos_iff
def Pz := @Nat.add_zero
def PA := @List.set_getElem_self
def PB := @List.set_append_right
def PC := @List.mem_filter
def PD := @Nat.lt_irrefl
def PE := @Int.tmod_eq_emod_of_nonneg
def PF := @Nat.lt_trichotomy
def PG := @List.mem_append_left
def PH := @Bool.false_and
def PJ := @beq_self_eq_true
def PK := @List.take_succ_eq_append_getElem
def PL := @decide_eq_false_iff_not
def PM := @List.getElem?_cons_succ
def PN := @Option.bind_eq_some_iff
def PO := @List.count_pos_iff
def PQ := @Array.size_push
def PR := @List.ext_getElem?
def PS := @List.nodup_append
def PT := @of_decide_eq_true
def PU := @decide_false
def PV := @Nat.two_pow_add_eq_or_of_lt
def PW := @Array.getElem?_append_left
def PX := @Int.tdiv_eq_ediv_of_nonneg
def PY := @Nat.zero_le
def PZ := @Array.getElem?_push
def P0 := @Nat.min_eq_left
def P1 := @Option.some.inj
def P2 := @Nat.eq_zero_or_pos
def P3 := @Nat.zero_mul
def P4 := @Nat.sub_zero
def P5 := @Array.getElem?_replicate
def P6 := @beq_iff_eq
def P7 := @List.nodup_nil
def P8 := @List.Perm.refl
def P9 := @List.getElem?_set
def Qa := @Option.map_eq_map
def Qb := @Option.map_eq_some_iff
def Qc := @Int.ofNat_inj
def Qd := @List.take_length
def Qe := @List.isEmpty_iff
def Qf := @List.contains_iff_exists_mem_beq
def Qg := @List.take_append_drop
def Qh := @List.mem_append_right
def Qi := @Bool.eq_iff_iff
def Qj := @Option.map_none
def Qk := @Bool.or_eq_true
def Ql := @List.mem_of_mem_drop
def Qm := @List.contains_eq_mem
def Qn := @BitVec.toNat_or
def Qo := @BitVec.ofInt_natCast
def Qp := @List.eq_nil_of_length_eq_zero
def Qq := @List.replicate_succ
def Qr := @List.getElem_of_mem
def Qs := @List.filter_eq_self
def Qt := @Int.toNat_of_nonneg
def Qu := @List.drop_drop
def Qv := @Int.le_refl
def Qw := @Array.foldl_toList
def Qx := @Array.toList_range
def Qy := @List.pairwise_cons
def Qz := @BitVec.allOnes_xor
def QA := @BitVec.ofNat_toNat
def QB := @BitVec.setWidth_eq
def QC := @Nat.mul_assoc
def QD := @Array.toList_setIfInBounds
def QE := @List.sum_cons
def QF := @not_true_eq_false
def QG := @List.size_toArray
def QH := @Array.toList_push
def QI := @List.count_append
def QJ := @List.filter_congr
def QK := @BitVec.toNat_and
def QL := @Nat.sub_self
def QM := @List.getElem?_take_of_lt
def QN := @List.getElem_map
def QO := @List.getElem?_cons_zero
def QP := @List.getElem?_replicate
def QQ := @List.flatMap_eq_nil_iff
def QR := @Int.ediv_nonneg
def QS := @List.foldr_cons
def QT := @Bool.and_assoc
def QU := @List.length_singleton
def QV := @List.mem_range
def QW := @Array.toList_extract
def QX := @List.drop_eq_nil_iff
def QY := @List.getElem?_modify
def QZ := @List.all_cons
def Q0 := @Bool.true_and
def Q1 := @Bool.false_or
def Q2 := @List.getElem?_range
def Q3 := @Array.toList_modify
def Q4 := @Array.toList_append
def Q5 := @List.map_congr_left
def Q6 := @List.length_reverse
def Q7 := @Array.forIn_toList
def Q8 := @Bool.not_eq_false'
def Q9 := @Nat.add_comm
def Ra := @List.mem_replicate
def Rb := @List.length_modify
def Rc := @Bool.or_true
def Re := @Int.tmod_lt_of_pos
def Rf := @Nat.mul_comm
def Rg := @Nat.and_one_is_mod
def Rh := @List.map_set
def Ri := @List.set_set
def Rj := @Array.size_append
def Rk := @Nat.mul_one
def Rl := @Nat.le_succ
def Rm := @Iff.rfl
namespace Go.Eng
inductive K where
 |int (k:IntKind)
 |bool
 |str
 |err
 |fn
 |ref (t:Nat)
 |slice (e:K)
 |prod (a b:K)
 |strct (a:K)
 deriving DecidableEq,Inhabited
@[reducible] def K.T:K->Type
 |.int _=>Int
 |.bool=>Bool
 |.str=>List Int
 |.err=>Option Int
 |.fn=>Option Nat
 |.ref _=>Option Nat
 |.slice e=>List e.T
 |.prod a b=>a.T×b.T
 |.strct a=>a.T
def K.size:K->Nat
 |.prod a b=>a.size+b.size
 |.strct a=>a.size
 |_=>1
def K.isAgg:K->Bool
 |.prod _ _| .strct _=>true
 |_=>false
def K.dflt:(k:K)->k.T
 |.int _=>(0:Int)
 |.bool=>false
 |.str=>([]:List Int)
 |.err=>(none:Option Int)
 |.fn=>(none:Option Nat)
 |.ref _=>(none:Option Nat)
 |.slice _=>[]
 |.prod a b=>(a.dflt,b.dflt)
 |.strct a=>a.dflt
def K.rows:K->Bool
 |.slice _=>true
 |.prod a b=>a.rows || b.rows
 |.strct a=>a.rows
 |_=>false
inductive Mode where
 |dat
 |own
 |mp
 deriving DecidableEq,Inhabited
inductive jY where
 |fld (off:Nat)
 |idx (n sz:Nat) (i:Int)
inductive S where
 |undef
 |bool (b:Bool)
 |int (k:IntKind) (n:Int)
 |str (s:List Int)
 |err (e:Option Int)
 |fn (f:Option Nat)
 |nilS
 |sl (k:K) (xs:List k.T)
 |vw (id g:Nat)
 |pv (id g off len:Nat)
 |ptr (id g i:Nat) (p:List jY)
 |mp (id:Nat)
 |clo (f:Nat) (k:K) (x:k.T)
 |ipt (k:K) (x:k.T) (p:List jY)
 |mv (k:K) (xs:List k.T)
 |io (k:K) (x:k.T)
 |nilP
 |ref (t:Nat) (r:Option Nat)
 |rb (t i:Nat)
 |rp (t i off:Nat)
 |ov (cid g i:Nat)
 |oe (cid g i j:Nat) (p:List jY)
 |bm (f id:Nat)
 |co (cid t off:Nat) (m:Mode) (k:K) (xs:List k.T)
inductive AV where
 |undef
 |val (g:Bool) (cs:List S)
 |tup (vs:List (Bool×List S))
inductive Obj where
 |row (k:K) (xs:List k.T) (gen:Nat) (hist:List (List k.T)) (frz:Bool)
 |box (cs:List S)
 |mp (k:K) (es:List (Int×k.T))
 |col (t off:Nat) (m:Mode) (k:K) (xs:List k.T) (g:Nat) (pend:Option Nat)
 |fm (es:List (Int×Nat×Nat))
def aX (t off:Nat):Nat:=1048576+t*64+off
structure St where
 env:List (Nat×AV)
 heap:List (Nat×Obj)
def look:List (Nat×AV)->Nat->AV
 |[],_=>.undef
 |(t,v)::r,u=>bif Nat.beq t u then v else look r u
def hget:List (Nat×Obj)->Nat->Option Obj
 |[],_=>none
 |(t,v)::r,u=>bif Nat.beq t u then some v else hget r u
def hput (h:List (Nat×Obj))(u:List (Nat×Obj)):List (Nat×Obj):=u++h
def put (e:List (Nat×AV))(d:Option Nat)(v:AV):List (Nat×AV):=
 match d with
 |some t=>(t,v)::e
 |none=>e
def bg:(k:K)->k.T->List S
 |.int k,n=>[.int k n]
 |.bool,b=>[.bool b]
 |.str,s=>[.str s]
 |.err,e=>[.err e]
 |.fn,f=>[.fn f]
 |.ref t,r=>[.ref t r]
 |.slice e,xs=>[.sl e xs]
 |.prod a b,x=>bg a x.1++bg b x.2
 |.strct a,x=>bg a x
def inj (k:K)(x:k.T):AV:=.val k.isAgg (bg k x)
def cst (k k':K)(xs:List k.T):Option (List k'.T):=if h:k=k' then some (h ▸ xs)else none
inductive RowV where
 |none
 |nil
 |some (k:K) (xs:List k.T)
def yV {α:Type}(xs:List α)(gen:Nat)(hist:List (List α))(g:Nat):Option (List α):=bif Nat.beq g gen then some xs else hist[gen-1-g]?
def cZ (hp:Nat->Option Obj):S->RowV
 |.nilS=>.nil
 |.sl k xs=>.some k xs
 |.vw id g=>match hp id with
  |some (.row k xs gen hist _)=>(match yV xs gen hist g with|some ys=>.some k ys|none=>.none)
  |_=>.none
 |.pv id g off len=>match hp id with
  |some (.row k xs gen _ _)=>bif Nat.beq g gen then .some k ((xs.drop off).take len)else .none
  |_=>.none
 |_=>.none
def S.ids:S->List Nat
 |.vw id _| .pv id _ _ _| .ptr id _ _ _| .mp id| .bm _ id| .ov id _ _| .oe id _ _ _ _=>[id]
 |.rp t _ off=>[aX t off]
 |_=>[]
def ba:List S->List Nat
 |[]=>[]
 |s::r=>s.ids++ba r
def AV.ids:AV->List Nat
 |.undef=>[]
 |.val _ cs=>ba cs
 |.tup vs=>vs.foldr (λv r=>ba v.2++r) []
def rei (hp:Nat->Option Obj):(k:K)->List S->Option (k.T×List S)
 |.int k,.int k' n::r=>bif decide (k'=k)then some (n,r)else none
 |.bool,.bool b::r=>some (b,r)
 |.str,.str s::r=>some (s,r)
 |.err,.err e::r=>some (e,r)
 |.fn,.fn f::r=>some (f,r)
 |.ref t,.ref t' x::r=>bif Nat.beq t' t then some (x,r)else none
 |.ref t,.rb t' i::r=>bif Nat.beq t' t then some (some i,r)else none
 |.ref _,.nilP::r=>some (none,r)
 |.slice e,s::r=>match cZ hp s with
  |.nil=>some ([],r)
  |.some k xs=>(match cst k e xs with|some ys=>some (ys,r)|none=>none)
  |.none=>none
 |.prod a b,cs=>match rei hp a cs with
  |some (x,r)=>(match rei hp b r with|some (y,r')=>some ((x,y),r')|none=>none)
  |none=>none
 |.strct a,cs=>rei hp a cs
 |_,_=>none
def rei1 (hp:Nat->Option Obj)(k:K)(cs:List S):Option k.T:=
 match rei hp k cs with
 |some (x,[])=>some x
 |_=>none
def bytesOf (b:ByteArray):List Int:=b.data.toList.map (λc=>(c.toNat:Int))
def okB (k:IntKind)(n:Int):Bool:=match k with| .u8=>decide (0<=n)&&decide (n<256)|_=>true
def ofV:Value->S
 |.bool b=>.bool b
 |.int k n=>bif okB k n then .int k n else .undef
 |.string s=>.str (bytesOf s)
 |.slice none 0 0=>.nilS
 |.nilIface=>.err none
 |.nilFunc=>.fn none
 |.func (.func f) ⟨[]⟩ ⟨[]⟩=>.fn (some f)
 |.pointer none=>.nilP
 |_=>.undef
def one:Value->Bool
 |.agg _| .tuple _=>false
 |_=>true
def Fc (cs:List Value):Option (List S):=bif cs.all one then some (cs.map ofV)else none
def qN:Value->AV
 |.agg cs=>match Fc cs.toList with|some l=>.val true l|none=>.undef
 |.tuple _=>.undef
 |v=>.val false [ofV v]
def Mq (env:List (Nat×AV)):Operand->AV
 |.tmp t=>look env t
 |.const v=>qN v
 |.func f=>.val false [.fn (some f)]
 |.global _=>.undef
def inb (i:Int)(n:Nat):Bool:=decide (0<=i)&&decide (i<(n:Int))
def cH (i:Int):List Int->Int
 |[]=>0
 |[n]=>n
 |n::r=>bif decide (i=0)then n else cH (i-1) r
def vh (i:Int):List Bool->Bool
 |[]=>false
 |[n]=>n
 |n::r=>bif decide (i=0)then n else vh (i-1) r
def uU (k:IntKind):List S->Option (List Int)
 |[]=>some []
 |.int k' n::r=>bif decide (k'=k)then(match uU k r with|some l=>some (n::l)|none=>none)else none
 |_=>none
def oV:List S->Option (List Bool)
 |[]=>some []
 |.bool n::r=>(match oV r with|some l=>some (n::l)|none=>none)
 |_=>none
def selS (i:Int):List S->Option S
 |.int k n::r=>match uU k r with|some l=>some (.int k (cH i (n::l)))|none=>none
 |.bool n::r=>match oV r with|some l=>some (.bool (vh i (n::l)))|none=>none
 |_=>none
def selC (i:Int):Nat->List (List S)->Option (List S)
 |0,_=>some []
 |m+1,cs=>match selS i (cs.map (·.headD .undef)),selC i m (cs.map (·.tail))with
  |some s,some r=>some (s::r)
  |_,_=>none
def pz (sz:Nat):Nat->List S->List (List S)
 |0,_=>[]
 |n+1,cs=>cs.take sz::pz sz n (cs.drop sz)
def getP:List jY->List S->Option (List S)
 |[],cs=>some cs
 |.fld off::p,cs=>getP p (cs.drop off)
 |.idx n sz i::p,cs=>match selC i sz (pz sz n cs)with
  |some c=>getP p c
  |none=>none
def mixS (c:Bool):S->S->Option S
 |.int k n,.int k' m=>bif decide (k=k')then some (.int k (bif c then n else m))else none
 |.bool n,.bool m=>some (.bool (bif c then n else m))
 |_,_=>none
def mixL (c:Bool):List S->List S->Option (List S)
 |[],[]=>some []
 |a::r,b::s=>match mixS c a b,mixL c r s with
  |some x,some y=>some (x::y)
  |_,_=>none
 |_,_=>none
def over:List S->List S->List S
 |[],cs=>cs
 |x::r,_::cs=>x::over r cs
 |_::_,[]=>[]
def EC (f:List S->Option (List S))(i:Int)(sz:Nat):Nat->Int->List S->Option (List S)
 |0,_,cs=>some cs
 |n+1,j,cs=>bif Nat.ble sz cs.length then(match f (cs.take sz)with
  |some c=>(match mixL (decide (i=j)) c (cs.take sz),EC f i sz n (j+1) (cs.drop sz)with
   |some x,some y=>some (x++y)
   |_,_=>none)
  |none=>none)else none
def setP:List jY->List S->List S->Option (List S)
 |[],new,cs=>bif Nat.ble new.length cs.length then some (over new cs)else none
 |.fld off::p,new,cs=>bif Nat.ble off cs.length then(match setP p new (cs.drop off)with
  |some r=>some (cs.take off++r)
  |none=>none)else none
 |.idx n sz i::p,new,cs=>EC (setP p new) i sz n 0 cs
def LS:List K->Option K
 |[]=>none
 |[k]=>some k
 |k::r=>match LS r with|some q=>some (.prod k q)|none=>none
def hP {α:Type}:List (Option α)->Option (List α)
 |[]=>some []
 |some a::r=>(match hP r with|some l=>some (a::l)|none=>none)
 |none::_=>none
def Jp (ks:List (Option K)):Option K:=
 match hP ks with
 |some l=>(match LS l with|some k=>some (.strct k)|none=>none)
 |none=>none
def BV (P:Program):Nat->TypeId->Option K
 |0,_=>none
 |d+1,t=>match P.underlying t with
  |some (.int k)=>some (.int k)
  |some .bool=>some .bool
  |some .string=>some .str
  |some (.slice e)=>(match BV P d e with|some k=>some (.slice k)|none=>none)
  |some (.struct fs)=>Jp (fs.toList.map λf=>BV P d f.type)
  |some (.array n e)=>Jp (List.replicate n (BV P d e))
  |some (.interface _)=>some .err
  |some (.func ..)=>some .fn
  |some (.pointer _)=>some (.ref t)
  |_=>none
def kd (P:Program)(t:TypeId):Option K:=BV P 8 t
def oO (P:Program)(t:TypeId):Option TypeId:=
 match P.underlying t with
 |some (.slice e)=>some e
 |_=>none
def aggT (P:Program)(t:TypeId):Option Bool:=
 match P.underlying t with
 |some (.struct _)=>some true
 |some (.array ..)=>some true
 |some _=>some false
 |none=>none
def dw (P:Program)(t:TypeId):Option Nat:=
 match P.info? t with
 |some i=>some i.size
 |none=>none
def valT (P:Program)(t:TypeId)(cs:List S):Option AV:=
 match aggT P t,dw P t with
 |some true,some n=>bif Nat.ble n cs.length then some (.val true (cs.take n))else none
 |some false,some n=>(match cs with|c::_=>bif Nat.beq n 1 then some (.val false [c])else none|[]=>none)
 |_,_=>none
def uW (P:Program)(t:TypeId):Option (List Value):=
 match P.info? t with
 |some i=>(match i.zero with|some v=>bif v.cells.toList.all one then some v.cells.toList else none|none=>none)
 |none=>none
def iG (P:Program)(t:TypeId):Nat:=
 match P.info? t with
 |some i=>i.bytes
 |none=>0
def ie:K->List Value->Option (List Value)
 |.int k,.int k' n::r=>bif decide (k'=k)&&decide (n=0)then some r else none
 |.bool,.bool b::r=>bif b then none else some r
 |.str,.string s::r=>bif decide (s.data.toList.length=0)then some r else none
 |.err,.nilIface::r=>some r
 |.fn,.nilFunc::r=>some r
 |.ref _,.pointer none::r=>some r
 |.slice _,.slice none 0 0::r=>some r
 |.prod a b,cs=>match ie a cs with|some r=>ie b r|none=>none
 |.strct a,cs=>ie a cs
 |_,_=>none
def Bd (k:K)(cs:List Value):Bool:=match ie k cs with|some []=>true|_=>false
def Gm (f:TypeId->Option (List K))(sz:TypeId->Option Nat):Nat->List Field->Option (List K)
 |_,[]=>some []
 | off, x :: r => bif Nat.beq x.offset off && !(x.name == "_") then
   (match f x.type,sz x.type with
   |some ks,some n=>bif Nat.beq n ks.length then(match Gm f sz (off+ks.length) r with|some l=>some (ks++l)|none=>none)else none
   |_,_=>none)else none
def flat (P:Program):Nat->TypeId->Option (List K)
 |0,_=>none
 |d+1,t=>match P.underlying t with
  |some (.int k)=>some [.int k]
  |some .bool=>some [.bool]
  |some .string=>some [.str]
  |some (.struct fs)=>bif P.stoodInHeld t then none else Gm (flat P d) (dw P) 0 fs.toList
  |some (.array n e)=>(match flat P d e,dw P e with
   |some ks,some s=>bif Nat.beq s ks.length then some (List.replicate n ks).flatten else none
   |_,_=>none)
  |_=>none
def aQ:List K->List S->List S->Option Bool
 |[],[],[]=>some true
 |.int k::ks,.int a x::r,.int b y::s=>bif decide (a=k)&&decide (b=k)then(match aQ ks r s with|some c=>some (decide (x=y)&&c)|none=>none)else none
 |.bool::ks,.bool x::r,.bool y::s=>(match aQ ks r s with|some c=>some ((x==y)&&c)|none=>none)
 |.str::ks,.str x::r,.str y::s=>(match aQ ks r s with|some c=>some (decide (x=y)&&c)|none=>none)
 |_,_,_=>none
structure Ann where
 te:TypeId
 own:Nat->List Bool:=λ_=>[]
 mv:Nat->List Bool:=λ_=>[]
 prom:Nat->List Nat:=λ_=>[]
 keep:Nat->Nat->List Nat:=λ_ _=>[]
 nils:Nat->List Nat:=λ_=>[]
 cut:Nat->Nat->Option (List Nat):=λ_ _=>none
 cols:Nat->List Nat:=λ_=>[]
 man:Nat->List (Nat×Mode×K):=λ_=>[]
 recv:Nat->Nat:=λ_=>0
structure Sig where
 res:List (Bool×K)
 io:List K
@[reducible] def Ts:List K->Type
 |[]=>Unit
 |[k]=>k.T
 |k::k'::r=>k.T×Ts (k'::r)
@[reducible] def KW:List (Bool×K)->List K->List K
 |[],l=>l
 |(_,k)::r,l=>k::KW r l
@[reducible] def Sig.ks (s:Sig):List K:=KW s.res s.io
@[reducible] def Sig.R (s:Sig):Type:=Ts s.ks
theorem BU:∀(r:List (Bool×K))(l:List K),KW r l=r.map (·.2)++l
 |[],_=>rfl
 |(_,k)::r,l=>congrArg (k::·) (BU r l)
theorem Sig.ks_eq (s:Sig):s.ks=s.res.map (·.2)++s.io:=BU _ _
def lvs:(ks:List K)->Ts ks->List (Bool×List S)
 |[],_=>[]
 |[k],x=>[(k.isAgg,bg k x)]
 |k::k'::r,x=>(k.isAgg,bg k x.1)::lvs (k'::r) x.2
abbrev Upd:=List (Nat×Obj)
inductive Out where
 |bad
 |ok (c:Bool) (v:AV) (u:Upd)
 |okm (c:Bool) (v:AV) (u:Upd)
 |call (c:Bool) (sg:Sig) (f:Nat) (args:List AV) (post:sg.R->AV×Upd)
def lim:Nat:=211106232532992
def b7 (k:IntKind)(op:BinOp)(x y:Int):Int:=
 let a:=BitVec.ofInt k.bits x
 let b:=BitVec.ofInt k.bits y
 k.wrap (match op with
  |.and=>(a &&& b).toNat
  |.or=>(a ||| b).toNat
  |.xor=>(a ^^^ b).toNat
  |_=>(a &&& ~~~b).toNat:Nat)
def okv (s:S):Out:=.ok true (.val false [s]) []
def cmpI (op:BinOp)(x y:Int):Option Bool:=
 match op with
 |.eql=>some (decide (x=y))
 |.neq=>some (!decide (x=y))
 |.lss=>some (decide (x<y))
 |.leq=>some (decide (x<=y))
 |.gtr=>some (decide (y<x))
 |.geq=>some (decide (y<=x))
 |_=>none
def bw:Operand->Bool
 |.const .nilIface| .const .nilFunc=>true
 |_=>false
def FH (P:Program)(t:TypeId):Bool:=match P.underlying t with|some (.pointer _)=>true|_=>false
def E3:S->Option Bool
 |.nilP=>some true
 |.ref _ r=>some (!r.isSome)
 |.rb _ _=>some false
 |_=>none
def binP (P:Program)(op:BinOp)(t:TypeId)(x y:S):Out:=
 bif FH P t then(match E3 x,y with
  |some b,.nilP=>(match op with| .eql=>okv (.bool b)| .neq=>okv (.bool (!b))|_=>.bad)
  |_,_=>.bad)else .bad
def binS (P:Program)(op:BinOp)(t:TypeId)(xo yo:Operand):S->S->Out
 |.int k x,.int k' y=>match op with
  |.shl=>.ok (decide (0<=y)) (.val false [.int k (k.wrap (x*2^(min y.toNat k.bits)))]) []
  |.shr=>.ok (decide (0<=y)) (.val false [.int k (x.fdiv (2^(min y.toNat k.bits)))]) []
  |op=>bif decide (k=k')then(match op with
   |.add=>okv (.int k (k.wrap (x+y)))
   |.sub=>okv (.int k (k.wrap (x-y)))
   |.mul=>okv (.int k (k.wrap (x*y)))
   |.quo=>.ok (!decide (y=0)) (.val false [.int k (k.wrap (x.tdiv y))]) []
   |.rem=>.ok (!decide (y=0)) (.val false [.int k (x.tmod y)]) []
   |.and=>okv (.int k (b7 k .and x y))
   |.or=>okv (.int k (b7 k .or x y))
   |.xor=>okv (.int k (b7 k .xor x y))
   |.andNot=>okv (.int k (b7 k .andNot x y))
   |op=>(match cmpI op x y with|some b=>okv (.bool b)|none=>.bad))else .bad
 |.str x,.str y=>match op with
  |.add=>.ok (decide (x.length+y.length<9223372036854775808)) (.val false [.str (x++y)]) []
  |.eql=>okv (.bool (decide (x=y)))
  |.neq=>okv (.bool (!decide (x=y)))
  |_=>.bad
 |.bool x,.bool y=>match P.underlying t with
  |some .bool=>(match op with
   |.eql=>okv (.bool (x==y))
   |.neq=>okv (.bool (!(x==y)))
   |_=>.bad)
  |_=>.bad
 |.err x,.err y=>match P.underlying t with
  |some (.interface _)=>bif bw yo then(match op with| .eql=>okv (.bool (!x.isSome))| .neq=>okv (.bool x.isSome)|_=>.bad)
    else bif bw xo then(match op with| .eql=>okv (.bool (!y.isSome))| .neq=>okv (.bool y.isSome)|_=>.bad)else .bad
  |_=>.bad
 |.fn x,.fn y=>match P.underlying t with
  |some (.func ..)=>bif bw yo then(match op with| .eql=>okv (.bool (!x.isSome))| .neq=>okv (.bool x.isSome)|_=>.bad)else .bad
  |_=>.bad
 |.bm _ _,.fn _=>match P.underlying t with
  |some (.func ..)=>bif bw yo then(match op with| .eql=>okv (.bool false)| .neq=>okv (.bool true)|_=>.bad)else .bad
  |_=>.bad
 |x,y=>binP P op t x y
def K1 (P:Program)(t:TypeId):Bool:=match P.underlying t with|some (.int .i64)=>true|_=>false
def GM (P:Program)(te:TypeId)(op:BinOp)(t:TypeId)(x y:Option Int):Out:=
 match P.underlying t,P.info? te with
 |some (.interface _),some i=>bif i.comparable&&K1 P te then(match op with
  |.eql=>.ok (x.isSome || y.isSome) (.val false [.bool (decide (x=y))]) []
  |.neq=>.ok (x.isSome || y.isSome) (.val false [.bool (!decide (x=y))]) []
  |_=>.bad)else .bad
 |_,_=>.bad
def binA (P:Program)(op:BinOp)(t:TypeId)(x y:List S):Out:=
 bif P.eqGuardType P.depth t then .bad else
 match flat P 8 t,aggT P t with
 |some ks,some true=>(match aQ ks x y with
  |some b=>(match op with| .eql=>okv (.bool b)| .neq=>okv (.bool (!b))|_=>.bad)
  |none=>.bad)
 |_,_=>.bad
def frzU (hp:Nat->Option Obj):List Nat->Option Upd
 |[]=>some []
 |id::r=>match hp id,frzU hp r with
  |some (.row k xs gen hist _),some u=>some ((id,.row k xs gen hist true)::u)
  |_,_=>none
def slot (a:Operand)(env:Operand->AV):Option S:=match env a with| .val false [s]=>some s|_=>none
def Av (size:Nat->Option (Nat×Nat))(env:Operand->AV):List (Nat×Operand)->List S->Option (List S)
 |[],cs=>some cs
 |(i,x)::r,cs=>match size i,env x with
  |some (off,sz),.val _ new=>bif Nat.beq new.length sz then(match setP [.fld off] new cs with|some cs'=>Av size env r cs'|none=>none)else none
  |_,_=>none
def fieldAt (P:Program)(fs:Array Field)(i:Nat):Option (Nat×Nat):=
 match fs[i]? with
 |some f=>(match dw P f.type with|some s=>some (f.offset,s)|none=>none)
 |none=>none
def reiN (hp:Nat->Option Obj)(k:K):Nat->List S->Option (List k.T)
 |0,[]=>some []
 |0,_=>none
 |n+1,cs=>match rei hp k cs with
  |some (x,r)=>(match reiN hp k n r with|some l=>some (x::l)|none=>none)
  |none=>none
def loadAt (hp:Nat->Option Obj):S->Option (List S)
 |.ptr id g i p=>match hp id with
  |some (.box cs)=>bif Nat.beq g 0&&Nat.beq i 0 && !cs.isEmpty then getP p cs else none
  |some (.row k xs gen _ _)=>bif Nat.beq g gen then getP p (bg k (xs.getD i k.dflt))else none
  |_=>none
 |.ipt k x p=>getP p (bg k x)
 |.rp t i off=>match hp (aX t off)with
  |some (.col t' off' m k xs g none)=>bif Nat.beq t' t&&Nat.beq off' off then(match m with
   |.dat=>some (bg k (xs.getD i k.dflt))
   |_=>some [.ov (aX t off) g i])else none
  |_=>none
 |.oe cid g i j p=>match hp cid with
  |some (.col _ _ .own (.slice e) xs g' _)=>bif Nat.beq g g' then getP p (bg e ((xs.getD i []).getD j e.dflt))else none
  |_=>none
 |_=>none
def zy (hp:Nat->Option Obj):S->RowV
 |.ov cid g i=>match hp cid with
  |some (.col _ _ .own (.slice e) xs g' _)=>bif Nat.beq g g' then .some e (xs.getD i [])else .none
  |_=>.none
 |s=>cZ hp s
def qF (hp:Nat->Option Obj):S->Bool
 |.ptr id g i _=>match hp id with
  |some (.box cs)=>Nat.beq g 0&&Nat.beq i 0 && !cs.isEmpty
  |some (.row _ _ gen _ _)=>Nat.beq g gen
  |_=>false
 |.ipt ..=>true
 |.rb ..=>true
 |.rp ..=>true
 |.oe cid g _ _ _=>match hp cid with
  |some (.col _ _ _ (.slice _) _ g' _)=>Nat.beq g g'
  |_=>false
 |_=>false
def jX (s:jY):S->Option S
 |.ptr id g i p=>some (.ptr id g i (p++[s]))
 |.ipt k x p=>some (.ipt k x (p++[s]))
 |.rb t i=>(match s with| .fld off=>some (.rp t i off)|_=>none)
 |.oe cid g i j p=>some (.oe cid g i j (p++[s]))
 |_=>none
def fresh (hp:Nat->Option Obj)(d:Option Nat):Option Nat:=
 match d with
 |some id=>(match hp id with|none=>some id|some _=>none)
 |none=>none
def bU (env:Operand->AV)(d:Int):Option Operand->Option Int
 |none=>some d
 |some x=>match slot x env with|some (.int _ n)=>some n|_=>none
def tK (hp:Nat->Option Obj)(sz:Nat)(env:Operand->AV)(lo hi:Option Operand)(s:S):Out:=
 match s,lo,hi with
 |s,none,none=>(match cZ hp s with| .none=>.bad|_=>okv s)
 |.nilS,_,_=>(match bU env 0 lo,bU env 0 hi with
  |some l,some h=>.ok (decide (l=0)&&decide (h=0)) (.val false [.nilS]) []
  |_,_=>.bad)
 |.sl k xs,none,some _=>(match bU env 0 hi with
  |some h=>bif !Nat.beq sz k.size then .bad else .ok (decide (0<=h)&&decide (h<=(xs.length:Int))) (.val false [.sl k (xs.take h.toNat)]) []
  |_=>.bad)
 |.sl k xs,some _,none=>(match bU env 0 lo with
  |some l=>bif !Nat.beq sz k.size then .bad else .ok (decide (0<=l)&&decide (l<=(xs.length:Int))) (.val false [.sl k (xs.drop l.toNat)]) []
  |_=>.bad)
 |.sl k xs,some _,some _=>(match bU env 0 lo,bU env 0 hi with
  |some l,some h=>bif !Nat.beq sz k.size then .bad else .ok (decide (0<=l)&&decide (l<=h)&&decide (h<=(xs.length:Int))) (.val false [.sl k ((xs.drop l.toNat).take (h.toNat-l.toNat))]) []
  |_,_=>.bad)
 |.vw id g,lo,hi=>(match cZ hp (.vw id g)with
  |.some k xs=>(match bU env 0 lo,bU env xs.length hi with
   |some l,some h=>bif !Nat.beq sz k.size then .bad else .ok (decide (0<=l)&&decide (l<=h)&&decide (h<=(xs.length:Int))) (.val false [.pv id g l.toNat (h.toNat-l.toNat)]) []
   |_,_=>.bad)
  |_=>.bad)
 |.pv id g off len,lo,hi=>(match cZ hp (.pv id g off len)with
  |.some k _=>(match bU env 0 lo,bU env len hi with
   |some l,some h=>bif !Nat.beq sz k.size then .bad else .ok (decide (0<=l)&&decide (l<=h)&&decide (h<=(len:Int))) (.val false [.pv id g (l.toNat+off) (h.toNat-l.toNat)]) []
   |_,_=>.bad)
  |_=>.bad)
 |_,_,_=>.bad
def pe (hp:Nat->Option Obj)(k:K):S->Option (List k.T)
 |.str s=>cst (.int .u8) k s
 |s=>match zy hp s with
  |.nil=>some []
  |.some k' xs=>cst k' k xs
  |.none=>none
def fF (P:Program)(e:TypeId)(k:K):Bool:=
 match dw P e,uW P e with
 |some s,some z=>Nat.beq s k.size&&Nat.beq z.length k.size&&Nat.ble (iG P e) 1000000&&Nat.ble 1 (iG P e)
 |_,_=>false
def oU (P:Program)(hp:Nat->Option Obj)(dst:Option Nat)(e:TypeId):S->S->Out
 |.nilS,x=>match kd P e,fresh hp dst with
  |some k,some d=>bif !fF P e k then .bad else(match pe hp k x with
   |some ys=>.ok (decide (ys.length*iG P e<=lim)) (.val false [.vw d 0]) [(d,.row k ys 0 [] false)]
   |none=>.bad)
  |_,_=>.bad
 |.vw id g,x=>match hp id with
  |some (.row k xs gen hist false)=>bif Nat.beq g gen&&decide (kd P e=some k)&&fF P e k then(match pe hp k x with
   |some ys=>.ok (decide ((xs.length+ys.length)*iG P e<=lim)) (.val false [.vw id (gen+1)]) [(id,.row k (xs++ys) (gen+1) (xs::hist) false)]
   |none=>.bad)else .bad
  |_=>.bad
 |.ov cid g i,x=>match hp cid,fresh hp dst with
  |some (.col t off .own (.slice k) xs g' none),some _=>bif Nat.beq g g'&&decide (kd P e=some k)&&fF P e k then(match pe hp k x with
   |some ys=>.okm (decide ((((xs.getD i []):List k.T).length+ys.length)*iG P e<=lim)) (.val false [.ov cid (g+1) i]) [(cid,.col t off .own (.slice k) (xs.set i ((xs.getD i []:List k.T)++ys)) (g+1) (some i))]
   |none=>.bad)else .bad
  |_,_=>.bad
 |_,_=>.bad
structure Hand where
 arg:AV
 frz:List Nat
 mv:List Nat
 io:List (Nat×K)
def vU (P:Program)(hp:Nat->Option Obj)(t:TypeId)(g:Bool)(cs:List S):Option Hand:=
 match kd P t with
 |some k=>bif g==k.isAgg then(match rei1 hp k cs with|some x=>some ⟨inj k x,ba cs,[],[]⟩|none=>none)else none
 |none=>none
def gE (P:Program)(hp:Nat->Option Obj)(mv:Bool)(t:TypeId):AV->Option Hand
 |.val false [.nilS]=>bif mv then(match oO P t with
   |some e=>(match kd P e with|some k=>some ⟨.val false [.mv k []],[],[],[]⟩|none=>none)
   |none=>none)else vU P hp t false [.nilS]
 |.val false [.vw id g]=>bif mv then(match hp id with
   |some (.row k xs gen _ false)=>bif Nat.beq g gen then some ⟨.val false [.mv k xs],[],[id],[]⟩else none
   |_=>none)else vU P hp t false [.vw id g]
 |.val false [.ptr id g i p]=>bif p.isEmpty then(match hp id,P.underlying t with
  |some (.box cs),some (.pointer e)=>bif !cs.isEmpty&&Nat.beq g 0&&Nat.beq i 0 then(match kd P e with
   |some k=>(match rei1 hp k cs with|some x=>some ⟨.val false [.io k x],ba cs,[],[(id,k)]⟩|none=>none)
   |none=>none)else none
  |_,_=>none)else none
 |.val false [.ipt k x p]=>some ⟨.val false [.ipt k x p],[],[],[]⟩
 |.val g cs=>vU P hp t g cs
 |_=>none
def lG (P:Program)(hp:Nat->Option Obj):List Bool->List TypeId->List AV->Option (List Hand)
 |_,_,[]=>some []
 |m,t::ts,a::r=>match gE P hp (m.headD false) t a,lG P hp m.tail ts r with
  |some h,some hs=>some (h::hs)
  |_,_=>none
 |_,[],_::_=>none
def resT (P:Program)(t:TypeId):Option (Bool×List K):=
 match P.underlying t with
 |some (.tuple ts)=>(match hP (ts.toList.map (kd P))with|some l=>some (true,l)|none=>none)
 |_=>match kd P t with|some k=>some (false,[k])|none=>none
def iM:List Bool->List K->List (Bool×K)
 |_,[]=>[]
 |o,k::r=>(o.headD false,k)::iM o.tail r
def dO (d:Option Nat):List Bool->List (Bool×List S)->Option (List (Bool×List S)×Upd)
 |true::o,(_,[.sl k xs])::r=>match d,dO none o r with
  |some id,some (l,u)=>some ((false,[.vw id 0])::l,(id,.row k xs 0 [] false)::u)
  |_,_=>none
 |_::o,v::r=>match dO d o r with|some (l,u)=>some (v::l,u)|none=>none
 |_,[]=>some ([],[])
 |[],v::r=>match dO d [] r with|some (l,u)=>some (v::l,u)|none=>none
def ia:List (Nat×K)->List (Bool×List S)->Upd
 |(id,_)::r,(_,cs)::l=>(id,.box cs)::ia r l
 |_,_=>[]
def oneV:List (Bool×List S)->AV
 |[(g,cs)]=>.val g cs
 |_=>.undef
def j3 (tup:Bool)(d:Option Nat)(own:List Bool)(n:Nat)(io:List (Nat×K))(vs:List (Bool×List S)):AV×Upd:=
 match dO d own (vs.take n)with
 |some (l,u)=>((bif tup then .tup l else oneV l),u++ia io (vs.drop n))
 |none=>(.undef,ia io (vs.drop n))
def lf (o:List Bool):Nat:=o.foldr (λb n=>bif b then n+1 else n) 0
def E6:List Bool->List K->Bool
 |true::o,.slice _::r=>E6 o r
 |true::_,_=>false
 |false::o,_::r=>E6 o r
 |[],_=>true
 |false::_,[]=>true
def BY:AV->Bool
 |.val false [.ptr ..]=>true
 |_=>false
def eC (args:List AV):Bool:=args.any BY
def nC (ids:List Nat):Upd:=ids.map λid=>(id,.box [])
def disj (a b:List Nat):Bool:=a.all λx=>!b.contains x
def Hand.excl (h:Hand):List Nat:=h.mv++h.io.map (·.1)
def exOk:List (List Nat×List Nat)->Bool
 |[]=>true
 |p::r=>(r.all λq=>disj p.1 q.2&&disj q.1 p.2)&&exOk r
def DU:List AV->List Hand->List (List Nat×List Nat)
 |a::as,h::hs=>(h.excl,a.ids++h.frz)::DU as hs
 |_,_=>[]
def dupF:List Nat->Bool
 |[]=>true
 |x::r=>!(r.contains x)&&dupF r
def Mz (hp:Nat->Option Obj)(cid:Nat):Option (AV×K):=
 match hp cid with
 |some (.col t off m k xs _ none)=>some (.val false [.co cid t off m k xs],.slice k)
 |_=>none
def yX (hp:Nat->Option Obj):List Nat->Option (List (AV×K))
 |[]=>some []
 |cid::r=>match Mz hp cid,yX hp r with
  |some a,some l=>some (a::l)
  |_,_=>none
def wL (hp:Nat->Option Obj):List Nat->List (Bool×List S)->Upd
 |cid::r,p::l=>(match hp cid,p.2 with
  |some (.col t off m k _ g _),[.sl k' xs']=>(match cst k' k xs' with
   |some ys=>(cid,.col t off m k ys (g+1) none)::wL hp r l
   |none=>wL hp r l)
  |_,_=>wL hp r l)
 |_,_=>[]
def gX (P:Program)(hp:Nat->Option Obj)(dst:Option Nat)(ty:TypeId)(own mvs:List Bool)(cids:List Nat)(c:Bool)(f:Nat)(ats:List TypeId)(args:List AV):Out:=
 match resT P ty,lG P hp mvs ats args,yX hp cids with
 |some (tup,ks),some hs,some cos=>
  let fz:=hs.flatMap Hand.frz
  let mv:=hs.flatMap Hand.mv
  let io:=hs.flatMap Hand.io
  bif E6 own ks&&Nat.ble (lf own) 1&&(Nat.beq (lf own) 0 || (fresh hp dst).isSome)&&exOk (DU args hs)&&hs.all (λh=>disj h.excl h.frz)&&(tup == !(Nat.beq ks.length 1))&&dupF cids then
   (match(bif ks.any K.rows || eC args || !cids.isEmpty then frzU hp fz else some [])with
   |some u=>.call c ⟨iM own ks,io.map (·.2)++cos.map (·.2)⟩ f (hs.map Hand.arg++cos.map (·.1)) (λr=>let p:=j3 tup dst own ks.length io (lvs _ r);(p.1,p.2++(wL hp cids ((lvs _ r).drop (ks.length+io.length))++(nC mv++u))))
   |none=>.bad)else .bad
 |_,_,_=>.bad
def minI (a b:Int):Int:=bif decide (b<a)then b else a
def maxI (a b:Int):Int:=bif decide (a<b)then b else a
def rZ (f:Int->Int->Int)(k:IntKind):Int->List AV->Option Int
 |n,[]=>some n
 |n,.val false [.int k' m]::r=>bif decide (k'=k)then rZ f k (f n m) r else none
 |_,_=>none
def lenS (P:Program)(hp:Nat->Option Obj)(t:TypeId)(s:S):Out:=
 match P.underlying t with
 |some .string=>(match s with| .str x=>okv (.int .i64 x.length)|_=>.bad)
 |some (.slice _)=>(match zy hp s with
  |.nil=>okv (.int .i64 0)
  |.some _ xs=>okv (.int .i64 xs.length)
  |.none=>.bad)
 |_=>.bad
def appB (P:Program)(hp:Nat->Option Obj)(dst:Option Nat)(t t2:TypeId)(s x:S):Out:=
 match oO P t,P.underlying t2 with
 |some e,some (.slice _)=>oU P hp dst e s x
 |some e,some .string=>oU P hp dst e s x
 |_,_=>.bad
def DJ (f:Int->Int->Int):List AV->Out
 |.val false [.int k n]::r=>(match rZ f k n r with|some m=>okv (.int k m)|none=>.bad)
 |_=>.bad
def Db:AV->Option S
 |.val false [s]=>some s
 |_=>none
def cx {α:Type}:List (Int×α)->Int->List (Int×α)
 |[],_=>[]
 |e::r,n=>bif decide (e.1=n)then r else e::cx r n
def delS (P:Program)(hp:Nat->Option Obj)(t:TypeId)(x:S)(n:Int):Out:=
 match x,P.underlying t with
 |.ov cid g i,some (.map kt _)=>(match hp cid,P.underlying kt with
  |some (.col t' off .mp (.slice (.prod (.int .i64) (.ref e))) xs g' p),some (.int .i64)=>bif Nat.beq g g' then .okm true .undef [(cid,.col t' off .mp (.slice (.prod (.int .i64) (.ref e))) (xs.set i (cx (xs.getD i []) n)) (g'+1) p)]else .bad
  |_,_=>.bad)
 |_,_=>.bad
def jW (P:Program)(hp:Nat->Option Obj)(dst:Option Nat)(b:Builtin)(ats:List TypeId)(args:List AV):Out:=
 match b with
 |.len=>(match ats[0]?,args with
  |some t,[a]=>(match Db a with|some s=>lenS P hp t s|none=>.bad)
  |_,_=>.bad)
 |.append=>(match ats[0]?,ats[1]?,args with
  |some t,some t2,[a,b]=>(match Db a,Db b with|some s,some x=>appB P hp dst t t2 s x|_,_=>.bad)
  |_,_,_=>.bad)
 |.min=>DJ minI args
 |.max=>DJ maxI args
 |.delete=>(match ats[0]?,args with
  |some t,[a,.val false [.int .i64 n]]=>(match Db a with|some x=>delS P hp t x n|none=>.bad)
  |_,_=>.bad)
 |_=>.bad
def aO {α:Type}(d:α):List (Int×α)->Int->α
 |[],_=>d
 |e::r,n=>bif decide (e.1=n)then e.2 else aO d r n
def aR {α:Type}:List (Int×α)->Int->α->List (Int×α)
 |[],n,x=>[(n,x)]
 |e::r,n,x=>bif decide (e.1=n)then(n,x)::r else e::aR r n x
def zr:K->Bool
 |.int _=>true
 |.bool=>true
 |.ref _=>true
 |_=>false
def C5 (P:Program)(e:TypeId)(k:K):Bool:=match P.info? e with
 |some i=>(match k,i.zero with
  |.int kk,some (.int k' n)=>decide (kk=k')&&decide (n=0)
  |.bool,some (.bool b)=>!b
  |.ref _,some (.pointer none)=>true
  |_,_=>false)
 |none=>false
def fB (hp:Nat->Option Obj)(t:Nat)(cs:List S)(d:Nat×Mode×K):Option (Nat×(Nat×Obj)×List Nat×List Nat):=
 match hp (aX t d.1)with
 |some (.col t' off m k xs g none)=>bif Nat.beq t' t&&Nat.beq off d.1&&decide (m=d.2.1)&&decide (k=d.2.2)then(match m,k,xs with
  |.dat,k,xs=>(match rei1 hp k ((cs.drop off).take k.size)with
   |some x=>some (xs.length,(aX t d.1,.col t' off .dat k (xs++[x]) g none),ba ((cs.drop off).take k.size),[])
   |none=>none)
  |.own,.slice e,xs=>(match(cs.drop off).take 1 with
   |[.nilS]=>some (xs.length,(aX t d.1,.col t' off .own (.slice e) (xs++[([]:List e.T)]) g none),[],[])
   |_=>none)
  |.mp,.slice (.prod (.int .i64) (.ref e)),xs=>(match(cs.drop off).take 1 with
   |[.mp id]=>(match hp id with
    |some (.mp (.ref e') [])=>bif Nat.beq e' e then some (xs.length,(aX t d.1,.col t' off .mp (.slice (.prod (.int .i64) (.ref e))) (xs++[([]:List (Int×Option Nat))]) g none),[],[id])else none
    |_=>none)
   |_=>none)
  |_,_,_=>none)else none
 |_=>none
def m9 (hp:Nat->Option Obj)(t:Nat)(cs:List S):List (Nat×Mode×K)->Option (Nat×Upd×List Nat×List Nat)
 |[]=>none
 |[d]=>(match fB hp t cs d with
  |some (n,e,fz,dd)=>some (n,[e],fz,dd)
  |none=>none)
 |d::r=>match fB hp t cs d,m9 hp t cs r with
  |some (n,e,fz,dd),some (_,u,fz',dd')=>some (n,e::u,fz++fz',dd++dd')
  |_,_=>none
def xy (hp:Nat->Option Obj)(t:Nat)(cs:List S)(ds:List (Nat×Mode×K)):Out:=
 match m9 hp t cs ds with
 |some (n,cu,fz,dd)=>bif dupF dd then(match frzU hp fz with
  |some u=>.okm true (.val false [.rb t n]) (cu++(nC dd++u))
  |none=>.bad)else .bad
 |none=>.bad
def nF (P:Program)(hp:Nat->Option Obj)(t i off n:Nat)(new:List S):Out:=
 match hp (aX t off)with
 |some (.col t' off' m k xs g p)=>bif Nat.beq t' t&&Nat.beq off' off then(match m,k,xs,new with
  |.dat,k,xs,new=>(match p,rei1 hp k new,frzU hp (ba new)with
   |none,some y,some u=>bif Nat.beq k.size n then .okm true .undef ((aX t off,.col t' off' .dat k (xs.set i y) (g+1) none)::u)else .bad
   |_,_,_=>.bad)
  |.own,.slice e,xs,[.ov cid g' i']=>(match p with
   |some j=>bif Nat.beq cid (aX t off)&&Nat.beq g' g&&Nat.beq n 1 then .okm (decide (i=i')&&decide (i=j)) .undef [(aX t off,.col t' off' .own (.slice e) xs g none)]else .bad
   |none=>.bad)
  |.own,.slice e,xs,[.nilS]=>(match p with
   |none=>bif Nat.beq n 1 then .okm true .undef [(aX t off,.col t' off' .own (.slice e) (xs.set i ([]:List e.T)) (g+1) none)]else .bad
   |some _=>.bad)
  |.own,.slice e,xs,[.vw id gg]=>(match p,hp id with
   |none,some (.row k' ys gen _ false)=>bif Nat.beq gg gen&&Nat.beq n 1 then(match cst k' e ys with
    |some zs=>.okm true .undef [(aX t off,.col t' off' .own (.slice e) (xs.set i (zs:List e.T)) (g+1) none),(id,.box [])]
    |none=>.bad)else .bad
   |_,_=>.bad)
  |_,_,_,_=>.bad)else .bad
 |_=>.bad
def core (P:Program)(A:Ann)(fid:Nat)(env:Operand->AV)(hp:Nat->Option Obj)(o:Oper):Out:=
 match o.op with
 |.move x| .assign x=>(match env x with
  |.val false [.nilS]=>bif(match o.dst with|some d=>(A.nils fid).contains d|none=>false)then
    (match oO P o.type with
    |some e=>(match kd P e with|some k=>.ok true (.val false [.sl k []]) []|none=>.bad)
    |none=>.bad)else bif(match o.dst with|some d=>(A.prom fid).contains d|none=>false)then
    (match fresh hp o.dst,oO P o.type with
    |some d,some e=>(match kd P e with|some k=>.ok true (.val false [.vw d 0]) [(d,.row k [] 0 [] false)]|none=>.bad)
    |_,_=>.bad)else .ok true (.val false [.nilS]) []
  |v=>.ok true v [])
 |.nilCheck x=>(match slot x env with
  |some (.ref t r)=>.ok r.isSome (.val false [.rb t (r.getD 0)]) []
  |some a=>bif qF hp a then okv a else .bad
  |none=>.bad)
 |.makeFunc (.func f) first captured=>(match first.toList,captured.toList with
  |[],[x]=>(match slot x env with
   |some (.ptr id g i p)=>bif Nat.beq g 0&&Nat.beq i 0&&p.isEmpty then(match hp id with
    |some (.box [.sl k xs])=>.ok true (.val false [.clo f (.slice k) xs]) [(id,.box [])]
    |_=>.bad)else .bad
   |_=>.bad)
  |[x],[]=>(match slot x env with
   |some (.ptr id g i p)=>bif Nat.beq g 0&&Nat.beq i 0&&p.isEmpty then(match hp id with
    |some (.box (_::_))=>okv (.bm f id)
    |_=>.bad)else .bad
   |_=>.bad)
  |_,_=>.bad)
 |.makeMap t none=>(match P.underlying t,fresh hp o.dst with
  |some (.map kt et),some d=>(match P.underlying kt,kd P et with
   |some (.int .i64),some .fn=>.ok true (.val false [.mp d]) [(d,.fm [])]
   |some (.int .i64),some k=>bif zr k then .ok true (.val false [.mp d]) [(d,.mp k [])]else .bad
   |_,_=>.bad)
  |_,_=>.bad)
 |.lookup t x ix false=>(match slot x env,slot ix env,P.underlying t with
  |some (.mp id),some (.int .i64 n),some (.map kt et)=>(match hp id,P.underlying kt with
   |some (.mp k es),some (.int .i64)=>bif C5 P et k then .ok true (inj k (aO k.dflt es n)) []else .bad
   |_,_=>.bad)
  |some (.ov cid g i),some (.int .i64 n),some (.map kt et)=>(match hp cid,P.underlying kt with
   |some (.col _ _ .mp (.slice (.prod (.int .i64) (.ref e))) xs g' _),some (.int .i64)=>bif Nat.beq g g'&&C5 P et (.ref e)then .ok true (inj (.ref e) (aO none (xs.getD i []) n)) []else .bad
   |_,_=>.bad)
  |_,_,_=>.bad)
 |.mapUpdate t x ix y| .insert t x ix y=>(match slot x env,slot ix env,env y,P.underlying t with
  |some (.mp id),some (.int .i64 n),.val false cs,some (.map kt _)=>(match hp id,P.underlying kt with
   |some (.mp k es),some (.int .i64)=>bif zr k then(match rei1 hp k cs with|some v=>.ok true .undef [(id,.mp k (aR es n v))]|none=>.bad)else .bad
   |some (.fm es),some (.int .i64)=>(match cs with
    |[.bm f j]=>bif es.all (λe=>!decide (e.1=n))then .ok true .undef [(id,.fm (es++[(n,f,j)]))]else .bad
    |_=>.bad)
   |_,_=>.bad)
  |some (.ov cid g i),some (.int .i64 n),.val false cs,some (.map kt _)=>(match hp cid,P.underlying kt with
   |some (.col t' off .mp (.slice (.prod (.int .i64) (.ref e))) xs g' p),some (.int .i64)=>bif Nat.beq g g' then(match rei1 hp (.ref e) cs with
    |some v=>.okm true .undef [(cid,.col t' off .mp (.slice (.prod (.int .i64) (.ref e))) (xs.set i (aR (xs.getD i []) n v)) (g'+1) p)]
    |none=>.bad)else .bad
   |_,_=>.bad)
  |_,_,_,_=>.bad)
 |.alloc e=>(match uW P e,fresh hp o.dst with
  |some z,some d=>.ok true (.val false [.ptr d 0 0 []]) [(d,.box (z.map ofV))]
  |_,_=>.bad)
 |.box _ x=>(match A.man o.type with
  |[]=>(match env x,fresh hp o.dst with
   |.val _ cs,some d=>.ok true (.val false [.ptr d 0 0 []]) [(d,.box cs)]
   |_,_=>.bad)
  |d::r=>(match env x with
   |.val true cs=>xy hp o.type cs (d::r)
   |_=>.bad))
 |.build t parts=>(match uW P t,P.underlying t with
  |some z,some (.struct fs)=>bif fs.toList.all (λf=>(dw P f.type).isSome)then(match Av (fieldAt P fs) env parts.toList (z.map ofV)with|some cs=>.ok true (.val true cs) []|none=>.bad)else .bad
  |some z,some (.array _ e)=>(match dw P e with
   |some s=>(match Av (λi=>some (i*s,s)) env parts.toList (z.map ofV)with|some cs=>.ok true (.val true cs) []|none=>.bad)
   |none=>.bad)
  |_,_=>.bad)
 |.buildSlice t n parts=>(match oO P t,fresh hp o.dst with
  |some e,some d=>(match kd P e,uW P e,dw P e with
   |some k,some z,some s=>bif Nat.ble (n*s) 16777216&&Nat.beq z.length s&&Nat.beq s k.size then
     (match Av (λi=>some (i*s,s)) env parts.toList (List.replicate n (z.map ofV)).flatten with
     |some cs=>(match reiN hp k n cs,frzU hp (ba cs)with
      |some xs,some u=>.ok true (.val false [.vw d 0]) ((d,.row k xs 0 [] false)::u)
      |_,_=>.bad)
     |none=>.bad)else .bad
   |_,_,_=>.bad)
  |_,_=>.bad)
 |.load t a=>(match slot a env with
  |some s=>(match loadAt hp s with
   |some cs=>(match valT P t cs with|some v=>.ok true v []|none=>.bad)
   |none=>.bad)
  |_=>.bad)
 |.store t a x=>(match slot a env,env x,dw P t with
  |some (.ptr id g i p),.val _ new,some n=>bif Nat.beq new.length n then(match hp id with
   |some (.box cs)=>bif Nat.beq g 0&&Nat.beq i 0 && !cs.isEmpty then(match setP p new cs with|some cs'=>.ok true .undef [(id,.box cs')]|none=>.bad)else .bad
   |some (.row k xs gen _ false)=>bif Nat.beq g gen && !(ba new).contains id then(match setP p new (bg k (xs.getD i k.dflt)),frzU hp (ba new)with
    |some cs',some u=>(match rei1 hp k cs' with|some y=>.ok true .undef ((id,.row k (xs.set i y) gen [] false)::u)|none=>.bad)
    |_,_=>.bad)else .bad
   |_=>.bad)else .bad
  |some (.rp t' i off),.val _ new,some n=>bif Nat.beq new.length n then nF P hp t' i off n new else .bad
  |_,_,_=>.bad)
 |.binOp op t x y _=>(match env x,env y with
  |.val false [.err a],.val false [.err b]=>bif bw y || bw x then binS P op t x y (.err a) (.err b)else GM P A.te op t a b
  |.val false [a],.val false [b]=>binS P op t x y a b
  |.val true a,.val true b=>binA P op t a b
  |_,_=>.bad)
 |.unOp op _ x=>(match op,slot x env with
  |.neg,some (.int k n)=>okv (.int k (k.wrap (0-n)))
  |.xor,some (.int k n)=>okv (.int k (b7 k .xor (bif k.signed then -1 else k.max) n))
  |.not,some (.bool b)=>okv (.bool (!b))
  |_,_=>.bad)
 |.convert st dt x=>(match slot x env,P.underlying st,P.underlying dt with
  |some (.int _ n),some _,some (.int k)=>okv (.int k (k.wrap n))
  |some (.str s),some _,some .string=>okv (.str s)
  |some (.str s),some _,some (.slice e)=>(match P.underlying e,fresh hp o.dst with
   |some (.int .u8),some d=>.ok (decide (s.length<=lim)) (.val false [.vw d 0]) [(d,.row (.int .u8) s 0 [] false)]
   |_,_=>.bad)
  |some s,some (.slice e),some .string=>(match P.underlying e with
   |some (.int .u8)=>(match cZ hp s with
    |.nil=>okv (.str [])
    |.some k xs=>(match cst k (.int .u8) xs with|some ys=>okv (.str ys)|none=>.bad)
    |.none=>.bad)
   |_=>.bad)
  |some (.vw id g),some (.slice _),some (.slice e)=>(match P.underlying e,hp id with
   |some (.int .u8),some (.row k xs gen _ false)=>bif Nat.beq g gen&&Nat.beq st dt then .ok (!xs.isEmpty) (.val false [.vw id gen]) [(id,.row k xs gen [] false)]else .bad
   |_,_=>.bad)
  |_,_,_=>.bad)
 |.makeInterface t x=>(match slot x env,P.underlying t with
  |some (.int .i64 n),some (.int _)=>bif Nat.beq t A.te then okv (.err (some n))else .bad
  |_,_=>.bad)
 |.makeSlice t l c=>(match slot l env,slot c env,oO P t,fresh hp o.dst with
  |some (.int .i64 n),some (.int .i64 m),some e,some d=>(match kd P e,uW P e with
   |some k,some z=>bif Bd k z&&fF P e k then .ok (decide (n=m)&&decide (0<=n)&&decide (n*iG P e<=140737488355328)) (.val false [.vw d 0]) [(d,.row k (List.replicate n.toNat k.dflt) 0 [] false)]else .bad
   |_,_=>.bad)
  |_,_,_,_=>.bad)
 |.slice t x lo hi mx=>(match slot x env,P.underlying t,mx with
  |some (.str s),some .string,none=>(match bU env 0 lo,bU env s.length hi with
   |some l,some h=>.ok (decide (0<=l)&&decide (l<=h)&&decide (h<=(s.length:Int))) (.val false [.str ((s.drop l.toNat).take (h.toNat-l.toNat))]) []
   |_,_=>.bad)
  |some s,some (.slice e),none=>(match dw P e with|some sz=>tK hp sz env lo hi s|none=>.bad)
  |_,_,_=>.bad)
 |.fieldAddr s x f=>(match P.underlying s with
  |some (.struct fs)=>(match fieldAt P fs f,slot x env with
   |some (off,sz),some a=>bif Nat.beq sz 0 || !qF hp a then .bad else(match jX (.fld off) a with|some b=>okv b|none=>.bad)
   |_,_=>.bad)
  |_=>.bad)
 |.field t x f=>(match P.underlying t,env x with
  |some (.struct fs),.val true cs=>(match fs[f]? with
   |some fl=>(match valT P fl.type (cs.drop fl.offset)with|some v=>.ok true v []|none=>.bad)
   |none=>.bad)
  |_,_=>.bad)
 |.indexAddr t x ix=>(match P.underlying t,slot x env,slot ix env with
  |some (.array n e),some a,some (.int _ i)=>(match dw P e with
   |some sz=>bif !qF hp a then .bad else(match jX (.idx n sz i) a with|some b=>.ok (inb i n) (.val false [b]) []|none=>.bad)
   |none=>.bad)
  |some (.slice e),some s,some (.int _ i)=>(match dw P e with
   |some sz=>(match s with
    |.vw id g=>(match hp id with
     |some (.row k xs gen _ _)=>bif Nat.beq g gen&&Nat.beq sz k.size then .ok (inb i xs.length) (.val false [.ptr id g i.toNat []]) []else .bad
     |_=>.bad)
    |.pv id g off len=>(match hp id with
     |some (.row k _ gen _ _)=>bif Nat.beq g gen&&Nat.beq sz k.size then .ok (inb i len) (.val false [.ptr id g (i.toNat+off) []]) []else .bad
     |_=>.bad)
    |.sl k xs=>bif Nat.beq sz k.size then .ok (inb i xs.length) (.val false [.ipt k (xs.getD i.toNat k.dflt) []]) []else .bad
    |.ov cid g j=>(match hp cid with
     |some (.col _ _ .own (.slice k) xs g' _)=>bif Nat.beq g g'&&Nat.beq sz k.size then .ok (inb i ((xs.getD j []:List k.T)).length) (.val false [.oe cid g j i.toNat []]) []else .bad
     |_=>.bad)
    |_=>.bad)
   |none=>.bad)
  |_,_,_=>.bad)
 |.index t x ix=>(match P.underlying t,env x,slot ix env with
  |some .string,.val false [.str s],some (.int _ i)=>.ok (inb i s.length) (.val false [.int .u8 (s.getD i.toNat 0)]) []
  |some (.array n e),.val true cs,some (.int _ i)=>(match dw P e with
   |some sz=>(match getP [.idx n sz i] cs with
    |some l=>(match valT P e l with|some v=>.ok (inb i n) v []|none=>.bad)
    |none=>.bad)
   |none=>.bad)
  |_,_,_=>.bad)
 |.extract t ix=>(match env t with
  |.tup vs=>(match vs[ix]? with|some (g,cs)=>.ok true (.val g cs) []|none=>.bad)
  |_=>.bad)
 |_=>.bad
def ka (ids:List Nat)(h:List (Nat×Obj))(id:Nat):Option Obj:=bif ids.contains id then hget h id else none
def tJ (l:List Operand):List Nat:=l.foldr (λx r=>match x with| .tmp t=>t::r|_=>r) []
def Nk (ts:List Nat)(env:List (Nat×AV)):Operand->AV
 |.tmp t=>bif ts.contains t then look env t else .undef
 |.const v=>qN v
 |.func f=>.val false [.fn (some f)]
 |.global _=>.undef
def evO (env:List (Nat×AV))(o:Oper):Operand->AV:=Nk (tJ o.op.operands.toList) env
def My (A:Ann)(o:Oper):List Nat:=
 match o.op with
 |.box _ _=>(A.man o.type).map λd=>aX o.type d.1
 |.call c=>(match c.callee with
  |.value (.func f)=>A.cols f
  |_=>[])
 |_=>[]
def Nd (o:Oper):List Operand:=match o.op with
 |.move _| .assign _=>[]
 |_=>o.op.operands.toList
def idsE (A:Ann)(o:Oper)(ev:Operand->AV):List Nat:=(match o.dst with|some d=>[d]|none=>[])++(My A o++(Nd o).foldr (λx r=>(ev x).ids++r) [])
abbrev ic:=(sg:Sig)->Nat->List AV->Option sg.R
def jS (d:Option Nat)(hp:Nat->Option Obj):Upd->Bool
 |[]=>true
 |(id,o)::r=>(match o,hp id with
  |.col ..,_=>false
  |_,some (.col ..)=>false
  |_,some _=>true
  |_,none=>(match d with|some j=>Nat.beq j id|none=>false))&&jS d hp r
def mOp:Op->Bool
 |.store ..| .box ..| .mapUpdate ..| .insert ..| .call _=>true
 |_=>false
def okK {R:Type}(mo:Bool)(d:Option Nat)(hp:Nat->Option Obj)(K:AV->Upd->Option R):Out->Option R
 |.ok c v u=>bif jS d hp u then(bif c then K v u else none)else none
 |.okm c v u=>bif mo&&c then K v u else none
 |_=>none
def sF {R:Type}(C:ic)(K:AV->Upd->Option R):Out->Option R
 |.call c sg f args post=>bif c then(C sg f args).bind (λr=>K (post r).1 (post r).2)else none
 |_=>none
def fmOk (P:Program)(kt et:TypeId):Bool:=match P.underlying kt,P.info? et with
 |some (.int .i64),some i=>(match i.zero with|some .nilFunc=>true|_=>false)
 |_,_=>false
def sV {R:Type}(K:AV->Upd->Option R)(n:Int):List (Int×Nat×Nat)->Option R
 |[]=>K (.val false [.fn none]) []
 |e::r=>bif decide (n=e.1)then K (.val false [.bm e.2.1 e.2.2]) []else sV K n r
def Da {R:Type}(P:Program)(A:Ann)(fid:Nat)(C:ic)(ev:Operand->AV)(hp:Nat->Option Obj)(o:Oper)(K:AV->Upd->Option R):Option R:=
 match o.op with
 |.pick c a b=>(match slot c ev with
  |some (.bool x)=>bif x then K (ev a) []else K (ev b) []
  |_=>none)
 |.call c=>(match c.callee with
  |.builtin b=>okK (mOp o.op) o.dst hp K (jW P hp o.dst b c.argTypes.toList (c.args.toList.map ev))
  |.value (.func f)=>sF C K (gX P hp o.dst o.type (A.own f) (A.mv f) (A.cols f) true f c.argTypes.toList (c.args.toList.map ev))
  |.value g=>(match slot g ev with
   |some (.fn r)=>sF C K (gX P hp o.dst o.type [] [] [] r.isSome (r.getD 0) c.argTypes.toList (c.args.toList.map ev))
   |some (.clo f k x)=>sF C K (gX P hp o.dst o.type [] [] [] true f (c.argTypes.toList++[0]) (c.args.toList.map ev++[.val false [.ipt k x []]]))
   |some (.bm f id)=>(match hp id with
    |some (.box (_::_))=>sF C K (gX P hp o.dst o.type [] [] [] true f (A.recv f::c.argTypes.toList) (.val false [.ptr id 0 0 []]::c.args.toList.map ev))
    |_=>none)
   |_=>none)
  |_=>none)
 |.lookup t x ix false=>(match slot x ev,slot ix ev with
  |some (.mp id),some (.int .i64 n)=>(match hp id,P.underlying t with
   |some (.fm es),some (.map kt et)=>bif fmOk P kt et then sV K n es else none
   |_,_=>okK (mOp o.op) o.dst hp K (core P A fid ev hp o))
  |_,_=>okK (mOp o.op) o.dst hp K (core P A fid ev hp o))
 |_=>okK (mOp o.op) o.dst hp K (core P A fid ev hp o)
def wZ {R:Type}(P:Program)(A:Ann)(fid:Nat)(C:ic)(σ:St)(o:Oper)(K:AV->Upd->Option R):Option R:=
 Da P A fid C (evO σ.env o) (ka (idsE A o (evO σ.env o)) σ.heap) o K
def rS {R:Type}(all:Array Oper)(σ:St)(o:Oper)(K:Bool->List (Nat×AV)->Option R):Option R:=
 match o.guard with
 |none=>K true σ.env
 |some (j,want)=>match(all[j]?).bind (·.dst)with
  |none=>none
  |some t=>match look σ.env t with
   |.val false [.bool b]=>bif b then K want ((t,.val false [.bool true])::σ.env)else K (!want) ((t,.val false [.bool false])::σ.env)
   |.tup []=>K false σ.env
   |_=>none
def pJ (n lo:Nat)(o:Oper):Bool:=match o.dst with|some d=>Nat.ble (d+1) n&&Nat.ble lo d|none=>true
def tS {R:Type}(P:Program)(A:Ann)(fid n lo:Nat)(C:ic)(all:Array Oper):List Oper->St->(St->Option R)->Option R
 |[],σ,K=>K σ
 |o::r,σ,K=>bif pJ n lo o then rS all σ o (λwant env=>
   bif want then wZ P A fid C ⟨env,σ.heap⟩ o (λv u=>tS P A fid n lo C all r ⟨put env o.dst v,hput σ.heap u⟩ K)
   else tS P A fid n lo C all r ⟨put env o.dst (.tup []),σ.heap⟩ K)else none
inductive Ex where
 |normal
 |ret
 |exit (id:Nat)
def Nb:AV->Option Nat
 |.val false [.vw id _]=>some id
 |.val false [.pv id _ _ _]=>some id
 |.val false [.ptr id _ _ _]=>some id
 |.val false [.mp id]=>some id
 |.val false [.bm _ id]=>some id
 |_=>none
def lk:List (Nat×Nat)->Nat->Option Nat
 |[],_=>none
 |(o,n)::r,u=>bif Nat.beq o u then some n else lk r u
def lkr:List (Nat×Nat)->Nat->Option Nat
 |[],_=>none
 |(o,n)::r,u=>bif Nat.beq n u then some o else lkr r u
def Fm (env:List (Nat×AV)):List Nat->List (Nat×Nat)->List (Nat×Nat)
 |[],l=>l
 |t::r,l=>match Nb (look env t)with
  |some id=>(match lk l id with|some _=>Fm env r l|none=>Fm env r (l++[(id,t)]))
  |none=>Fm env r l
def ux (h:List (Nat×Obj)):List Nat->List (Nat×Nat)->List (Nat×Nat)
 |[],l=>l
 |t::r,l=>match lk l t,lkr l t,hget h t with
  |none,none,some (.box (_::_))=>ux h r (l++[(t,t)])
  |none,none,some (.row ..)=>ux h r (l++[(t,t)])
  |none,none,some (.col ..)=>ux h r (l++[(t,t)])
  |_,_,_=>ux h r l
def cP (l:List (Nat×Nat))(h:List (Nat×Obj)):S->S
 |.vw id g=>match hget h id,lk l id with
  |some (.row _ _ gen _ _),some n=>bif Nat.beq g gen then .vw n 0 else .undef
  |_,_=>.undef
 |.pv id g off len=>match hget h id,lk l id with
  |some (.row _ _ gen _ _),some n=>bif Nat.beq g gen then .pv n 0 off len else .undef
  |_,_=>.undef
 |.ptr id g i p=>match hget h id,lk l id with
  |some (.row _ _ gen _ _),some n=>bif Nat.beq g gen then .ptr n 0 i p else .undef
  |some (.box _),some n=>.ptr n g i p
  |_,_=>.undef
 |.mp id=>match hget h id,lk l id with
  |some (.mp _ _),some n=>.mp n
  |_,_=>.undef
 |.bm f id=>match hget h id,lk l id with
  |some (.box _),some n=>.bm f n
  |_,_=>.undef
 |.ov cid g i=>match hget h cid,lk l cid with
  |some (.col _ _ _ _ _ gen _),some n=>bif Nat.beq g gen&&Nat.beq n cid then .ov cid 0 i else .undef
  |_,_=>.undef
 |.oe ..=>.undef
 |s=>s
def xj (l:List (Nat×Nat))(h:List (Nat×Obj)):AV->AV
 |.undef=>.undef
 |.val g cs=>.val g (cs.map (cP l h))
 |.tup vs=>.tup (vs.map λv=>(v.1,v.2.map (cP l h)))
def o8 (l:List (Nat×Nat))(h:List (Nat×Obj)):Obj->Obj
 |.row k xs _ _ frz=>.row k xs 0 [] frz
 |.box cs=>.box (cs.map (cP l h))
 |.mp k es=>.mp k es
 |.col t off m k xs _ p=>.col t off m k xs 0 p
 |.fm _=>.box []
def wK (l:List (Nat×Nat))(h:List (Nat×Obj)):Bool:=h.all λp=>match p.2 with
 |.col ..=>(match lk l p.1 with|some n=>Nat.beq n p.1|none=>false)
 |_=>true
def norm (keep:List Nat)(σ:St):St:=
 let l:=ux σ.heap keep (Fm σ.env keep [])
 bif dupF (l.map (·.1))&&dupF (l.map (·.2))&&wK l σ.heap then⟨keep.map λt=>(t,xj l σ.heap (look σ.env t)),
  l.filterMap λp=>match hget σ.heap p.1 with|some o=>some (p.2,o8 l σ.heap o)|none=>none⟩else⟨[],σ.heap⟩
def Dv {R:Type}(keep:List Nat)(step:St->(Ex->St->Option R)->Option R):Nat->St->(Ex->St->Option R)->Option R
 |0,_,_=>none
 |m+1,σ,K=>step σ (λe σ'=>match e with
  |.normal=>Dv keep step m (norm keep σ') K
  |.ret=>K .ret σ'
  |.exit id=>K (.exit id) σ')
structure Log where
 tch:List Nat
 wr:List Nat
def Dw (all:Array Oper)(o:Oper):List Nat:=
 tJ o.op.operands.toList++(match o.guard with|some (j,_)=>(match(all[j]?).bind (·.dst)with|some t=>[t]|none=>[])|none=>[])
def dstL (o:Oper):List Nat:=match o.dst with|some d=>[d]|none=>[]
def xl (all:Array Oper)(a b:Oper)(la lb:Log):Bool:=
 disj la.wr lb.tch&&disj lb.wr la.tch&&disj la.wr lb.wr&&disj (dstL a) (Dw all b++dstL b)&&disj (dstL b) (Dw all a)
def Bt (all:Array Oper)(bef:Array Nat)(i:Nat)(o:Oper)(l:Log):Nat->List Oper->List Log->Bool
 |j,p::ps,m::ms=>(Nat.testBit (bef.getD j 0) i || xl all o p l m)&&Bt all bef i o l (j+1) ps ms
 |_,[],[]=>true
 |_,_,_=>false
def zQ (all:Array Oper)(bef:Array Nat):Nat->List Oper->List Log->Bool
 |i,o::os,l::ls=>Bt all bef i o l (i+1) os ls&&zQ all bef (i+1) os ls
 |_,[],[]=>true
 |_,_,_=>false
def mq:Nat->List Oper->Bool
 |i,o::os=>(o.after.toList.all λe=>!Region.binds .any e || Nat.ble (e.on+1) i)&&mq (i+1) os
 |_,[]=>true
def Ij (A:Ann)(σ:St)(o:Oper)(u:Upd):Log:=⟨idsE A o (evO σ.env o),u.map (·.1)⟩
def jx {R:Type}(P:Program)(A:Ann)(fid n lo:Nat)(C:ic)(all:Array Oper):List Oper->List Log->St->(List Log->St->Option R)->Option R
 |[],lg,σ,K=>K lg σ
 |o::r,lg,σ,K=>bif pJ n lo o then rS all σ o (λwant env=>
   bif want then wZ P A fid C ⟨env,σ.heap⟩ o (λv u=>jx P A fid n lo C all r (Ij A ⟨env,σ.heap⟩ o u::lg) ⟨put env o.dst v,hput σ.heap u⟩ K)
   else jx P A fid n lo C all r (⟨[],[]⟩::lg) ⟨put env o.dst (.tup []),σ.heap⟩ K)else none
def cutN {R:Type}:Nat->St->(St->Option R)->Option R
 |0,_,_=>none
 |_+1,σ,K=>K σ
def xf {R:Type}(P:Program)(A:Ann)(fid n lo:Nat)(C:ic)(ops:Array Oper)(d:Bool)(σ:St)(K:St->Option R):Option R:=
 match d with
 |false=>tS P A fid n lo C ops ops.toList σ K
 |true=>bif mq 0 ops.toList then jx P A fid n lo C ops ops.toList [] σ (λlg σ'=>bif zQ ops (Region.before ops) 0 ops.toList lg.reverse then K σ' else none)else none
def cR {R:Type}(P:Program)(A:Ann)(fid n lo fuel:Nat)(C:ic):Nat->Code->St->(Ex->St->Option R)->Option R
 |_,.skip,σ,K=>K .normal σ
 |_,.region id ops d,σ,K=>match A.cut fid id with
  |none=>xf P A fid n lo C ops d σ (K .normal)
  |some keep=>cutN fuel (norm keep σ) (λσ=>xf P A fid n lo C ops d σ (K .normal))
 |b,.seq x y,σ,K=>cR P A fid n lo fuel C b x σ (λe σ'=>match e with
  |.normal=>cR P A fid n lo fuel C b y σ' K
  |.ret=>K .ret σ'
  |.exit id=>K (.exit id) σ')
 |b,.cond c x y,σ,K=>match slot c (Mq σ.env)with
  |some (.bool v)=>bif v then cR P A fid n lo fuel C b x σ K else cR P A fid n lo fuel C b y σ K
  |_=>none
 |_,.block id x,σ,K=>cR P A fid n lo fuel C id x σ (λe σ'=>match e with
  |.normal=>K .normal σ'
  |.ret=>K .ret σ'
  |.exit j=>bif Nat.beq j id then K .normal σ' else K (.exit j) σ')
 |b,.loop x,σ,K=>Dv (A.keep fid b) (λσ K'=>cR P A fid n lo fuel C b x σ K') fuel (norm (A.keep fid b) σ) K
 |_,.exit id,σ,K=>K (.exit id) σ
 |_,.ret,σ,K=>K .ret σ
 |_,_,_,_=>none
def fL:Nat->List AV->List (Nat×AV)
 |_,[]=>[]
 |j,.val false [.mv _ _]::r=>(j,.val false [.vw j 0])::fL (j+1) r
 |j,.val false [.io _ _]::r=>(j,.val false [.ptr j 0 0 []])::fL (j+1) r
 |j,.val false [.co ..]::r=>fL (j+1) r
 |j,v::r=>(j,v)::fL (j+1) r
def cW:Nat->List AV->List (Nat×Obj)
 |_,[]=>[]
 |j,.val false [.mv k xs]::r=>(j,.row k xs 0 [] false)::cW (j+1) r
 |j,.val false [.io k x]::r=>(j,.box (bg k x))::cW (j+1) r
 |j,.val false [.co cid t off m k xs]::r=>(cid,.col t off m k xs 0 none)::cW (j+1) r
 |j,_::r=>cW (j+1) r
def bT:Nat->List AV->List Nat
 |_,[]=>[]
 |j,.val false [.io _ _]::r=>j::bT (j+1) r
 |j,.val false [.co cid ..]::r=>cid::bT (j+1) r
 |j,_::r=>bT (j+1) r
def eqKs:List K->List K->Bool
 |[],[]=>true
 |a::r,b::s=>decide (a=b)&&eqKs r s
 |_,_=>false
def ioKs:List AV->List K
 |[]=>[]
 |.val false [.io k _]::r=>k::ioKs r
 |.val false [.co _ _ _ _ k _]::r=>.slice k::ioKs r
 |_::r=>ioKs r
def loOf:List Nat->Nat
 |[]=>0
 |i::r=>bif Nat.ble (loOf r) i&&Nat.ble i 1048575 then i+1 else loOf r
def resV (P:Program)(σ:St):ResultVar->Option (Bool×List S)
 |.tmp t=>match look σ.env t with| .val g cs=>some (g,cs)|_=>none
 |.cell a t=>match look σ.env a with
  |.val false [s]=>(match loadAt (hget σ.heap) s with
   |some cs=>(match valT P t cs with|some (.val g l)=>some (g,l)|_=>none)
   |none=>none)
  |_=>none
def ioV (σ:St)(id:Nat):Option (Bool×List S):=
 bif Nat.ble id 1048575 then(match look σ.env id,hget σ.heap id with
  |.val false [.ptr j 0 0 []],some (.box cs)=>bif Nat.beq j id && !cs.isEmpty then some (true,cs)else none
  |_,_=>none)
 else(match hget σ.heap id with
  |some (.col _ _ _ k xs _ none)=>some (false,[.sl k xs])
  |_=>none)
def EY (hp:Nat->Option Obj):(ks:List K)->List (List S)->Option (Ts ks)
 |[],css=>bif css.isEmpty then some ()else none
 |[k],css=>match css with
  |[cs]=>rei1 hp k cs
  |_=>none
 |k::k'::r,css=>match css with
  |[]=>none
  |cs::l=>(rei1 hp k cs).bind λx=>(EY hp (k'::r) l).bind λy=>some (x,y)
def ownV (h:List (Nat×Obj))(all:List Nat):List (Bool×K)->List (Bool×List S)->Bool
 |[],_=>true
 |(own,k)::r,(g,cs)::l=>(bif own then !g&&(match cs with
   |[.nilS]=>true
   |[.vw id gg]=>(match hget h id with
    |some (.row _ _ gen _ false)=>Nat.beq gg gen&&Nat.beq (all.count id) 1
    |_=>false)
   |_=>false)else true)&&(g==k.isAgg)&&ownV h all r l
 |_,_=>false
def JL (ios:List Nat)(h:List (Nat×Obj)):Bool:=h.all λp=>match p.2 with| .col ..=>ios.contains p.1|_=>true
def po (P:Program)(sg:Sig)(fn:Func)(ios:List Nat)(σ:St):Option sg.R:=
 match hP (fn.results.toList.map (resV P σ)),hP (ios.map (ioV σ))with
 |some vs,some ws=>bif JL ios σ.heap&&Nat.beq vs.length sg.res.length&&Nat.beq ws.length sg.io.length&&ownV σ.heap (ba ((vs++ws).map (·.2)).flatten) sg.res vs then
   EY (hget σ.heap) sg.ks ((vs++ws).map (·.2))else none
 |_,_=>none
abbrev Hj:=(sg:Sig)->Nat->List AV->Option (Option sg.R)
def tV:List AV->Nat
 |[]=>0
 |.val false [.co ..]::r=>tV r
 |_::r=>tV r+1
def Lj (P:Program)(A:Ann)(C:ic)(k:Nat):ic:=λsg f args=>
 match P.funcs[f]? with
 |some fn=>(match fn.body with
  | some c => bif Nat.ble (tV args) fn.ntmps && Nat.ble (tV args) 1048575 && !(fn.name == "runtime.NumGoroutine") && eqKs sg.io (ioKs args) then
    cR P A f fn.ntmps (loOf (bT 0 args)) k C 0 c ⟨fL 0 args,cW 0 args⟩ (λe σ=>match e with
    |.exit _=>none
    |_=>po P sg fn (bT 0 args) σ)else none
  |none=>none)
 |none=>none
def D8 (P:Program)(A:Ann)(X:Hj):Nat->ic
 |0=>λ_ _ _=>none
 |k+1=>λsg f args=>match X sg f args with
  |some r=>r
  |none=>Lj P A (D8 P A X k) k sg f args
inductive Dir where
 |l|r
 |lp (m:Nat)
def zW {R:Type}(P:Program)(A:Ann)(fid n lo fuel:Nat)(C:ic):Nat->List Dir->Code->Nat->St->(Ex->St->Option R)->Option R
 |_,[],.region id ops d,m,σ,K=>cutN m σ (λσ=>xf P A fid n lo C ops d σ (K .normal))
 |b,[],.loop x,m,σ,K=>Dv (A.keep fid b) (λσ K'=>cR P A fid n lo fuel C b x σ K') m σ K
 |b,.l::p,.seq x y,m,σ,K=>zW P A fid n lo fuel C b p x m σ (λe σ'=>match e with
  |.normal=>cR P A fid n lo fuel C b y σ' K
  |.ret=>K .ret σ'
  |.exit id=>K (.exit id) σ')
 |b,.r::p,.seq x y,m,σ,K=>zW P A fid n lo fuel C b p y m σ K
 |b,.l::p,.cond c x y,m,σ,K=>zW P A fid n lo fuel C b p x m σ K
 |b,.r::p,.cond c x y,m,σ,K=>zW P A fid n lo fuel C b p y m σ K
 |_,.l::p,.block id x,m,σ,K=>zW P A fid n lo fuel C id p x m σ (λe σ'=>match e with
  |.normal=>K .normal σ'
  |.ret=>K .ret σ'
  |.exit j=>bif Nat.beq j id then K .normal σ' else K (.exit j) σ')
 |b,.lp m'::p,.loop x,m,σ,K=>zW P A fid n lo fuel C b p x m σ (λe σ'=>match e with
  |.normal=>Dv (A.keep fid b) (λσ K'=>cR P A fid n lo fuel C b x σ K') m' (norm (A.keep fid b) σ') K
  |.ret=>K .ret σ'
  |.exit id=>K (.exit id) σ')
 |_,_,_,_,_,_=>none
def Nh (P:Program)(A:Ann)(C:ic)(k:Nat)(sg:Sig)(f:Nat)(ios:List Nat)(p:List Dir)(m:Nat)(σ:St):Option sg.R:=
 match P.funcs[f]? with
 |some fn=>(match fn.body with
  |some c=>zW P A f fn.ntmps (loOf ios) k C 0 p c m σ (λe σ=>match e with
   |.exit _=>none
   |_=>po P sg fn ios σ)
  |none=>none)
 |none=>none
end Go.Eng
namespace Go.Eng
open Go.RowKit
def LR {α β:Type}(R:α->β->Prop):List α->List β->Prop
 |[],[]=>True
 |a::r,b::s=>R a b/\LR R r s
 |_,_=>False
theorem LR.length {α β:Type}{R:α->β->Prop}:∀{l:List α} {m:List β},LR R l m->l.length=m.length
 |[],[],_=>rfl
 |_::_,_::_,h=>by simp[LR.length h.2]
 |[],_::_,h=>h.elim
 |_::_,[],h=>h.elim
theorem LR.mono {α β:Type}{R R':α->β->Prop}:∀{l:List α} {m:List β},LR R l m->(∀a∈l,∀b,R a b->R' a b)->LR R' l m
 |[],[],_,_=>trivial
 |a::_,b::_,h,k=>⟨k a (by simp) b h.1,LR.mono h.2 λx hx=>k x (by simp[hx])⟩
 |[],_::_,h,_=>h.elim
 |_::_,[],h,_=>h.elim
theorem LR.append {α β:Type}{R:α->β->Prop}:∀{l:List α} {m:List β} {l':List α} {m':List β},LR R l m->LR R l' m'->LR R (l++l') (m++m')
 |[],[],_,_,_,k=>k
 |_::_,_::_,_,_,h,k=>⟨h.1,LR.append h.2 k⟩
 |[],_::_,_,_,h,_=>h.elim
 |_::_,[],_,_,h,_=>h.elim
theorem LR.split {α β:Type}{R:α->β->Prop}:∀{l l':List α} {m:List β},LR R (l++l') m->∃m1 m2,m=m1++m2/\LR R l m1/\LR R l' m2
 |[],_,m,h=>⟨[],m,rfl,trivial,h⟩
 |a::r,l',b::s,h=>by
  obtain⟨m1,m2,e,h1,h2⟩:=LR.split (l:=r) h.2;exact⟨b::m1,m2,by rw[e];rfl,⟨h.1,h1⟩,h2⟩
 |_::_,_,[],h=>h.elim
theorem LR.get {α β:Type}{R:α->β->Prop}:∀{l:List α} {m:List β},LR R l m->∀(i:Nat) a,l[i]?=some a->∃b,m[i]?=some b/\R a b
 |a::_,b::_,h,0,x,hx=>⟨b,rfl,by simp at hx;exact hx ▸ h.1⟩
 |_::r,_::s,h,i+1,x,hx=>by simpa using LR.get (l:=r) (m:=s) h.2 i x (by simpa using hx)
 |[],_,_,_,_,hx=>by simp at hx
 |_::_,[],h,_,_,_=>h.elim
theorem LR.of_get {α β:Type}{R:α->β->Prop}:∀{l:List α} {m:List β},l.length=m.length->(∀(i:Nat) a b,l[i]?=some a->m[i]?=some b->R a b)->LR R l m
 |[],[],_,_=>trivial
 |a::r,b::s,hl,h=>⟨h 0 a b rfl rfl,LR.of_get (by simpa using hl) λi x y hx hy=>h (i+1) x y (by simpa using hx) (by simpa using hy)⟩
 |[],_::_,hl,_=>by simp at hl
 |_::_,[],hl,_=>by simp at hl
theorem LR.take {α β:Type}{R:α->β->Prop}:∀{l:List α} {m:List β} (n:Nat),LR R l m->LR R (l.take n) (m.take n)
 |_,_,0,_=>by simp[LR]
 |[],[],_+1,_=>by simp[LR]
 |_::_,_::_,n+1,h=>⟨h.1,LR.take n h.2⟩
 |[],_::_,_+1,h=>h.elim
 |_::_,[],_+1,h=>h.elim
theorem LR.drop {α β:Type}{R:α->β->Prop}:∀{l:List α} {m:List β} (n:Nat),LR R l m->LR R (l.drop n) (m.drop n)
 |_,_,0,h=>by simpa using h
 |[],[],_+1,_=>by simp[LR]
 |_::_,_::_,n+1,h=>by simpa using LR.drop n h.2
 |[],_::_,_+1,h=>h.elim
 |_::_,[],_+1,h=>h.elim
def okI (k:IntKind)(n:Int):Prop:=okB k n=true
structure TE where
 te:TypeId
 ι:Nat->Nat->Option Nat
 ow:Nat->Nat->Option Nat
 cur:Nat->Nat->Value
def errV (te:TE):Option Int->Value
 |none=>.nilIface
 |some n=>.iface te.te (.int .i64 n)
def RefV (te:TE)(t:Nat):Option Nat->Value->Prop
 |none,v=>v=.pointer none
 |some i,v=>∃b,te.ι t i=some b/\v=.pointer (some ⟨b,0,none⟩)
theorem RefV.one {te:TE}{t:Nat}:∀{r:Option Nat} {v:Value},RefV te t r v->Go.Eng.one v=true
 |none,_,h=>by rw[show _=_ from h];rfl
 |some _,_,h=>by obtain⟨b,_,rfl⟩:=h;rfl
def fnV:Option Nat->Value
 |none=>.nilFunc
 |some f=>.func (.func f) #[] #[]
def At (w:World)(b o:Nat)(vs:List Value):Prop:=∀(j:Nat)(v:Value),vs[j]?=some v->w.cell? ⟨b,o+j,none⟩=some v
def RepT (te:TE)(w:World)(Sb:Nat->Prop):(k:K)->k.T->List Value->Prop
 |.int k,n,cs=>cs=[.int k n]/\okI k n
 |.bool,b,cs=>cs=[.bool b]
 |.str,s,cs=>∃sb,cs=[.string sb]/\bytesOf sb=s
 |.err,e,cs=>cs=[errV te e]
 |.fn,f,cs=>cs=[fnV f]
 |.ref t,r,cs=>∃v,cs=[v]/\RefV te t r v
 |.slice e,xs,cs=>∃a cap,cs=[.slice a (xs:List e.T).length cap]/\(xs:List e.T).length<=cap/\((xs:List e.T)≠[]->∃ad,a=some ad/\ad.spot=none/\Sb ad.block /\
   ∀(i:Nat) (x:e.T),(xs:List e.T)[i]?=some x->∃vs,RepT te w Sb e x vs/\At w ad.block (ad.off+i*e.size) vs)
 |.prod a b,x,cs=>∃c1 c2,cs=c1++c2/\RepT te w Sb a x.1 c1/\RepT te w Sb b x.2 c2
 |.strct a,x,cs=>RepT te w Sb a x cs
theorem RepT.len {te:TE}{w:World}{Sb:Nat->Prop}:∀{k:K} {x:k.T} {cs:List Value},RepT te w Sb k x cs->cs.length=k.size
 |.int _,_,_,h=>by rw[h.1];rfl
 |.bool,_,_,h=>by rw[show _=_ from h];rfl
 |.str,_,_,h=>by obtain⟨sb,rfl,_⟩:=h;rfl
 |.err,_,_,h=>by rw[show _=_ from h];rfl
 |.fn,_,_,h=>by rw[show _=_ from h];rfl
 |.ref _,_,_,h=>by obtain⟨v,rfl,_⟩:=h;rfl
 |.slice e,_,_,h=>by obtain⟨a,cap,rfl,_⟩:=h;rfl
 |.prod a b,_,_,h=>by
  obtain⟨c1,c2,rfl,h1,h2⟩:=h;simp[K.size,RepT.len h1,RepT.len h2]
 |.strct a,_,_,h=>by simpa[K.size]using RepT.len (k:=a) h
theorem At.of {w w':World}{b o:Nat}{vs:List Value}(hb:w'.heap[b]?=w.heap[b]?)(h:At w b o vs):At w' b o vs:=
 λj v hv=>(World.cell?_of_block (a:=⟨b,o+j,none⟩) hb).trans (h j v hv)
theorem RepT.mono {te:TE}{w w':World}{Sb Sb':Nat->Prop}(hb:∀b,Sb b->w'.heap[b]?=w.heap[b]?)(hs:∀b,Sb b->Sb' b):
  ∀{k:K} {x:k.T} {cs:List Value},RepT te w Sb k x cs->RepT te w' Sb' k x cs
 |.int _,_,_,h=>h
 |.bool,_,_,h=>h
 |.str,_,_,h=>h
 |.err,_,_,h=>h
 |.fn,_,_,h=>h
 |.ref _,_,_,h=>h
 |.slice e,xs,_,h=>by
  obtain⟨a,cap,hc,hl,hx⟩:=h;refine⟨a,cap,hc,hl,λhne=>?_⟩;obtain⟨ad,ha,hsp,hS,hel⟩:=hx hne;refine⟨ad,ha,hsp,hs _ hS,λi x hi=>?_⟩;obtain⟨vs,h1,h2⟩:=hel i x hi;exact⟨vs,RepT.mono hb hs h1,h2.of (hb _ hS)⟩
 |.prod a b,_,_,h=>by
  obtain⟨c1,c2,hc,h1,h2⟩:=h;exact⟨c1,c2,hc,RepT.mono hb hs h1,RepT.mono hb hs h2⟩
 |.strct a,x,_,h=>RepT.mono (k:=a) (x:=x) hb hs h
structure Cx where
 te:TE
 w:World
 S:Nat->Prop
 β:Nat->Option Nat
 hp:Nat->Option Obj
def js:jY->Nat
 |.fld o=>o
 |.idx _ sz i=>i.toNat*sz
def aS (p:List jY):Nat:=p.foldr (λs n=>js s+n) 0
def w6:jY->Prop
 |.fld _=>True
 |.idx n _ i=>0<=i/\i<(n:Int)
def j4 (p:List jY):Prop:=∀s∈p,w6 s
def Blk (w:World)(b:Nat)(arr:Array Value):Prop:=∃T fz,w.heap[b]?=some (.cells arr T fz)
def FzOk (n:Nat)(fz:Nat×Nat):Prop:=(∀o,o<n->¬ (fz.1<=o/\o<fz.2))/\fz.1<=fz.2
def bD (w:World)(b:Nat)(arr:Array Value):Prop:=∃T fz,w.heap[b]?=some (.cells arr T fz)/\FzOk arr.size fz
theorem bD.blk {w:World}{b:Nat}{arr:Array Value}(h:bD w b arr):Blk w b arr:=by
 obtain⟨T,fz,h,_⟩:=h;exact⟨T,fz,h⟩
def cz (c:Cx)(id:Nat)(k:K)(off len n:Nat)(v:Value):Prop:=
 match c.β id with
 |none=>v=.slice none 0 0/\n=0/\off=0/\len=0
 |some b=>∃cap arr a,v=.slice (some a) len cap/\len<=cap/\Blk c.w b arr/\(off+len<=n)/\((0<cap->a=⟨b,off*k.size,none⟩/\(off+cap)*k.size<=arr.size))
def oW (c:Cx)(id:Nat)(n:Nat)(k:K)(ys:List k.T)(v:Value):Prop:=
 ∃a cap,v=.slice a ys.length cap/\ys.length<=cap/\(ys≠[]->∃ad,a=some ad/\ad.spot=none/\(c.S ad.block\/(c.β id=some ad.block/\ad.off+ys.length*k.size<=n*k.size)) /\
  ∀(i:Nat) (x:k.T),ys[i]?=some x->∃vs,RepT c.te c.w c.S k x vs/\At c.w ad.block (ad.off+i*k.size) vs)
def Obj.isMap:Obj->Bool
 |.mp _ _=>true
 |.fm _=>true
 |_=>false
def RepS (c:Cx):S->Value->Prop
 |.undef,v=>one v=true
 |.bool b,v=>v=.bool b
 |.int k n,v=>v=.int k n/\okI k n
 |.str s,v=>∃sb,v=.string sb/\bytesOf sb=s
 |.err e,v=>v=errV c.te e
 |.fn f,v=>v=fnV f
 |.nilS,v=>v=.slice none 0 0
 |.sl k xs,v=>RepT c.te c.w c.S (.slice k) xs [v]
 |.vw id g,v=>one v=true/\∃o,c.hp id=some o/\∀k xs gen hist frz,o=.row k xs gen hist frz->g<=gen/\(g=gen->cz c id k 0 xs.length xs.length v)/\(g≠gen->∀ys,hist[gen-1-g]?=some ys->oW c id xs.length k ys v)
 |.pv id g off len,v=>one v=true/\∃o,c.hp id=some o/\∀k xs gen hist frz,o=.row k xs gen hist frz->g<=gen/\(g=gen->cz c id k off len xs.length v)
 |.ptr id g i p,v=>one v=true/\∃o,c.hp id=some o/\j4 p/\(∀cs,o=.box cs->cs≠[]->∃b,c.β id=some b/\v=.pointer (some ⟨b,aS p,none⟩)/\g=0/\i=0) /\
   (∀k xs gen hist frz,o=.row k xs gen hist frz->g<=gen/\(g=gen->i<xs.length/\∃b,c.β id=some b/\v=.pointer (some ⟨b,i*k.size+aS p,none⟩)))
 |.mp id,v=>one v=true/\∃o,c.hp id=some o/\(o.isMap=true->∃b,c.β id=some b/\v=.map (some b))
 |.clo f k x,v=>∃b o vs,c.S b/\v=.func (.func f) #[] #[.pointer (some ⟨b,o,none⟩)]/\RepT c.te c.w c.S k x vs/\At c.w b o vs
 |.ipt k x p,v=>j4 p/\∃b o vs,c.S b/\v=.pointer (some ⟨b,o+aS p,none⟩)/\RepT c.te c.w c.S k x vs/\At c.w b o vs
 |.mv ..,_=>False
 |.io ..,_=>False
 |.co ..,_=>False
 |.nilP,v=>v=.pointer none
 |.ref t r,v=>RefV c.te t r v
 |.rb t i,v=>∃b,c.te.ι t i=some b/\v=.pointer (some ⟨b,0,none⟩)
 |.rp t i off,v=>∃b,c.te.ι t i=some b/\v=.pointer (some ⟨b,off,none⟩)
 |.ov cid g i,v=>one v=true/\∃o,c.hp cid=some o/\∀t off m k xs g' p,o=.col t off m k xs g' p->g<=g'/\(g=g'->(c.te.ι t i).isSome=true/\v=c.te.cur cid i)
 |.oe cid g i j p,v=>one v=true/\∃o,c.hp cid=some o/\j4 p/\∀t off m (e:K) (xs:List (K.slice e).T) g' q,o=.col t off m (.slice e) xs g' q->g<=g'/\(g=g'->(c.te.ι t i).isSome=true/\j<(xs.getD i []).length/\∃b,c.te.ow cid i=some b/\v=.pointer (some ⟨b,j*e.size+aS p,none⟩))
 |.bm f id,v=>∃p,v=.func (.func f) #[p] #[]/\∃o,c.hp id=some o/\∀cs,o=.box cs->cs≠[]->∃b,c.β id=some b/\p=.pointer (some ⟨b,0,none⟩)
def MZ (c:Cx)(b:Nat)(k:K)(xs:List k.T):Prop:=
 ∃arr,Blk c.w b arr/\xs.length*k.size<=arr.size/\∀(i:Nat) (x:k.T),xs[i]?=some x->∃vs,RepT c.te c.w c.S k x vs/\∀(j:Nat) v,vs[j]?=some v->arr[i*k.size+j]?=some v
def RepE (te:TE):(k:K)->k.T->Value->Prop
 |.int k,n,v=>v=.int k n/\okI k n
 |.bool,b,v=>v=.bool b
 |.ref t,r,v=>RefV te t r v
 |_,_,_=>False
def RepM (te:TE)(k:K)(e:Int×k.T)(m:MapEntry):Prop:=m.key=.int .i64 e.1/\RepE te k e.2 m.val
def RepO (c:Cx)(id:Nat):Obj->Prop
 |.box cs=>cs≠[]->∃b arr,c.β id=some b/\bD c.w b arr/\LR (RepS c) cs (arr.toList.take cs.length)
 |.row k xs _ _ frz=>match c.β id with
  |none=>xs=[]
  |some b=>MZ c b k xs/\(frz=false->∃arr,bD c.w b arr)/\(frz=true->c.S b)
 |.mp k es=>∃b ents clock,c.β id=some b/\c.w.heap[b]?=some (.map ents clock)/\LR (RepM c.te k) es ents.toList
 |.col ..=>True
 |.fm es=>∃b ents clock,c.β id=some b/\c.w.heap[b]?=some (.map ents clock)/\LR (λ(e:Int×Nat×Nat) (m:MapEntry)=>m.key=.int .i64 e.1/\RepS c (.bm e.2.1 e.2.2) m.val) es ents.toList
def Obj.live:Obj->Bool
 |.box cs=>!cs.isEmpty
 |.row _ _ _ _ frz=>!frz
 |.mp _ _=>true
 |.col ..=>false
 |.fm _=>true
def Live (c:Cx)(id b:Nat):Prop:=c.β id=some b/\∃o,c.hp id=some o/\o.live=true
structure Fr (w0:World)(M:Nat->Prop)(w:World):Prop where
 os:w.os=w0.os
 tape:w.tape=w0.tape
 output:w.output=w0.output
 size:w0.heap.size<=w.heap.size
 block:∀b,b<w0.heap.size->¬ M b->w.heap[b]?=w0.heap[b]?
structure MS where
 m:Nat->Prop
 s:Nat->Prop
 x:Nat->Prop
def MS.f (M:MS)(b:Nat):Prop:=M.m b\/M.x b
instance:CoeFun MS (λ_=>Nat->Prop):=⟨MS.m⟩
structure Mem (w0:World)(M:MS)(c:Cx):Prop where
 fr:Fr w0 M.f c.w
 below:∀b,c.S b->b<c.w.heap.size
 obj:∀id o,c.hp id=some o->RepO c id o
 live:∀id b,Live c id b->b<c.w.heap.size/\¬ c.S b/\(w0.heap.size<=b\/M b)
 one:∀id id' b,Live c id b->Live c id' b->id=id'
 sup:∀b,c.S b->M.s b\/w0.heap.size<=b\/M.m b
 inf:∀b,M.s b->c.S b
def RepV (c:Cx):AV->Value->Prop
 |.undef,_=>True
 |.val true cs,v=>∃arr,v=.agg arr/\LR (RepS c) cs arr.toList
 |.val false cs,v=>∃s,cs=[s]/\RepS c s v
 |.tup vs,v=>∃arr,v=.tuple arr/\LR (λ(p:Bool×List S) u=>if p.1 then ∃a,u=Value.agg a/\LR (RepS c) p.2 a.toList else ∃s,p.2=[s]/\RepS c s u) vs arr.toList
structure Regs (c:Cx)(n:Nat)(env:List (Nat×AV))(a:Act):Prop where
 size:a.tmps.size=n
 defers:a.defers=[]
 rep:∀t,RepV c (look env t) (a.tmps.getD t undef)
end Go.Eng
namespace Go.Eng
open Go.RowKit
def Obj.isRow:Obj->Bool
 |.row ..=>true
 |.box _=>false
 |.mp _ _=>false
 |.col ..=>false
 |.fm _=>false
structure Ext (c c':Cx):Prop where
 te:c'.te=c.te
 stab:∀b,c.S b->c'.w.heap[b]?=c.w.heap[b]?
 sub:∀b,c.S b->c'.S b
 ids:∀id s v,s.ids=[id]->RepS c s v->RepS c' s v
theorem Ext.rep {c c':Cx}(h:Ext c c'){s:S}{v:Value}(hr:RepS c s v):RepS c' s v:=by
 cases s with
 |undef=>exact hr
 |bool b=>exact hr
 |int k n=>exact hr
 |str s=>exact hr
 |err e=>simp only[RepS]at hr ⊢;rw[h.te];exact hr
 |fn f=>exact hr
 |nilS=>exact hr
 |sl k xs=>simp only[RepS]at hr ⊢;rw[h.te];exact RepT.mono h.stab h.sub hr
 |vw id g=>exact h.ids id _ v rfl hr
 |pv id g off len=>exact h.ids id _ v rfl hr
 |ptr id g i p=>exact h.ids id _ v rfl hr
 |mp id=>exact h.ids id _ v rfl hr
 |ov id g i=>exact h.ids id _ v rfl hr
 |oe id g i j p=>exact h.ids id _ v rfl hr
 |bm f id=>exact h.ids id _ v rfl hr
 |rp t i off=>exact h.ids _ _ v rfl hr
 |rb t i=>simp only[RepS]at hr ⊢;rw[h.te];exact hr
 |ref t r=>simp only[RepS]at hr ⊢;rw[h.te];exact hr
 |nilP=>exact hr
 |co=>exact hr
 |clo f k x=>
  simp only[RepS]at hr ⊢;obtain⟨b,o,vs,hS,hv,ht,ha⟩:=hr;exact⟨b,o,vs,h.sub _ hS,hv,by rw[h.te];exact RepT.mono h.stab h.sub ht,ha.of (h.stab _ hS)⟩
 |ipt k x p=>
  simp only[RepS]at hr ⊢;obtain⟨hp,b,o,vs,hS,hv,ht,ha⟩:=hr;exact⟨hp,b,o,vs,h.sub _ hS,hv,by rw[h.te];exact RepT.mono h.stab h.sub ht,ha.of (h.stab _ hS)⟩
 |mv k xs=>exact hr
 |io k x=>exact hr
theorem Ext.repV {c c':Cx}(h:Ext c c'){a:AV}{v:Value}(hr:RepV c a v):RepV c' a v:=by
 cases a with
 |undef=>trivial
 |val g cs=>
  cases g with
  |true=>obtain⟨arr,hv,hl⟩:=hr;exact⟨arr,hv,hl.mono λ_ _ _=>h.rep⟩
  |false=>obtain⟨s,hc,hs⟩:=hr;exact⟨s,hc,h.rep hs⟩
 |tup vs=>
  obtain⟨arr,hv,hl⟩:=hr;refine⟨arr,hv,hl.mono λp _ u hu=>?_⟩;split at hu
  ·rename_i hp;rw[NI hp];obtain⟨a,h1,h2⟩:=hu;exact⟨a,h1,h2.mono λ_ _ _=>h.rep⟩
  ·rename_i hp;rw[ND hp];obtain⟨a,h1,h2⟩:=hu;exact⟨a,h1,h.rep h2⟩
theorem Ext.regs {c c':Cx}{n:Nat}{env:List (Nat×AV)}{a:Act}(h:Ext c c')(hr:Regs c n env a):Regs c' n env a:=
 ⟨hr.size,hr.defers,λt=>h.repV (hr.rep t)⟩
theorem Ext.refl (c:Cx):Ext c c:=⟨rfl,λ_ _=>rfl,λ_ h=>h,λ_ _ _ _ h=>h⟩
theorem Ext.trans {c c' c'':Cx}(h:Ext c c')(k:Ext c' c''):Ext c c'':=
 ⟨k.te.trans h.te,λb hb=>(k.stab b (h.sub b hb)).trans (h.stab b hb),λb hb=>k.sub b (h.sub b hb),λid s v hs hr=>k.ids id s v hs (h.ids id s v hs hr)⟩
theorem Ext.repO {c c':Cx}(h:Ext c c'){id:Nat}{o:Obj}(hβ:c'.β id=c.β id)(hb:∀b,c.β id=some b->o.live=true\/o.isRow=true->c'.w.heap[b]?=c.w.heap[b]?)(hr:RepO c id o):RepO c' id o:=by
 cases o with
 |box cs=>
  intro hne;obtain⟨b,arr,h1,⟨T,fz,h2,h3⟩,h4⟩:=hr hne;exact⟨b,arr,by rw[hβ];exact h1,⟨T,fz,by rw[hb b h1 (.inl (by simp[Obj.live,hne]))];exact h2,h3⟩,h4.mono λ_ _ _=>h.rep⟩
 |mp k es=>
  obtain⟨b,ents,clock,h1,h2,h3⟩:=hr;exact⟨b,ents,clock,by rw[hβ];exact h1,by rw[hb b h1 (.inl rfl)];exact h2,by rw[h.te];exact h3⟩
 |fm es=>
  obtain⟨b,ents,clock,h1,h2,h3⟩:=hr;exact⟨b,ents,clock,by rw[hβ];exact h1,by rw[hb b h1 (.inl rfl)];exact h2,h3.mono λ_ _ _ q=>⟨q.1,h.rep q.2⟩⟩
 |col=>trivial
 |row k xs gen hist frz=>
  simp only[RepO]at hr ⊢;rw[hβ];cases hbb:c.β id with
  |none=>rw[hbb]at hr;exact hr
  |some b=>
   rw[hbb]at hr;obtain⟨⟨arr,⟨T,fz,h1⟩,h2,h3⟩,h4,h5⟩:=hr;have e:=hb b hbb (.inr rfl);refine⟨⟨arr,⟨T,fz,by rw[e];exact h1⟩,h2,λi x hx=>?_⟩,λhf=>?_,λhf=>h.sub b (h5 hf)⟩
   ·obtain⟨vs,q1,q2⟩:=h3 i x hx;exact⟨vs,by rw[h.te];exact RepT.mono h.stab h.sub q1,q2⟩
   ·obtain⟨arr',T',fz',q1,q2⟩:=h4 hf;exact⟨arr',T',fz',by rw[e];exact q1,q2⟩
theorem cz.of {c c':Cx}{id:Nat}{k:K}{off len n:Nat}{v:Value}(hβ:c'.β id=c.β id)(hb:∀b,c.β id=some b->∀arr,Blk c.w b arr->∃arr',Blk c'.w b arr'/\arr.size<=arr'.size)(h:cz c id k off len n v):cz c' id k off len n v:=by
 simp only[cz]at h ⊢;rw[hβ];cases hbb:c.β id with
 |none=>rw[hbb]at h;exact h
 |some b=>
  rw[hbb]at h;obtain⟨cap,arr,a,h1,h2,h3,h4,h5⟩:=h;obtain⟨arr',q1,q2⟩:=hb b hbb arr h3;exact⟨cap,arr',a,h1,h2,q1,h4,λhc=>⟨(h5 hc).1,Oa (h5 hc).2 q2⟩⟩
theorem oW.of {c c':Cx}{id n n':Nat}{k:K}{ys:List k.T}{v:Value}(hn:n<=n')(te:c'.te=c.te)(stab:∀b,c.S b->c'.w.heap[b]?=c.w.heap[b]?)(sub:∀b,c.S b->c'.S b)
  (hβ:c'.β id=c.β id) (hb:∀b,c.β id=some b->c'.w.heap[b]?=c.w.heap[b]?) (h:oW c id n k ys v):oW c' id n' k ys v:=by
 obtain⟨a,cap,h1,h2,h3⟩:=h;refine⟨a,cap,h1,h2,λhne=>?_⟩;obtain⟨ad,q1,q2,q3,q4⟩:=h3 hne;refine⟨ad,q1,q2,q3.imp (sub _) (λe=>by rw[hβ];exact⟨e.1,Oa e.2 (Of _ hn)⟩),λi x hx=>?_⟩;obtain⟨vs,r1,r2⟩:=q4 i x hx;refine⟨vs,by rw[te];exact RepT.mono stab sub r1,r2.of ?_⟩;rcases q3 with q3|q3
 ·exact stab _ q3
 ·exact hb _ q3.1
def S.isRp:S->Bool
 |.rp ..=>true
 |_=>false
theorem nT {c c':Cx}{s:S}{v:Value}(te:c'.te=c.te)(hs:s.isRp=true)(h:RepS c s v):RepS c' s v:=by
 cases s<;>simp only[S.isRp,Od]at hs;simp only[RepS]at h ⊢;rw[te];exact h
def S.isNew:S->Bool
 |.rp ..| .ov ..| .oe ..| .bm ..| .mp _=>true
 |_=>false
theorem cv {c c' : Cx} {id : Nat} {s : S} {v : Value} (te : c'.te = c.te) {o : Obj} (hhp : c'.hp id = some o) (hno : o.isRow = true ∨ o = .box []) (hs : s.ids = [id]) (hn : s.isNew = true) (h : RepS c s v) : RepS c' s v := by
  have hc : ∀ t off m k (xs : List k.T) g p, o ≠ .col t off m k xs g p := by
    rintro t off m k xs g p rfl; rcases hno with q | q <;> cases q
  cases s <;> simp only [S.isNew, Od] at hn <;> simp only [S.ids, NY, OV] at hs
  case rp t i off => exact nT (c := c) te rfl h
  case mp j => subst hs; refine ⟨h.1, o, hhp, fun e => ?_⟩; rcases hno with q | rfl
               · cases o <;> simp [Obj.isRow, Obj.isMap] at q e
               · simp [Obj.isMap] at e
  case ov j g i => subst hs; exact ⟨h.1, o, hhp, fun t off m k xs g' p e => (hc _ _ _ _ _ _ _ e).elim⟩
  case oe j g i q p => subst hs; obtain ⟨h0, o', h1, hpi, h2⟩ := h; exact ⟨h0, o, hhp, hpi, fun t off m e xs g' q' he => (hc _ _ _ _ _ _ _ he).elim⟩
  case bm f j =>
    subst hs; obtain ⟨p, hv, o', h1, h2⟩ := h
    refine ⟨p, hv, o, hhp, fun cs e hne => ?_⟩
    subst e
    rcases hno with q | q
    · cases q
    · cases q; exact (hne rfl).elim
theorem sI {c c':Cx}{id:Nat}{s:S}{v:Value}(te:c'.te=c.te){cs cs':List S}(e1:c.hp id=some (.box cs))(hne:cs≠[])(hhp:c'.hp id=some (.box cs'))(hβ:c'.β id=c.β id)(hs:s.ids=[id])(hn:s.isNew=true)(h:RepS c s v):RepS c' s v:=by
 cases s<;>simp only[S.isNew,Od]at hn<;>simp only[S.ids,NY,OV]at hs
 case rp t i off=>exact nT (c:=c) te rfl h
 case mp j=>subst hs;exact⟨h.1,_,hhp,λe=>by simp[Obj.isMap]at e⟩
 case ov j g i=>subst hs;exact⟨h.1,_,hhp,λt off m k xs g' p e=>by cases e⟩
 case oe j g i q p=>subst hs;obtain⟨h0,o',h1,hpi,h2⟩:=h;exact⟨h0,_,hhp,hpi,λt off m e xs g' q' he=>by cases he⟩
 case bm f j=>
  subst hs;obtain⟨p,hv,o',h1,h2⟩:=h;rw[e1]at h1;cases h1;obtain⟨b,q1,q2⟩:=h2 cs rfl hne;exact⟨p,hv,_,hhp,λcs2 e _=>⟨b,by rw[hβ];exact q1,q2⟩⟩
theorem RepS.same {c c':Cx}{id:Nat}{s:S}{v:Value}(te:c'.te=c.te)(stab:∀b,c.S b->c'.w.heap[b]?=c.w.heap[b]?)(sub:∀b,c.S b->c'.S b)
  (hβ:c'.β id=c.β id) (hb:∀b o,c.β id=some b->c.hp id=some o->o.isRow=true->c'.w.heap[b]?=c.w.heap[b]?) (ho:∀o,c.hp id=some o->c'.hp id=some o) (hs:s.ids=[id]) (h:RepS c s v):RepS c' s v:=by
 cases s<;>simp only[S.ids,NY,OV,reduceCtorEq]at hs
 case vw j g=>
  subst hs;obtain⟨h0,o,h1,h2⟩:=h;refine⟨h0,o,ho o h1,λk xs gen hist frz e=>?_⟩;have hb':∀b,c.β j=some b->c'.w.heap[b]?=c.w.heap[b]?:=λb hbb=>hb b o hbb h1 (by rw[e];rfl)
  refine⟨(h2 k xs gen hist frz e).1,λhg=>?_,λhg ys hy=>?_⟩
  ·exact cz.of hβ (λb hbb arr ⟨T,fz,q⟩=>⟨arr,⟨T,fz,by rw[hb' b hbb];exact q⟩,NG _⟩) ((h2 k xs gen hist frz e).2.1 hg)
  ·exact oW.of (NG _) te stab sub hβ hb' ((h2 k xs gen hist frz e).2.2 hg ys hy)
 case pv j g off len=>
  subst hs;obtain⟨h0,o,h1,h2⟩:=h;refine⟨h0,o,ho o h1,λk xs gen hist frz e=>⟨(h2 k xs gen hist frz e).1,λhg=>?_⟩⟩;exact cz.of hβ (λb hbb arr ⟨T,fz,q⟩=>⟨arr,⟨T,fz,by rw[hb b o hbb h1 (by rw[e];rfl)];exact q⟩,NG _⟩) ((h2 k xs gen hist frz e).2 hg)
 case ptr j g i p=>
  subst hs;obtain⟨h0,o,h1,hp,h2,h3⟩:=h;refine⟨h0,o,ho o h1,hp,λcs e hne=>?_,λk xs gen hist frz e=>?_⟩
  ·rw[hβ];exact h2 cs e hne
  ·rw[hβ];exact h3 k xs gen hist frz e
 case mp j=>
  subst hs;obtain⟨h0,o,h1,h2⟩:=h;exact⟨h0,o,ho o h1,λe=>by rw[hβ];exact h2 e⟩
 case rp t i off=>simp only[RepS]at h ⊢;rw[te];exact h
 case ov j g i=>
  subst hs;obtain⟨h0,o,h1,h2⟩:=h;exact⟨h0,o,ho o h1,λt off m k xs g' p e=>by rw[te];exact h2 t off m k xs g' p e⟩
 case oe j g i q p=>
  subst hs;obtain⟨h0,o,h1,hp,h2⟩:=h;exact⟨h0,o,ho o h1,hp,λt off m e xs g' q' he=>by rw[te];exact h2 t off m e xs g' q' he⟩
 case bm f j=>
  subst hs;obtain⟨p,hv,o,h1,h2⟩:=h;exact⟨p,hv,o,ho o h1,λcs e hne=>by rw[hβ];exact h2 cs e hne⟩
def upd {α:Type}(f:Nat->Option α)(i:Nat)(a:α):Nat->Option α:=λj=>if j=i then some a else f j
def Cx.new (c:Cx)(w':World)(d b:Nat)(o:Obj):Cx:={ c with w:=w',β:=upd c.β d b,hp:=upd c.hp d o }
theorem gY {c:Cx}{id b:Nat}{o:Obj}(h:RepO c id o)(hl:o.live=true\/o.isRow=true)(hβ:c.β id=some b):∃x,c.w.heap[b]?=some x:=by
 cases o with
 |box cs=>
  rcases hl with hl|e
  ·simp[Obj.live]at hl;obtain⟨b',arr,h1,⟨T,fz,h2,h3⟩,h4⟩:=h hl;rw[hβ]at h1;cases h1;exact⟨_,h2⟩
  ·cases e
 |mp k es=>
  obtain⟨b',ents,clock,h1,h2,_⟩:=h;rw[hβ]at h1;cases h1;exact⟨_,h2⟩
 |fm es=>
  obtain⟨b',ents,clock,h1,h2,_⟩:=h;rw[hβ]at h1;cases h1;exact⟨_,h2⟩
 |col=>rcases hl with hl|hl<;>cases hl
 |row k xs gen hist frz=>
  simp only[RepO,hβ]at h;obtain⟨⟨arr,⟨T,fz,h1⟩,_⟩,_⟩:=h;exact⟨_,h1⟩
def Grew (w w':World):Prop:=w'.os=w.os/\w'.tape=w.tape/\w'.output=w.output/\w.heap.size<=w'.heap.size/\∀b,b<w.heap.size->w'.heap[b]?=w.heap[b]?
theorem Grew.refl (w:World):Grew w w:=⟨rfl,rfl,rfl,NG _,λ_ _=>rfl⟩
theorem Grew.trans {a b c:World}(h:Grew a b)(k:Grew b c):Grew a c:=by
 obtain⟨h1,h2,h3,h4,h5⟩:=h;obtain⟨k1,k2,k3,k4,k5⟩:=k;exact⟨k1.trans h1,k2.trans h2,k3.trans h3,Oa h4 k4,λi hi=>(k5 i (by omega)).trans (h5 i hi)⟩
theorem bE {w:World}{b:Nat}{x:Go.Obj}(h:w.heap[b]?=some x):b<w.heap.size:=by
 rcases Oy b w.heap.size with q|q
 ·exact q
 ·rw[Ow q]at h;cases h
theorem Fr.grew {w0 w w':World}{M:Nat->Prop}(h:Fr w0 M w)(g:Grew w w'):Fr w0 M w':=by
 obtain⟨h1,h2,h3,h4,h5⟩:=g;exact⟨h1.trans h.os,h2.trans h.tape,h3.trans h.output,Oa h.size h4,λb hb hm=>(h5 b (N1 hb h.size)).trans (h.block b hb hm)⟩
theorem Ext.grew {c:Cx}{w':World}{w0:World}{M:MS}(hm:Mem w0 M c)(g:Grew c.w w'):Ext c { c with w:=w' }:=by
 refine⟨rfl,λb hb=>g.2.2.2.2 b (hm.below b hb),λ_ h=>h,λid s v hs hr=>?_⟩;cases s<;>simp only[S.ids,NY,OV,reduceCtorEq]at hs
 case vw j g'=>
  subst hs;obtain⟨h0,o,h1,h2⟩:=hr;refine⟨h0,o,h1,λk xs gen hist frz e=>⟨(h2 k xs gen hist frz e).1,λhg=>?_,λhg ys hy=>?_⟩⟩
  ·refine cz.of (c:=c) (c':={ c with w:=w' }) rfl (λb hbb arr ⟨T,fz,q⟩=>⟨arr,⟨T,fz,(g.2.2.2.2 b (bE q)).trans q⟩,NG _⟩) ((h2 k xs gen hist frz e).2.1 hg)
  ·obtain⟨a,cap,q1,q2,q3⟩:=(h2 k xs gen hist frz e).2.2 hg ys hy;refine⟨a,cap,q1,q2,λhne=>?_⟩;obtain⟨ad,r1,r2,r3,r4⟩:=q3 hne;refine⟨ad,r1,r2,r3,λi x hx=>?_⟩;obtain⟨vs,t1,t2⟩:=r4 i x hx;refine⟨vs,RepT.mono (λb hb=>g.2.2.2.2 b (hm.below b hb)) (λ_ h=>h) t1,λj v hv=>?_⟩;have:=t2 j v hv;refine(World.cell?_of_block (a:=⟨ad.block,ad.off+i*k.size+j,none⟩) (g.2.2.2.2 ad.block ?_)).trans this;simp only[World.cell?]at this;split at this
   ·rename_i q;exact bE q
   ·cases this
 case pv j g' off len=>
  subst hs;obtain⟨h0,o,h1,h2⟩:=hr;refine⟨h0,o,h1,λk xs gen hist frz e=>⟨(h2 k xs gen hist frz e).1,λhg=>?_⟩⟩;exact cz.of (c:=c) (c':={ c with w:=w' }) rfl (λb hbb arr ⟨T,fz,q⟩=>⟨arr,⟨T,fz,(g.2.2.2.2 b (bE q)).trans q⟩,NG _⟩) ((h2 k xs gen hist frz e).2 hg)
 case ptr j g' i p=>exact hr
 case mp j=>exact hr
 case rp t i off=>exact hr
 case ov j g' i=>exact hr
 case oe j g' i q p=>exact hr
 case bm f j=>exact hr
theorem Mem.grew {c:Cx}{w':World}{w0:World}{M:MS}(hm:Mem w0 M c)(g:Grew c.w w'):Mem w0 M { c with w:=w' }:=by
 have he:=Ext.grew hm g;refine⟨hm.fr.grew g,λb hb=>N1 (hm.below b hb) g.2.2.2.1,λid o ho=>?_,λid b hl=>?_,hm.one,hm.sup,hm.inf⟩
 ·have hr:=hm.obj id o ho;refine he.repO rfl (λb hb hl=>g.2.2.2.2 b ?_) hr;obtain⟨x,hx⟩:=gY hr hl hb;exact bE hx
 ·obtain⟨h1,h2,h3⟩:=hm.live id b hl;exact⟨N1 h1 g.2.2.2.1,h2,h3⟩
theorem Ext.name {c:Cx}{d:Nat}{β':Nat->Option Nat}{o:Obj}(hd:c.hp d=none)(hβ:∀id,id≠d->β' id=c.β id):Ext c { c with β:=β',hp:=upd c.hp d o }:=by
 refine⟨rfl,λ_ _=>rfl,λ_ h=>h,λid s v hs hr=>?_⟩;cases hrp:s.isRp with
 |true=>exact nT (c:=c) rfl hrp hr
 |false=>
 have hne:id≠d:=by
  rintro rfl;cases s<;>simp only[S.ids,NY,OV,reduceCtorEq]at hs<;>subst hs<;>first
  |(simp[S.isRp]at hrp;done)
  |(obtain⟨_,o,h1,_⟩:=hr;rw[hd]at h1;cases h1;done)
  |(obtain⟨_,_,o,h1,_⟩:=hr;rw[hd]at h1;cases h1;done)
 exact RepS.same (id:=id) (c:=c) rfl (λ_ _=>rfl) (λ_ h=>h) (hβ id hne) (λ_ _ _ _ _=>rfl) (λo ho=>by simp[upd,hne,ho]) hs hr
theorem Mem.name {c:Cx}{w0:World}{M:MS}{d:Nat}{β':Nat->Option Nat}{o:Obj}(hm:Mem w0 M c)(hd:c.hp d=none)(hβ:∀id,id≠d->β' id=c.β id)
  (ho:RepO { c with β:=β',hp:=upd c.hp d o } d o)
  (hb:∀b,β' d=some b->o.live=true->b<c.w.heap.size/\¬ c.S b/\(w0.heap.size<=b\/M b)/\∀id,¬ Live c id b):Mem w0 M { c with β:=β',hp:=upd c.hp d o }:=by
 have he:=Ext.name (c:=c) (o:=o) hd hβ;have hlive:∀id b,Live { c with β:=β',hp:=upd c.hp d o } id b->(id=d/\β' d=some b/\o.live=true)\/(id≠d/\Live c id b):=by
  rintro id b ⟨h1,o',h2,h3⟩;by_cases e:id=d
  ·subst e;simp[upd]at h2;subst h2;exact .inl ⟨rfl,h1,h3⟩
  ·simp[upd,e]at h2;exact .inr ⟨e,(hβ id e).symm.trans h1,o',h2,h3⟩
 refine⟨hm.fr,hm.below,λid o' h=>?_,λid b hl=>?_,λid id' b hl hl'=>?_,hm.sup,hm.inf⟩
 ·by_cases e:id=d
  ·subst e;simp[upd]at h;subst h;exact ho
  ·simp[upd,e]at h;exact he.repO (hβ id e) (λ_ _ _=>rfl) (hm.obj id o' h)
 ·rcases hlive id b hl with⟨rfl,h1,h2⟩|⟨_,h⟩
  ·obtain⟨q1,q2,q3,_⟩:=hb b h1 h2;exact⟨q1,q2,q3⟩
  ·exact hm.live id b h
 ·rcases hlive id b hl with⟨rfl,h1,h2⟩|⟨_,h⟩<;>rcases hlive id' b hl' with⟨rfl,k1,k2⟩|⟨_,k⟩
  ·rfl
  ·exact((hb b h1 h2).2.2.2 _ k).elim
  ·exact((hb b k1 k2).2.2.2 _ h).elim
  ·exact hm.one id id' b h k
def Cx.turn (c:Cx)(id:Nat)(w':World)(S':Nat->Prop)(β':Option Nat)(o':Obj):Cx:=
 { c with w:=w',S:=S',β:=λj=>if j=id then β' else c.β j,hp:=upd c.hp id o' }
structure Turn (w0:World)(M:MS)(c:Cx)(id:Nat)(w':World)(S':Nat->Prop)(β':Option Nat)(o':Obj):Prop where
 os:w'.os=c.w.os
 tape:w'.tape=c.w.tape
 output:w'.output=c.w.output
 size:c.w.heap.size<=w'.heap.size
 blk:∀b,b<c.w.heap.size->¬ Live c id b->w'.heap[b]?=c.w.heap[b]?
 sub:∀b,c.S b->S' b
 sup:∀b,S' b->b<w'.heap.size/\(c.S b\/Live c id b)
 known:∃o,c.hp id=some o
 obj:RepO (c.turn id w' S' β' o') id o'
 fresh:∀b,β'=some b->o'.live=true->b<w'.heap.size/\¬ S' b/\(Live c id b\/c.w.heap.size<=b)
 ids:∀s v,s.ids=[id]->RepS c s v->RepS (c.turn id w' S' β' o') s v
theorem Turn.stab {w0:World}{M:MS}{c:Cx}{id:Nat}{w':World}{S':Nat->Prop}{β':Option Nat}{o':Obj}(hm:Mem w0 M c)(h:Turn w0 M c id w' S' β' o')(b:Nat)(hb:c.S b):w'.heap[b]?=c.w.heap[b]?:=
 h.blk b (hm.below b hb) λhl=>(hm.live id b hl).2.1 hb
theorem Turn.other {w0 : World} {M : MS} {c : Cx} {id : Nat} {w' : World} {S' : Nat → Prop} {β' : Option Nat} {o' : Obj} (hm : Mem w0 M c) (h : Turn w0 M c id w' S' β' o') {j b : Nat} {o : Obj} (hj : j ≠ id)
    (hβ : c.β j = some b) (ho : c.hp j = some o) (hl : o.live = true ∨ o.isRow = true) : w'.heap[b]? = c.w.heap[b]? := by
  obtain ⟨x, hx⟩ := gY (hm.obj j o ho) hl hβ
  refine h.blk b (bE hx) fun hid => ?_
  by_cases hv : o.live = true
  · exact hj (hm.one j id b ⟨hβ, o, ho, hv⟩ hid)
  · cases o with
    | mp k es => exact absurd rfl hv
    | fm es => exact absurd rfl hv
    | col => rcases hl with hl | hl <;> cases hl
    | box cs => rcases hl with hl | hl
                · exact hv hl
                · cases hl
    | row k xs gen hist frz =>
      have hf : frz = true := by simpa [Obj.live] using hv
      have := hm.obj j _ ho
      simp only [RepO, hβ] at this
      exact (hm.live id b hid).2.1 (this.2.2 hf)
theorem Turn.ext {w0:World}{M:MS}{c:Cx}{id:Nat}{w':World}{S':Nat->Prop}{β':Option Nat}{o':Obj}(hm:Mem w0 M c)(h:Turn w0 M c id w' S' β' o'):Ext c (c.turn id w' S' β' o'):=by
 refine⟨rfl,h.stab hm,h.sub,λj s v hs hr=>?_⟩;by_cases hj:j=id
 ·subst hj;exact h.ids s v hs hr
 ·refine RepS.same (id:=j) (c:=c) rfl (h.stab hm) h.sub (by simp[Cx.turn,hj]) (λb o hb ho hrow=>h.other hm hj hb ho (.inr hrow)) (λo ho=>by simp[Cx.turn,upd,hj,ho]) hs hr
theorem Turn.mem {w0:World}{M:MS}{c:Cx}{id:Nat}{w':World}{S':Nat->Prop}{β':Option Nat}{o':Obj}(hm:Mem w0 M c)(h:Turn w0 M c id w' S' β' o'):Mem w0 M (c.turn id w' S' β' o'):=by
 have he:=h.ext hm;have hlive:∀j b,Live (c.turn id w' S' β' o') j b->(j=id/\β'=some b/\o'.live=true)\/(j≠id/\Live c j b):=by
  rintro j b ⟨h1,o,h2,h3⟩;by_cases e:j=id
  ·subst e;simp[Cx.turn,upd]at h1 h2;subst h2;exact .inl ⟨rfl,h1,h3⟩
  ·simp[Cx.turn,upd,e]at h1 h2;exact .inr ⟨e,h1,o,h2,h3⟩
 refine⟨⟨h.os.trans hm.fr.os,h.tape.trans hm.fr.tape,h.output.trans hm.fr.output,Oa hm.fr.size h.size,λb hb hM=>?_⟩,λb hb=>(h.sup b hb).1,λj o ho=>?_,λj b hl=>?_,λj j' b hl hl'=>?_,λb hb=>(h.sup b hb).2.elim (hm.sup b) (λhl=>.inr (hm.live id b hl).2.2),λb hb=>h.sub b (hm.inf b hb)⟩
 ·refine(h.blk b (N1 hb hm.fr.size) λhl=>?_).trans (hm.fr.block b hb hM);rcases(hm.live id b hl).2.2 with q|q
  ·omega
  ·exact hM (.inl q)
 ·by_cases e:j=id
  ·subst e;simp[Cx.turn,upd]at ho;subst ho;exact h.obj
  ·simp[Cx.turn,upd,e]at ho;exact he.repO (by simp[Cx.turn,e]) (λb hb hl=>h.other hm e hb ho hl) (hm.obj j o ho)
 ·rcases hlive j b hl with⟨rfl,h1,h2⟩|⟨hj,h1⟩
  ·obtain⟨q1,q2,q3⟩:=h.fresh b h1 h2;refine⟨q1,q2,?_⟩;rcases q3 with q3|q3
   ·exact(hm.live j b q3).2.2
   ·exact .inl (Oa hm.fr.size q3)
  ·obtain⟨q1,q2,q3⟩:=hm.live j b h1;refine⟨N1 q1 h.size,λhs=>?_,q3⟩;rcases(h.sup b hs).2 with r|r
   ·exact q2 r
   ·exact hj (hm.one j id b h1 r)
 ·rcases hlive j b hl with⟨rfl,h1,h2⟩|⟨hj,h1⟩<;>rcases hlive j' b hl' with⟨e',k1,k2⟩|⟨hj',k1⟩
  ·exact e'.symm
  ·rcases(h.fresh b h1 h2).2.2 with q|q
   ·exact hm.one _ _ b q k1
   ·have:=(hm.live j' b k1).1;omega
  ·subst e';rcases(h.fresh b k1 k2).2.2 with q|q
   ·exact hm.one _ _ b h1 q
   ·have:=(hm.live j b h1).1;omega
  ·exact hm.one j j' b h1 k1
end Go.Eng
namespace Go.Eng
open Go.RowKit
def TLe (a b:TE):Prop:=b.te=a.te/\∀t i x,a.ι t i=some x->b.ι t i=some x
theorem TLe.refl (a:TE):TLe a a:=⟨rfl,λ_ _ _ h=>h⟩
theorem TLe.trans {a b c:TE}(h:TLe a b)(k:TLe b c):TLe a c:=⟨k.1.trans h.1,λt i x q=>k.2 t i x (h.2 t i x q)⟩
theorem RefV.le {te te':TE}(h:TLe te te'){t:Nat}:∀{r:Option Nat} {v:Value},RefV te t r v->RefV te' t r v
 |none,_,q=>q
 |some i,_,q=>by obtain⟨b,h1,h2⟩:=q;exact⟨b,h.2 t i b h1,h2⟩
theorem wG {te te':TE}(h:TLe te te')(e:Option Int):errV te' e=errV te e:=by cases e<;>simp[errV,h.1]
theorem RepT.le {te te':TE}{w:World}{Sb:Nat->Prop}(ht:TLe te te'):∀{k:K} {x:k.T} {cs:List Value},RepT te w Sb k x cs->RepT te' w Sb k x cs
 |.int _,_,_,h=>h
 |.bool,_,_,h=>h
 |.str,_,_,h=>h
 |.err,e,_,h=>by rw[show _=_ from h];simp only[RepT];rw[wG ht]
 |.fn,_,_,h=>h
 |.ref _,_,_,h=>by obtain⟨v,h1,h2⟩:=h;exact⟨v,h1,h2.le ht⟩
 |.slice e,xs,_,h=>by
  obtain⟨a,cap,hc,hl,hx⟩:=h;refine⟨a,cap,hc,hl,λhne=>?_⟩;obtain⟨ad,ha,hsp,hS,hel⟩:=hx hne;refine⟨ad,ha,hsp,hS,λi x hi=>?_⟩;obtain⟨vs,h1,h2⟩:=hel i x hi;exact⟨vs,RepT.le ht h1,h2⟩
 |.prod a b,_,_,h=>by
  obtain⟨c1,c2,hc,h1,h2⟩:=h;exact⟨c1,c2,hc,RepT.le ht h1,RepT.le ht h2⟩
 |.strct a,x,_,h=>RepT.le (k:=a) (x:=x) ht h
theorem RepT.move {te te':TE}{w w':World}{Sb Sb':Nat->Prop}(ht:TLe te te')(hb:∀b,Sb b->w'.heap[b]?=w.heap[b]?)(hs:∀b,Sb b->Sb' b){k:K}{x:k.T}{cs:List Value}(h:RepT te w Sb k x cs):RepT te' w' Sb' k x cs:=
 RepT.le ht (RepT.mono hb hs h)
theorem RepE.le {te te':TE}(ht:TLe te te'){k:K}{x:k.T}{v:Value}(h:RepE te k x v):RepE te' k x v:=by
 cases k<;>simp only[RepE]at h ⊢<;>first|exact h|exact RefV.le ht h
structure ExtM (c c':Cx):Prop where
 te:TLe c.te c'.te
 stab:∀b,c.S b->c'.w.heap[b]?=c.w.heap[b]?
 sub:∀b,c.S b->c'.S b
 ids:∀id s v,s.ids=[id]->RepS c s v->RepS c' s v
theorem Ext.m {c c':Cx}(h:Ext c c'):ExtM c c':=⟨by rw[h.te];exact TLe.refl _,h.stab,h.sub,h.ids⟩
theorem ExtM.rep {c c':Cx}(h:ExtM c c'){s:S}{v:Value}(hr:RepS c s v):RepS c' s v:=by
 cases s with
 |undef=>exact hr
 |bool b=>exact hr
 |int k n=>exact hr
 |str s=>exact hr
 |err e=>simp only[RepS]at hr ⊢;rw[wG h.te];exact hr
 |fn f=>exact hr
 |nilS=>exact hr
 |sl k xs=>simp only[RepS]at hr ⊢;exact RepT.move h.te h.stab h.sub hr
 |vw id g=>exact h.ids id _ v rfl hr
 |pv id g off len=>exact h.ids id _ v rfl hr
 |ptr id g i p=>exact h.ids id _ v rfl hr
 |mp id=>exact h.ids id _ v rfl hr
 |ov id g i=>exact h.ids id _ v rfl hr
 |oe id g i j p=>exact h.ids id _ v rfl hr
 |bm f id=>exact h.ids id _ v rfl hr
 |rp t i off=>exact h.ids _ _ v rfl hr
 |rb t i=>obtain⟨b,h1,h2⟩:=hr;exact⟨b,h.te.2 _ _ _ h1,h2⟩
 |ref t r=>exact RefV.le h.te hr
 |nilP=>exact hr
 |co=>exact hr
 |clo f k x=>
  simp only[RepS]at hr ⊢;obtain⟨b,o,vs,hS,hv,ht,ha⟩:=hr;exact⟨b,o,vs,h.sub _ hS,hv,RepT.move h.te h.stab h.sub ht,ha.of (h.stab _ hS)⟩
 |ipt k x p=>
  simp only[RepS]at hr ⊢;obtain⟨hp,b,o,vs,hS,hv,ht,ha⟩:=hr;exact⟨hp,b,o,vs,h.sub _ hS,hv,RepT.move h.te h.stab h.sub ht,ha.of (h.stab _ hS)⟩
 |mv k xs=>exact hr
 |io k x=>exact hr
theorem ExtM.repV {c c':Cx}(h:ExtM c c'){a:AV}{v:Value}(hr:RepV c a v):RepV c' a v:=by
 cases a with
 |undef=>trivial
 |val g cs=>
  cases g with
  |true=>obtain⟨arr,hv,hl⟩:=hr;exact⟨arr,hv,hl.mono λ_ _ _=>h.rep⟩
  |false=>obtain⟨s,hc,hs⟩:=hr;exact⟨s,hc,h.rep hs⟩
 |tup vs=>
  obtain⟨arr,hv,hl⟩:=hr;refine⟨arr,hv,hl.mono λp _ u hu=>?_⟩;split at hu
  ·rename_i hp;rw[NI hp];obtain⟨a,h1,h2⟩:=hu;exact⟨a,h1,h2.mono λ_ _ _=>h.rep⟩
  ·rename_i hp;rw[ND hp];obtain⟨a,h1,h2⟩:=hu;exact⟨a,h1,h.rep h2⟩
theorem ExtM.regs {c c':Cx}{n:Nat}{env:List (Nat×AV)}{a:Act}(h:ExtM c c')(hr:Regs c n env a):Regs c' n env a:=
 ⟨hr.size,hr.defers,λt=>h.repV (hr.rep t)⟩
theorem ExtM.refl (c:Cx):ExtM c c:=(Ext.refl c).m
theorem ExtM.trans {c c' c'':Cx}(h:ExtM c c')(k:ExtM c' c''):ExtM c c'':=
 ⟨h.te.trans k.te,λb hb=>(k.stab b (h.sub b hb)).trans (h.stab b hb),λb hb=>k.sub b (h.sub b hb),λid s v hs hr=>k.ids id s v hs (h.ids id s v hs hr)⟩
theorem oW.ofM {c c':Cx}{id n n':Nat}{k:K}{ys:List k.T}{v:Value}(hn:n<=n')(te:TLe c.te c'.te)(stab:∀b,c.S b->c'.w.heap[b]?=c.w.heap[b]?)(sub:∀b,c.S b->c'.S b)
  (hβ:c'.β id=c.β id) (hb:∀b,c.β id=some b->c'.w.heap[b]?=c.w.heap[b]?) (h:oW c id n k ys v):oW c' id n' k ys v:=by
 obtain⟨a,cap,h1,h2,h3⟩:=h;refine⟨a,cap,h1,h2,λhne=>?_⟩;obtain⟨ad,q1,q2,q3,q4⟩:=h3 hne;refine⟨ad,q1,q2,q3.imp (sub _) (λe=>by rw[hβ];exact⟨e.1,Oa e.2 (Of _ hn)⟩),λi x hx=>?_⟩;obtain⟨vs,r1,r2⟩:=q4 i x hx;refine⟨vs,RepT.move te stab sub r1,r2.of ?_⟩;rcases q3 with q3|q3
 ·exact stab _ q3
 ·exact hb _ q3.1
theorem RepS.sameM {c c':Cx}{id:Nat}{s:S}{v:Value}(te:TLe c.te c'.te)(hcu:c'.te.ow id=c.te.ow id/\c'.te.cur id=c.te.cur id)(stab:∀b,c.S b->c'.w.heap[b]?=c.w.heap[b]?)(sub:∀b,c.S b->c'.S b)
  (hβ:c'.β id=c.β id) (hb:∀b o,c.β id=some b->c.hp id=some o->o.isRow=true->c'.w.heap[b]?=c.w.heap[b]?) (ho:∀o,c.hp id=some o->c'.hp id=some o) (hs:s.ids=[id]) (h:RepS c s v):RepS c' s v:=by
 have hsome:∀t i,(c.te.ι t i).isSome=true->(c'.te.ι t i).isSome=true:=by
  intro t i hq;obtain⟨b,hb⟩:=Pt.1 hq;rw[te.2 t i b hb];rfl
 cases s<;>simp only[S.ids,NY,OV,reduceCtorEq]at hs
 case vw j g=>
  subst hs;obtain⟨h0,o,h1,h2⟩:=h;refine⟨h0,o,ho o h1,λk xs gen hist frz e=>?_⟩;have hb':∀b,c.β j=some b->c'.w.heap[b]?=c.w.heap[b]?:=λb hbb=>hb b o hbb h1 (by rw[e];rfl)
  refine⟨(h2 k xs gen hist frz e).1,λhg=>?_,λhg ys hy=>?_⟩
  ·exact cz.of hβ (λb hbb arr ⟨T,fz,q⟩=>⟨arr,⟨T,fz,by rw[hb' b hbb];exact q⟩,NG _⟩) ((h2 k xs gen hist frz e).2.1 hg)
  ·exact oW.ofM (NG _) te stab sub hβ hb' ((h2 k xs gen hist frz e).2.2 hg ys hy)
 case pv j g off len=>
  subst hs;obtain⟨h0,o,h1,h2⟩:=h;refine⟨h0,o,ho o h1,λk xs gen hist frz e=>⟨(h2 k xs gen hist frz e).1,λhg=>?_⟩⟩;exact cz.of hβ (λb hbb arr ⟨T,fz,q⟩=>⟨arr,⟨T,fz,by rw[hb b o hbb h1 (by rw[e];rfl)];exact q⟩,NG _⟩) ((h2 k xs gen hist frz e).2 hg)
 case ptr j g i p=>
  subst hs;obtain⟨h0,o,h1,hp,h2,h3⟩:=h;refine⟨h0,o,ho o h1,hp,λcs e hne=>?_,λk xs gen hist frz e=>?_⟩
  ·rw[hβ];exact h2 cs e hne
  ·rw[hβ];exact h3 k xs gen hist frz e
 case mp j=>
  subst hs;obtain⟨h0,o,h1,h2⟩:=h;exact⟨h0,o,ho o h1,λe=>by rw[hβ];exact h2 e⟩
 case rp t i off=>obtain⟨b,h1,h2⟩:=h;exact⟨b,te.2 _ _ _ h1,h2⟩
 case ov j g i=>
  subst hs;obtain⟨h0,o,h1,h2⟩:=h;exact⟨h0,o,ho o h1,λt off m k xs g' p e=>⟨(h2 t off m k xs g' p e).1,λhg=>⟨hsome _ _ ((h2 t off m k xs g' p e).2 hg).1,by rw[hcu.2];exact((h2 t off m k xs g' p e).2 hg).2⟩⟩⟩
 case oe j g i q p=>
  subst hs;obtain⟨h0,o,h1,hp,h2⟩:=h;refine⟨h0,o,ho o h1,hp,λt off m e xs g' q' he=>⟨(h2 t off m e xs g' q' he).1,λhg=>?_⟩⟩;obtain⟨r1,r2,r3⟩:=(h2 t off m e xs g' q' he).2 hg;exact⟨hsome _ _ r1,r2,by rw[hcu.1];exact r3⟩
 case bm f j=>
  subst hs;obtain⟨p,hv,o,h1,h2⟩:=h;exact⟨p,hv,o,ho o h1,λcs e hne=>by rw[hβ];exact h2 cs e hne⟩
theorem ExtM.repO {c c':Cx}(h:ExtM c c'){id:Nat}{o:Obj}(hβ:c'.β id=c.β id)(hb:∀b,c.β id=some b->o.live=true\/o.isRow=true->c'.w.heap[b]?=c.w.heap[b]?)(hr:RepO c id o):RepO c' id o:=by
 cases o with
 |box cs=>
  intro hne;obtain⟨b,arr,h1,⟨T,fz,h2,h3⟩,h4⟩:=hr hne;exact⟨b,arr,by rw[hβ];exact h1,⟨T,fz,by rw[hb b h1 (.inl (by simp[Obj.live,hne]))];exact h2,h3⟩,h4.mono λ_ _ _=>h.rep⟩
 |mp k es=>
  obtain⟨b,ents,clock,h1,h2,h3⟩:=hr;exact⟨b,ents,clock,by rw[hβ];exact h1,by rw[hb b h1 (.inl rfl)];exact h2,h3.mono λ_ _ _ q=>⟨q.1,RepE.le h.te q.2⟩⟩
 |fm es=>
  obtain⟨b,ents,clock,h1,h2,h3⟩:=hr;exact⟨b,ents,clock,by rw[hβ];exact h1,by rw[hb b h1 (.inl rfl)];exact h2,h3.mono λ_ _ _ q=>⟨q.1,h.rep q.2⟩⟩
 |col=>trivial
 |row k xs gen hist frz=>
  simp only[RepO]at hr ⊢;rw[hβ];cases hbb:c.β id with
  |none=>rw[hbb]at hr;exact hr
  |some b=>
   rw[hbb]at hr;obtain⟨⟨arr,⟨T,fz,h1⟩,h2,h3⟩,h4,h5⟩:=hr;have e:=hb b hbb (.inr rfl);refine⟨⟨arr,⟨T,fz,by rw[e];exact h1⟩,h2,λi x hx=>?_⟩,λhf=>?_,λhf=>h.sub b (h5 hf)⟩
   ·obtain⟨vs,q1,q2⟩:=h3 i x hx;exact⟨vs,RepT.move h.te h.stab h.sub q1,q2⟩
   ·obtain⟨arr',T',fz',q1,q2⟩:=h4 hf;exact⟨arr',T',fz',by rw[e];exact q1,q2⟩
theorem mG {c c' : Cx} {id : Nat} {s : S} {v : Value} (te : TLe c.te c'.te) {o : Obj} (hhp : c'.hp id = some o) (hno : o.isRow = true ∨ o = .box []) (hs : s.ids = [id]) (hn : s.isNew = true) (h : RepS c s v) : RepS c' s v := by
  have hc : ∀ t off m k (xs : List k.T) g p, o ≠ .col t off m k xs g p := by
    rintro t off m k xs g p rfl; rcases hno with q | q <;> cases q
  cases s <;> simp only [S.isNew, Od] at hn <;> simp only [S.ids, NY, OV] at hs
  case rp t i off => obtain ⟨b, h1, h2⟩ := h; exact ⟨b, te.2 _ _ _ h1, h2⟩
  case mp j => subst hs; refine ⟨h.1, o, hhp, fun e => ?_⟩; rcases hno with q | rfl
               · cases o <;> simp [Obj.isRow, Obj.isMap] at q e
               · simp [Obj.isMap] at e
  case ov j g i => subst hs; exact ⟨h.1, o, hhp, fun t off m k xs g' p e => (hc _ _ _ _ _ _ _ e).elim⟩
  case oe j g i q p => subst hs; obtain ⟨h0, o', h1, hpi, h2⟩ := h; exact ⟨h0, o, hhp, hpi, fun t off m e xs g' q' he => (hc _ _ _ _ _ _ _ he).elim⟩
  case bm f j =>
    subst hs; obtain ⟨p, hv, o', h1, h2⟩ := h
    refine ⟨p, hv, o, hhp, fun cs e hne => ?_⟩
    subst e
    rcases hno with q | q
    · cases q
    · cases q; exact (hne rfl).elim
theorem nI {c c':Cx}{id:Nat}{s:S}{v:Value}(te:TLe c.te c'.te){cs cs':List S}(e1:c.hp id=some (.box cs))(hne:cs≠[])(hhp:c'.hp id=some (.box cs'))(hβ:c'.β id=c.β id)(hs:s.ids=[id])(hn:s.isNew=true)(h:RepS c s v):RepS c' s v:=by
 cases s<;>simp only[S.isNew,Od]at hn<;>simp only[S.ids,NY,OV]at hs
 case rp t i off=>obtain⟨b,h1,h2⟩:=h;exact⟨b,te.2 _ _ _ h1,h2⟩
 case mp j=>subst hs;exact⟨h.1,_,hhp,λe=>by simp[Obj.isMap]at e⟩
 case ov j g i=>subst hs;exact⟨h.1,_,hhp,λt off m k xs g' p e=>by cases e⟩
 case oe j g i q p=>subst hs;obtain⟨h0,o',h1,hpi,h2⟩:=h;exact⟨h0,_,hhp,hpi,λt off m e xs g' q' he=>by cases he⟩
 case bm f j=>
  subst hs;obtain⟨p,hv,o',h1,h2⟩:=h;rw[e1]at h1;cases h1;obtain⟨b,q1,q2⟩:=h2 cs rfl hne;exact⟨p,hv,_,hhp,λcs2 e _=>⟨b,by rw[hβ];exact q1,q2⟩⟩
def bR (te:TE)(w:World)(Sb:Nat->Prop)(ob:Option Nat)(k:K)(xs:List k.T)(v:Value):Prop:=
 match ob with
 |none=>v=.slice none 0 0/\xs=[]
 |some b=>∃cap arr a,v=.slice (some a) xs.length cap/\xs.length<=cap/\(0<cap->a=⟨b,0,none⟩/\cap*k.size<=arr.size)/\bD w b arr/\xs.length*k.size<=arr.size /\
   ∀(i:Nat) (x:k.T),xs[i]?=some x->∃vs,RepT te w Sb k x vs/\∀(j:Nat) v,vs[j]?=some v->arr[i*k.size+j]?=some v
theorem bD.of {w w':World}{b:Nat}{arr:Array Value}(hb:w'.heap[b]?=w.heap[b]?)(h:bD w b arr):bD w' b arr:=by
 obtain⟨T,fz,h1,h2⟩:=h;exact⟨T,fz,by rw[hb];exact h1,h2⟩
theorem Blk.of {w w':World}{b:Nat}{arr:Array Value}(hb:w'.heap[b]?=w.heap[b]?)(h:Blk w b arr):Blk w' b arr:=by
 obtain⟨T,fz,h1⟩:=h;exact⟨T,fz,by rw[hb];exact h1⟩
theorem Blk.uniqM {w:World}{b:Nat}{arr arr':Array Value}(h:Blk w b arr)(k:Blk w b arr'):arr=arr':=by
 obtain⟨T,fz,h1⟩:=h;obtain⟨T',fz',h2⟩:=k;rw[h1]at h2;cases h2;rfl
theorem bR.move {te te':TE}{w w':World}{Sb Sb':Nat->Prop}(ht:TLe te te')(hst:∀b,Sb b->w'.heap[b]?=w.heap[b]?)(hs:∀b,Sb b->Sb' b){ob:Option Nat}(hb:∀b,ob=some b->w'.heap[b]?=w.heap[b]?){k:K}{xs:List k.T}{v:Value}
  (h:bR te w Sb ob k xs v):bR te' w' Sb' ob k xs v:=by
 unfold bR at h ⊢;cases ob with
 |none=>exact h
 |some b=>
  obtain⟨cap,arr,a,h1,h2,h3,h4,h5,h6⟩:=h;refine⟨cap,arr,a,h1,h2,h3,h4.of (hb b rfl),h5,λi x hx=>?_⟩;obtain⟨vs,q1,q2⟩:=h6 i x hx;exact⟨vs,RepT.move ht hst hs q1,q2⟩
def csz (m:Mode)(k:K):Nat:=match m with| .dat=>k.size|_=>1
inductive Lab where
 |man (t i:Nat)
 |own (cid i:Nat)
def cO (c:Cx)(t:Nat):Prop:=∃cid off m k,∃(xs:List k.T),∃g p,c.hp cid=some (.col t off m k xs g p)
def OwnX (c:Cx):Lab->Nat->Prop
 |.man t i,b=>cO c t/\c.te.ι t i=some b
 |.own cid i,b=>(∃t off m k,∃(xs:List k.T),∃g p,c.hp cid=some (.col t off m k xs g p)/\m≠ .dat/\i<xs.length)/\c.te.ow cid i=some b
def ra:Mode->K->Bool
 |.dat,_=>true
 |.own,.slice _=>true
 |.mp,.slice (.prod (.int .i64) (.ref _))=>true
 |_,_=>false
def wQ (l:List (Nat×Mode×K)):Prop:=(∀d∈l,d.1<64/\ra d.2.1 d.2.2=true)/\∀d∈l,∀d'∈l,d=d'\/d.1+csz d.2.1 d.2.2<=d'.1\/d'.1+csz d'.2.1 d'.2.2<=d.1
structure ManR (A:Ann)(c:Cx):Prop where
 lay:∀t,wQ (A.man t)
 ci:∀cid t off m k (xs:List k.T) g p,c.hp cid=some (.col t off m k xs g p)->cid=aX t off/\(off,m,k)∈A.man t
 dom:∀cid t off m k (xs:List k.T) g p,c.hp cid=some (.col t off m k xs g p)->∀i,i<xs.length ↔ (c.te.ι t i).isSome=true
 box:∀t i b,cO c t->c.te.ι t i=some b->∃arr,bD c.w b arr/\(∀v∈arr.toList,Go.Eng.one v=true)/\∀d∈A.man t,d.1+csz d.2.1 d.2.2<=arr.size
 dat:∀cid t off k (xs:List k.T) g p,c.hp cid=some (.col t off .dat k xs g p)->∀i x b arr,xs[i]?=some x->c.te.ι t i=some b->Blk c.w b arr->∃vs,RepT c.te c.w c.S k x vs/\∀(j:Nat) v,vs[j]?=some v->arr[off+j]?=some v
 own:∀cid t off (e:K) (xs:List (K.slice e).T) g p,c.hp cid=some (.col t off .own (.slice e) xs g p)->∀i x,xs[i]?=some x->bR c.te c.w c.S (c.te.ow cid i) e x (c.te.cur cid i)/\(p≠some i->∀b arr,c.te.ι t i=some b->Blk c.w b arr->arr[off]?=some (c.te.cur cid i))
 mpp:∀cid t off (e:Nat) (xs:List (K.slice (.prod (.int .i64) (.ref e))).T) g p,c.hp cid=some (.col t off .mp (.slice (.prod (.int .i64) (.ref e))) xs g p)->∀i es,xs[i]?=some es->∃b' ents clock,c.te.ow cid i=some b'/\c.te.cur cid i=.map (some b')/\c.w.heap[b']?=some (.map ents clock) /\
  (LR (RepM c.te (.ref e)) (es:List (Int×Option Nat)) ents.toList/\MapKept.Stamped ents clock)/\(∀b arr,c.te.ι t i=some b->Blk c.w b arr->arr[off]?=some (c.te.cur cid i))
 sep:∀l b,OwnX c l b->b<c.w.heap.size/\¬ c.S b/\∀id,¬ Live c id b
 one:∀l l' b,OwnX c l b->OwnX c l' b->l=l'
def Full (A:Ann)(c:Cx)(t:Nat):Prop:=A.man t≠[]/\∀d∈A.man t,∃off m k,∃(xs:List k.T),∃g p,c.hp (aX t d.1)=some (.col t off m k xs g p)
structure ManF (A:Ann)(te0:TE)(w0:World)(M:MS)(c:Cx):Prop where
 wr:∀l b,OwnX c l b->w0.heap.size<=b\/M.f b
 frc:∀t i b arr,cO c t->c.te.ι t i=some b->b<w0.heap.size->Blk c.w b arr->∃arr0,Blk w0 b arr0/\arr0.size=arr.size /\
  ∀o:Nat,(∀cid off m k (xs:List k.T) g p,c.hp cid=some (.col t off m k xs g p)->¬ (off<=o/\o<off+csz m k))->arr[o]?=arr0[o]?
 tle:TLe te0 c.te
 same:∀t,¬ Full A c t->c.te.ι t=te0.ι t
 samo:∀cid,(∀t off m k (xs:List k.T) g p,c.hp cid≠some (.col t off m k xs g p))->c.te.ow cid=te0.ow cid/\c.te.cur cid=te0.cur cid
 newb:∀t i b,c.te.ι t i=some b->te0.ι t i=some b\/w0.heap.size<=b
structure Man (A:Ann)(te0:TE)(w0:World)(M:MS)(c:Cx):Prop where
 r:ManR A c
 f:ManF A te0 w0 M c
theorem ManR.at {A:Ann}{c:Cx}(hM:ManR A c){cid t off:Nat}{m:Mode}{k:K}{xs:List k.T}{g:Nat}{p:Option Nat}(hc:c.hp cid=some (.col t off m k xs g p)){i b:Nat}(hi:c.te.ι t i=some b):
  i<xs.length/\cO c t/\∃arr,bD c.w b arr/\(∀v∈arr.toList,Go.Eng.one v=true)/\off+csz m k<=arr.size:=by
 have hh:cO c t:=⟨cid,off,m,k,xs,g,p,hc⟩
 obtain⟨arr,h1,h2,h3⟩:=hM.box t i b hh hi;exact⟨(hM.dom cid t off m k xs g p hc i).2 (by rw[hi];rfl),hh,arr,h1,h2,h3 _ (hM.ci cid t off m k xs g p hc).2⟩
theorem getD_some {α:Type}{l:List α}{i:Nat}(d:α)(h:i<l.length):l[i]?=some (l.getD i d):=by
 rw[NT h,NP,NT h];rfl
theorem ManR.cell {A:Ann}{c:Cx}(hM:ManR A c){cid t off:Nat}{m:Mode}{k:K}{xs:List k.T}{g:Nat}(hc:c.hp cid=some (.col t off m k xs g none))(hmd:m≠ .dat){i b:Nat}{arr:Array Value}(hi:c.te.ι t i=some b)(hb:Blk c.w b arr):arr[off]?=some (c.te.cur cid i):=by
 have hk:=(hM.lay t).1 _ (hM.ci cid t off m k xs g none hc).2;cases m with
 |dat=>exact(hmd rfl).elim
 |own=>
  cases k with
  |slice e=>exact(hM.own cid t off e xs g none hc i _ (getD_some [] (hM.at hc hi).1)).2 (by simp) b arr hi hb
  |_=>simp[ra]at hk
 |mp=>
  cases k with
  |slice e=>
   cases e with
   |prod a b'=>
    cases a with
    |int ik=>
     cases b' with
     |ref e=>
      cases ik<;>first
      |(simp[ra]at hk;done)
      |(obtain⟨_,_,_,_,_,_,_,q⟩:=hM.mpp cid t off e xs g none hc i _ (getD_some [] (hM.at hc hi).1);exact q b arr hi hb)
     |_=>simp[ra]at hk
    |_=>simp[ra]at hk
   |_=>simp[ra]at hk
  |_=>simp[ra]at hk
def here (c:Cx):MS:=⟨λb=>∃id,Live c id b,c.S,λ_=>False⟩
theorem FM {c:Cx}{b:Nat}(h:¬ ∃id,Live c id b):¬ (here c).f b:=λq=>q.elim h id
theorem Mem.here {w0:World}{M:MS}{c:Cx}(h:Mem w0 M c):Mem c.w (Go.Eng.here c) c:=
 ⟨⟨rfl,rfl,rfl,NG _,λ_ _ _=>rfl⟩,h.below,h.obj,λid b hl=>⟨(h.live id b hl).1,(h.live id b hl).2.1,.inr ⟨id,hl⟩⟩,h.one,λb hb=>.inl hb,λb hb=>hb⟩
theorem Mem.step {w0:World}{M:MS}{c c':Cx}(h:Mem w0 M c)(k:Mem c.w (Go.Eng.here c) c'):Mem w0 M c':=by
 refine⟨⟨k.fr.os.trans h.fr.os,k.fr.tape.trans h.fr.tape,k.fr.output.trans h.fr.output,Oa h.fr.size k.fr.size,λb hb hM=>?_⟩,k.below,k.obj,λid b hl=>?_,k.one,λb hb=>?_,λb hb=>k.inf b (h.inf b hb)⟩
 ·refine(k.fr.block b (N1 hb h.fr.size) (FM ?_)).trans (h.fr.block b hb hM);rintro⟨id,hl⟩;rcases(h.live id b hl).2.2 with q|q
  ·omega
  ·exact hM (.inl q)
 ·obtain⟨q1,q2,q3⟩:=k.live id b hl;refine⟨q1,q2,?_⟩;rcases q3 with q3|⟨id',q3⟩
  ·exact .inl (Oa h.fr.size q3)
  ·exact(h.live id' b q3).2.2
 ·rcases k.sup b hb with q|q|⟨id,q⟩
  ·exact h.sup b q
  ·exact .inr (.inl (Oa h.fr.size q))
  ·exact .inr (h.live id b q).2.2
def nN (c c':Cx):Prop:=∀cid t off m k (xs:List k.T) g p,c'.hp cid=some (.col t off m k xs g p) ↔ c.hp cid=some (.col t off m k xs g p)
theorem nN.held {c c':Cx}(h:nN c c')(t:Nat):cO c' t ↔ cO c t:=by
 constructor
 ·rintro⟨cid,off,m,k,xs,g,p,q⟩;exact⟨cid,off,m,k,xs,g,p,(h ..).1 q⟩
 ·rintro⟨cid,off,m,k,xs,g,p,q⟩;exact⟨cid,off,m,k,xs,g,p,(h ..).2 q⟩
theorem nN.own {c c':Cx}(h:nN c c')(hte:c'.te=c.te)(l:Lab)(b:Nat):OwnX c' l b ↔ OwnX c l b:=by
 cases l with
 |man t i=>simp only[OwnX];rw[h.held,hte]
 |own cid i=>
  simp only[OwnX];rw[hte];constructor
  ·rintro⟨⟨t,off,m,k,xs,g,p,q1,q2⟩,q3⟩;exact⟨⟨t,off,m,k,xs,g,p,(h ..).1 q1,q2⟩,q3⟩
  ·rintro⟨⟨t,off,m,k,xs,g,p,q1,q2⟩,q3⟩;exact⟨⟨t,off,m,k,xs,g,p,(h ..).2 q1,q2⟩,q3⟩
theorem ManR.ownB {A:Ann}{c:Cx}(h:ManR A c){cid t off:Nat}{m:Mode}{k:K}{xs:List k.T}{g:Nat}{p:Option Nat}(hc:c.hp cid=some (.col t off m k xs g p))(hm:m≠ .dat){i:Nat}{x:k.T}(hx:xs[i]?=some x){b:Nat}(hb:c.te.ow cid i=some b):OwnX c (.own cid i) b:=
 ⟨⟨t,off,m,k,xs,g,p,hc,hm,(NJ.1 hx).1⟩,hb⟩
theorem ManR.lift {A:Ann}{c c':Cx}(hM:ManR A c)(hte:c'.te=c.te)(he:Ext c c')(hm:Mem c.w (Go.Eng.here c) c')(hc:nN c c'):ManR A c':=by
 have hblk:∀l b,OwnX c l b->c'.w.heap[b]?=c.w.heap[b]?:=by
  intro l b hb;obtain⟨q1,q2,q3⟩:=hM.sep l b hb;exact hm.fr.block b q1 (FM λ⟨id,hl⟩=>q3 id hl)
 refine⟨hM.lay,λcid t off m k xs g p h=>hM.ci cid t off m k xs g p ((hc ..).1 h),λcid t off m k xs g p h i=>by rw[hte];exact hM.dom cid t off m k xs g p ((hc ..).1 h) i,λt i b hh hi=>?_,λcid t off k xs g p h i x b arr hx hi hb=>?_,λcid t off e xs g p h i x hx=>?_,λcid t off e xs g p h i es hx=>?_,λl b hb=>?_,λl l' b hb hb'=>hM.one l l' b ((hc.own hte l b).1 hb) ((hc.own hte l' b).1 hb')⟩
 ·rw[hc.held]at hh;rw[hte]at hi;obtain⟨arr,q1,q2⟩:=hM.box t i b hh hi;exact⟨arr,q1.of (hblk (.man t i) b ⟨hh,hi⟩),q2⟩
 ·have h1:=(hc ..).1 h;rw[hte]at hi ⊢;have hh:cO c t:=⟨cid,off,_,k,xs,g,p,h1⟩
  obtain⟨vs,q1,q2⟩:=hM.dat cid t off k xs g p h1 i x b arr hx hi (hb.of (hblk (.man t i) b ⟨hh,hi⟩).symm);exact⟨vs,RepT.mono he.stab he.sub q1,q2⟩
 ·have h1:=(hc ..).1 h;rw[hte];obtain⟨q1,q2⟩:=hM.own cid t off e xs g p h1 i x hx;refine⟨q1.move (TLe.refl _) he.stab he.sub (λb hb=>hblk _ b (hM.ownB h1 (by simp) hx hb)),λhp b arr hi hb=>?_⟩;have hh:cO c t:=⟨cid,off,_,_,xs,g,p,h1⟩
  exact q2 hp b arr hi (hb.of (hblk (.man t i) b ⟨hh,hi⟩).symm)
 ·have h1:=(hc ..).1 h;rw[hte];obtain⟨b',ents,clock,q1,q2,q3,q4,q5⟩:=hM.mpp cid t off e xs g p h1 i es hx;refine⟨b',ents,clock,q1,q2,by rw[hblk _ b' (hM.ownB h1 (by simp) hx q1)];exact q3,q4,λb arr hi hb=>?_⟩;have hh:cO c t:=⟨cid,off,_,_,xs,g,p,h1⟩
  exact q5 b arr hi (hb.of (hblk (.man t i) b ⟨hh,hi⟩).symm)
 ·rw[hc.own hte]at hb;obtain⟨q1,q2,q3⟩:=hM.sep l b hb;refine⟨N1 q1 hm.fr.size,λhs=>?_,λid hl=>?_⟩
  ·rcases hm.sup b hs with q|q|⟨id,q⟩
   ·exact q2 q
   ·omega
   ·exact q3 id q
  ·rcases(hm.live id b hl).2.2 with q|⟨id',q⟩
   ·omega
   ·exact q3 id' q
theorem ManF.lift {A:Ann}{te0:TE}{w0:World}{M:MS}{c c':Cx}(hF:ManF A te0 w0 M c)(hM:ManR A c)(hte:c'.te=c.te)(hm:Mem c.w (Go.Eng.here c) c')(hc:nN c c'):ManF A te0 w0 M c':=by
 refine⟨λl b hb=>hF.wr l b ((hc.own hte l b).1 hb),λt i b arr hh hi hlt hb=>?_,by rw[hte];exact hF.tle,λt ht=>?_,λcid h=>?_,λt i b hi=>hF.newb t i b (by rw[<- hte];exact hi)⟩
 ·rw[hc.held]at hh;rw[hte]at hi;obtain⟨q1,q2,q3⟩:=hM.sep (.man t i) b ⟨hh,hi⟩;have e:=hm.fr.block b q1 (FM λ⟨id,hl⟩=>q3 id hl);obtain⟨arr0,p1,p2,p3⟩:=hF.frc t i b arr hh hi hlt (hb.of e.symm);exact⟨arr0,p1,p2,λo ho=>p3 o λcid off m k xs g p h=>ho cid off m k xs g p ((hc ..).2 h)⟩
 ·rw[hte];refine hF.same t λhf=>ht ⟨hf.1,λd hd=>?_⟩
  obtain⟨off,m,k,xs,g,p,q⟩:=hf.2 d hd;exact⟨off,m,k,xs,g,p,(hc ..).2 q⟩
 ·rw[hte];exact hF.samo cid λt off m k xs g p h'=>h t off m k xs g p ((hc ..).2 h')
theorem Man.lift {A:Ann}{te0:TE}{w0:World}{M:MS}{c c':Cx}(hM:Man A te0 w0 M c)(hte:c'.te=c.te)(he:Ext c c')(hm:Mem c.w (Go.Eng.here c) c')(hc:nN c c'):Man A te0 w0 M c':=
 ⟨hM.r.lift hte he hm hc,hM.f.lift hM.r hte hm hc⟩
end Go.Eng
namespace Go.Eng
open Go.RowKit
theorem run_bind {α β:Type}(P:Program)(e:Sem α)(f:α->Sem β):∀w,(Sem.bind e f).run P w=match e.run P w with| .ok a w'=>(f a).run P w'| .halt h w'=>.halt h w':=by
 induction e with
 |pure a=>intro w;rfl
 |load m a k ih=>
  intro w;simp only[Sem.bind,Sem.run];split
  ·exact ih _ w
  ·split
   ·exact ih _ w
   ·rfl
 |store m a v k ih=>
  intro w;cases v<;>simp only[Sem.bind,Sem.run]<;>(try rfl)<;>split<;>(try (split<;>first|rfl|exact ih _))<;>(try (split<;>first|rfl|exact ih _))
 |new o k ih=>intro w;exact ih _ _
 |shape r k ih=>intro w;exact ih _ _
 |freeze a n k ih=>intro w;exact ih _
 |frozen a k ih=>intro w;exact ih _ _
 |getObj r k ih=>
  intro w;simp only[Sem.bind,Sem.run];split
  ·rfl
  ·exact ih _ _
  ·rfl
 |setObj r o k ih=>
  intro w;simp only[Sem.bind,Sem.run];split
  ·rfl
  ·exact ih _
  ·rfl
 |choose q k ih=>
  intro w;simp only[Sem.bind,Sem.run];split<;>exact ih _ _
 |sys c k ih=>intro w;exact ih _ _
 |program k ih=>intro w;exact ih _ _
 |mark m k ih=>intro w;exact ih _
 |halt h=>intro w;rfl
theorem EI {α β:Type}(P:Program)(e:Sem α)(f:α->Sem β)(w:World):(e >>= f).run P w=match e.run P w with| .ok a w'=>(f a).run P w'| .halt h w'=>.halt h w':=run_bind P e f w
theorem run_ok {α β:Type}{P:Program}{e:Sem α}{f:α->Sem β}{w w':World}{a:α}(h:e.run P w=.ok a w'):(e >>= f).run P w=(f a).run P w':=by
 rw[EI,h]
theorem run_underlying {P:Program}{t:TypeId}{d:TypeDesc}(h:P.underlying t=some d)(w:World):(underlying t).run P w=.ok d w:=by
 unfold underlying;show (Sem.bind program _).run P w=_;rw [run_bind];show Sem.run P (match P.underlying t with | some d => pure d | none => stuck "no such type") w = _
 rw[h];rfl
theorem bK {P:Program}{t:TypeId}{i:TypeInfo}(h:P.info? t=some i)(w:World):(typeInfo t).run P w=.ok i w:=by
 unfold typeInfo;show (Sem.bind program _).run P w=_;rw [run_bind];show Sem.run P (match P.info? t with | some d => pure d | none => stuck "no such type") w = _
 rw[h];rfl
theorem tL {P:Program}{t:TypeId}{n:Nat}(h:dw P t=some n):∃i,P.info? t=some i/\i.size=n:=by
 unfold dw at h;split at h
 ·rename_i i hi;exact⟨i,hi,by simpa using h⟩
 ·cases h
theorem bh {P:Program}{t:TypeId}{n:Nat}(h:dw P t=some n)(w:World):(sizeOf t).run P w=.ok n w:=by
 obtain⟨i,hi,rfl⟩:=tL h;unfold sizeOf;rw[run_ok (bK hi w)];rfl
theorem C4 {P:Program}{t:TypeId}{l:List Value}(h:uW P t=some l):∃i v,P.info? t=some i/\i.zero=some v/\v.cells.toList=l/\l.all one=true:=by
 unfold uW at h;split at h
 ·rename_i i hi;split at h
  ·rename_i v hv;cases hc:v.cells.toList.all one with
   |true=>rw[hc]at h;exact⟨i,v,hi,hv,by simpa using h,by rw[<- (by simpa using h:v.cells.toList=l)];exact hc⟩
   |false=>rw[hc]at h;cases h
  ·cases h
 ·cases h
theorem cY {P:Program}{t:TypeId}{l:List Value}(h:uW P t=some l)(w:World):∃v,(zeroValue t).run P w=.ok v w/\v.cells.toList=l/\l.all one=true:=by
 obtain⟨i,v,hi,hv,hl,ho⟩:=C4 h;refine⟨v,?_,hl,ho⟩;unfold zeroValue;rw[run_ok (bK hi w)];simp only[hv];rfl
theorem iR {P:Program}{t:TypeId}{b:Bool}(h:aggT P t=some b)(w:World):(isAgg t).run P w=.ok b w:=by
 unfold aggT at h;cases hu:P.underlying t with
 |none=>rw[hu]at h;cases h
 |some d=>
  rw[hu]at h;unfold isAgg;rw[run_ok (run_underlying hu w)];cases d<;>simp at h<;>subst h<;>rfl
theorem lX (b o n:Nat):(⟨b,o,none⟩:Addr).add n=⟨b,o+n,none⟩:=by
 unfold Addr.add;split
 ·rename_i h;subst h;rfl
 ·rfl
theorem Br {P:Program}{w:World}{a:Addr}{v:Value}(h:w.cell? a=some v):(load a).run P w=.ok v w:=by
 simp[load,Sem.run,h]
theorem iQ {P:Program}{w:World}{b o:Nat}:∀(vs:List Value)(i:Nat)(acc:Array Value),At w b (o+i) vs ->
  (loadCellsFrom ⟨b,o,none⟩ i vs.length acc).run P w=.ok (acc++vs.toArray) w
 |[],i,acc,_=>by simp[loadCellsFrom]
 |v::r,i,acc,h=>by
  simp only[loadCellsFrom,NC];rw[lX,run_ok (Br (by simpa using h 0 v rfl))];rw[iQ r (i+1) (acc.push v) (λj u hj=>by have:=h (j+1) u (by simpa using hj);rw[show o+(i+1)+j=o+i+(j+1) by omega];exact this)];simp
theorem jw {P:Program}{w:World}{b o:Nat}{vs:List Value}(h:At w b o vs):(loadCells ⟨b,o,none⟩ vs.length).run P w=.ok vs.toArray w:=by
 unfold loadCells;rw[iQ vs 0 #[] (by simpa using h)];simp
def bC (arr:Array Value):Nat->List Value->Array Value
 |_,[]=>arr
 |o,v::r=>bC (arr.setIfInBounds o v) (o+1) r
theorem b9:∀(vs:List Value)(arr:Array Value)(o:Nat),(bC arr o vs).size=arr.size
 |[],_,_=>rfl
 |v::r,arr,o=>by simp[bC,b9 r]
theorem cF:∀(vs:List Value)(arr:Array Value)(o j:Nat),o+vs.length<=arr.size ->
  (bC arr o vs)[j]?=if o<=j/\j<o+vs.length then vs[j-o]? else arr[j]?
 |[],arr,o,j,_=>by
  rw[ND (by simp)];rfl
 |v::r,arr,o,j,h=>by
  simp only[NC]at h;simp only[bC];rw[cF r _ (o+1) j (by simp;omega)];by_cases h1:j=o
  ·subst h1;rw[ND (by omega),NI (by simp)];simp[O1];omega
  ·by_cases h2:o+1<=j/\j<o+1+r.length
   ·rw[NI h2,NI (by simp;omega)];obtain⟨m,hm⟩:∃m,j-o=m+1:=⟨j-o-1,by omega⟩
    rw[hm,show j-(o+1)=m by omega];rfl
   ·rw[ND h2,ND (by simp;omega)];rw[Ou (by omega)]
structure C3 (w w':World)(b:Nat)(arr':Array Value)(T:TypeId)(fz:Nat×Nat):Prop where
 os:w'.os=w.os
 tape:w'.tape=w.tape
 output:w'.output=w.output
 size:w'.heap.size=w.heap.size
 here:w'.heap[b]?=some (.cells arr' T fz)
 other:∀j,j≠b->w'.heap[j]?=w.heap[j]?
theorem run_store {P:Program}{w:World}{b o:Nat}{v:Value}{arr:Array Value}{T:TypeId}{fz:Nat×Nat}(hv:one v=true)(hb:w.heap[b]?=some (.cells arr T fz))(ho:o<arr.size)(hf:¬ (fz.1<=o/\o<fz.2)):
  ∃w',(store ⟨b,o,none⟩ v).run P w=.ok () w'/\C3 w w' b (arr.setIfInBounds o v) T fz:=by
 have hc:w.cell? ⟨b,o,none⟩=some arr[o]:=by simp[World.cell?,hb,ho]
 have hfr:w.frozen? ⟨b,o,none⟩=false:=by
  simp only[World.frozen?,hb];simp at hf ⊢;intro h;have:=hf h;omega
 refine⟨w.setCell ⟨b,o,none⟩ v,?_,rfl,rfl,rfl,by simp[World.setCell],?_,λj hj=>?_⟩
 ·cases v<;>simp[one]at hv<;>simp[store,Sem.run,hc,hfr]
 ·simp[World.setCell,Pr,hb]
 ·simp only[World.setCell,Pr];rw[ND (by simpa using λe=>hj e.symm)]
theorem dy {P:Program}{b o:Nat}{T:TypeId}{fz:Nat×Nat}:∀(vs:List Value)(i:Nat)(w:World)(arr:Array Value),(∀v∈vs,one v=true)->w.heap[b]?=some (.cells arr T fz)->o+i+vs.length<=arr.size ->
  (∀j,o+i<=j->j<o+i+vs.length->¬ (fz.1<=j/\j<fz.2)) ->
  ∃w',(storeCells ⟨b,o,none⟩ vs i).run P w=.ok () w'/\C3 w w' b (bC arr (o+i) vs) T fz
 |[],i,w,arr,_,hb,_,_=>⟨w,by simp[storeCells],rfl,rfl,rfl,rfl,by simpa[bC]using hb,λ_ _=>rfl⟩
 |v::r,i,w,arr,h1,hb,hs,hf=>by
  simp only[NC]at hs hf;obtain⟨w1,e1,s1⟩:=run_store (P:=P) (o:=o+i) (h1 v (by simp)) hb (by omega) (hf _ (by omega) (by omega));obtain⟨w2,e2,s2⟩:=dy (P:=P) (o:=o) r (i+1) w1 _ (λu hu=>h1 u (by simp[hu])) s1.here (by simp;omega) (λj a1 a2=>hf j (by omega) (by omega));refine⟨w2,?_,s2.os.trans s1.os,s2.tape.trans s1.tape,s2.output.trans s1.output,s2.size.trans s1.size,s2.here,λj hj=>(s2.other j hj).trans (s1.other j hj)⟩;simp only[storeCells];rw[lX,run_ok e1];exact e2
end Go.Eng
namespace Go.Eng
open Go.RowKit
theorem mN {c:Cx}{s:S}{v:Value}(h:RepS c s v):one v=true:=by
 cases s with
 |undef=>exact h
 |bool b=>simp only[RepS]at h;subst h;rfl
 |int k n=>simp only[RepS]at h;rw[h.1];rfl
 |str s=>obtain⟨sb,rfl,_⟩:=h;rfl
 |err e=>simp only[RepS]at h;subst h;cases e<;>rfl
 |fn f=>simp only[RepS]at h;subst h;cases f<;>rfl
 |nilS=>simp only[RepS]at h;subst h;rfl
 |sl k xs=>obtain⟨a,cap,e,_⟩:=h;cases e;rfl
 |vw id g=>exact h.1
 |pv id g off len=>exact h.1
 |ptr id g i p=>exact h.1
 |mp id=>exact h.1
 |clo f k x=>obtain⟨b,o,vs,_,rfl,_⟩:=h;rfl
 |ipt k x p=>obtain⟨_,b,o,vs,_,rfl,_⟩:=h;rfl
 |mv k xs=>exact h.elim
 |io k x=>exact h.elim
 |co=>exact h.elim
 |nilP=>simp only[RepS]at h;subst h;rfl
 |ref t r=>exact RefV.one h
 |rb t i=>obtain⟨b,_,rfl⟩:=h;rfl
 |rp t i off=>obtain⟨b,_,rfl⟩:=h;rfl
 |ov=>exact h.1
 |oe=>exact h.1
 |bm f id=>obtain⟨p,rfl,_⟩:=h;rfl
theorem qM {v:Value}(h:one v=true):v.cells=#[v]:=by cases v<;>simp[one]at h<;>rfl
theorem LR.ones {c:Cx}:∀{cs:List S} {vs:List Value},LR (RepS c) cs vs->∀v∈vs,one v=true
 |_::_,_::_,h,v,hv=>by
  rcases NO.1 hv with rfl|hv
  ·exact mN h.1
  ·exact LR.ones h.2 v hv
 |[],[],_,v,hv=>by simp at hv
 |[],_::_,h,_,_=>h.elim
 |_::_,[],h,_,_=>h.elim
theorem bj {c:Cx}:∀(k:K)(x:k.T)(vs:List Value),LR (RepS c) (bg k x) vs ↔ RepT c.te c.w c.S k x vs
 |.ref t,r,vs=>by
  constructor
  ·intro h
   match vs,h with
   |[v],h=>exact⟨v,rfl,h.1⟩
  ·rintro⟨v,rfl,h⟩;exact⟨h,trivial⟩
 |.int k,n,vs=>by
  constructor
  ·intro h
   match vs,h with
   |[v],h=>obtain⟨⟨rfl,h2⟩,_⟩:=h;exact⟨rfl,h2⟩
  ·rintro⟨rfl,h⟩;exact⟨⟨rfl,h⟩,trivial⟩
 |.bool,n,vs=>by
  constructor
  ·intro h
   match vs,h with
   |[v],h=>obtain⟨h1,_⟩:=h;simp only[RepS]at h1;subst h1;rfl
  ·intro h;rw[show vs=_ from h];exact⟨rfl,trivial⟩
 |.str,n,vs=>by
  constructor
  ·intro h
   match vs,h with
   |[v],h=>obtain⟨⟨sb,rfl,h2⟩,_⟩:=h;exact⟨sb,rfl,h2⟩
  ·rintro⟨sb,rfl,h⟩;exact⟨⟨sb,rfl,h⟩,trivial⟩
 |.err,n,vs=>by
  constructor
  ·intro h
   match vs,h with
   |[v],h=>obtain⟨h1,_⟩:=h;simp only[RepS]at h1;subst h1;rfl
  ·intro h;rw[show vs=_ from h];exact⟨rfl,trivial⟩
 |.fn,n,vs=>by
  constructor
  ·intro h
   match vs,h with
   |[v],h=>obtain⟨h1,_⟩:=h;simp only[RepS]at h1;subst h1;rfl
  ·intro h;rw[show vs=_ from h];exact⟨rfl,trivial⟩
 |.slice e,xs,vs=>by
  constructor
  ·intro h
   match vs,h with
   |[v],h=>exact h.1
  ·intro h;have hl:=RepT.len h
   match vs,hl with
   |[v],_=>exact⟨h,trivial⟩
 |.prod a b,x,vs=>by
  constructor
  ·intro h;obtain⟨m1,m2,e,h1,h2⟩:=LR.split h;exact⟨m1,m2,e,(bj a x.1 m1).1 h1,(bj b x.2 m2).1 h2⟩
  ·rintro⟨m1,m2,rfl,h1,h2⟩;exact LR.append ((bj a x.1 m1).2 h1) ((bj b x.2 m2).2 h2)
 |.strct a,x,vs=>bj a x vs
def Vis (c:Cx)(ids:List Nat)(k:K)(ys:List k.T)(v:Value):Prop:=
 ∃a cap,v=.slice a ys.length cap/\ys.length<=cap/\(ys≠[]->∃ad,a=some ad/\ad.spot=none/\(c.S ad.block\/∃id∈ids,c.β id=some ad.block) /\
  ∀(i:Nat) (x:k.T),ys[i]?=some x->∃vs,RepT c.te c.w c.S k x vs/\At c.w ad.block (ad.off+i*k.size) vs)
theorem Vis.repT {c:Cx}{ids:List Nat}{k:K}{ys:List k.T}{v:Value}(h:Vis c ids k ys v){S':Nat->Prop}(hs:∀b,c.S b->S' b)(hi:∀id∈ids,∀b,c.β id=some b->S' b):RepT c.te c.w S' (.slice k) ys [v]:=by
 obtain⟨a,cap,rfl,hl,hx⟩:=h;refine⟨a,cap,rfl,hl,λhne=>?_⟩;obtain⟨ad,h1,h2,h3,h4⟩:=hx hne;refine⟨ad,h1,h2,?_,λi x hix=>?_⟩
 ·rcases h3 with h3|⟨id,m,h3⟩
  ·exact hs _ h3
  ·exact hi id m _ h3
 ·obtain⟨vs,q1,q2⟩:=h4 i x hix;exact⟨vs,RepT.mono (λ_ _=>rfl) hs q1,q2⟩
theorem dC {w:World}{b:Nat}{arr:Array Value}(h:Blk w b arr){o:Nat}{vs:List Value}(hv:∀(j:Nat) v,vs[j]?=some v->arr[o+j]?=some v):At w b o vs:=by
 obtain⟨T,fz,h⟩:=h;intro j v hj;simp only[World.cell?,h];exact hv j v hj
theorem Hg {w:World}{b:Nat}{arr:Array Value}(h:Blk w b arr){o:Nat}{vs:List Value}(hv:At w b o vs):∀(j:Nat) v,vs[j]?=some v->arr[o+j]?=some v:=by
 obtain⟨T,fz,h⟩:=h;intro j v hj;have:=hv j v hj;simp only[World.cell?,h]at this;exact this
theorem Blk.uniq {w:World}{b:Nat}{arr arr':Array Value}(h:Blk w b arr)(h':Blk w b arr'):arr=arr':=by
 obtain⟨T,fz,h⟩:=h;obtain⟨T',fz',h'⟩:=h';rw[h]at h';cases h';rfl
theorem uZ {c:Cx}{w0:World}{M:MS}(hm:Mem w0 M c){id:Nat}{k:K}{xs:List k.T}{gen:Nat}{hist:List (List k.T)}{frz:Bool}(ho:c.hp id=some (.row k xs gen hist frz)){off len:Nat}{v:Value}
  (hv:cz c id k off len xs.length v):Vis c [id] k ((xs.drop off).take len) v:=by
 have hr:=hm.obj id _ ho;simp only[RepO]at hr;simp only[cz]at hv;cases hb:c.β id with
 |none=>
  rw[hb]at hr hv;obtain⟨rfl,h1,rfl,rfl⟩:=hv;exact⟨none,0,by simp,by simp,λh=>by simp at h⟩
 |some b=>
  rw[hb]at hr hv;obtain⟨cap,arr,a,rfl,h1,h2,h3,h4⟩:=hv;obtain⟨⟨arr',h5,h6,h7⟩,_⟩:=hr;have e:=h2.uniq h5;subst e;have hl:((xs.drop off).take len).length=len:=by simp;omega
  refine⟨some a,cap,by rw[hl],by rw[hl];exact h1,λhne=>?_⟩;have hc:0<cap:=by
   rcases P2 len with e|e
   ·subst e;simp at hne
   ·omega
  obtain⟨rfl,h8⟩:=h4 hc;refine⟨_,rfl,rfl,.inr ⟨id,by simp,hb⟩,λi x hx=>?_⟩;have hx':xs[off+i]?=some x:=by
   rw[Ol]at hx;split at hx
   ·simpa using hx
   ·cases hx
  obtain⟨vs,q1,q2⟩:=h7 (off+i) x hx';refine⟨vs,q1,dC h2 λj u hu=>?_⟩;have:=q2 j u hu;rw[show(off+i)*k.size=off*k.size+i*k.size from Og _ _ _]at this;exact this
theorem mD {c:Cx}{w0:World}{M:MS}(hm:Mem w0 M c){hp:Nat->Option Obj}(hh:∀id o,hp id=some o->c.hp id=some o){s:S}{v:Value}{k:K}{ys:List k.T}
  (hr:cZ hp s=.some k ys) (h:RepS c s v):Vis c s.ids k ys v:=by
 cases s with
 |sl k' xs=>
  simp only[cZ,RowV.some.injEq]at hr;obtain⟨rfl,hr⟩:=hr;cases hr;obtain⟨a,cap,e,hl,hx⟩:=h;cases e;refine⟨a,cap,rfl,hl,λhne=>?_⟩;obtain⟨ad,h1,h2,h3,h4⟩:=hx hne;exact⟨ad,h1,h2,.inl h3,h4⟩
 |vw id g=>
  simp only[cZ]at hr;split at hr
  ·rename_i k' xs gen hist frz ho;split at hr
   ·rename_i zs hz;simp only[RowV.some.injEq]at hr;obtain⟨rfl,hr⟩:=hr;cases hr;obtain⟨_,o,h1,h2⟩:=h;have:=hh id _ ho;rw[this]at h1;cases h1;obtain⟨q1,q2,q3⟩:=h2 _ _ _ _ _ rfl;by_cases hg:g=gen
    ·subst hg;simp[yV]at hz;subst hz;have:=uZ hm this (q2 rfl);rw[Pm,Qd]at this;exact this
    ·have hz':hist[gen-1-g]?=some zs:=by
      unfold yV at hz;have:Nat.beq g gen=false:=by
       cases hq:Nat.beq g gen with
       |true=>exact(hg (NB hq)).elim
       |false=>rfl
      rw[this]at hz;exact hz
     obtain⟨a,cap,r1,r2,r3⟩:=q3 hg _ hz';refine⟨a,cap,r1,r2,λhne=>?_⟩;obtain⟨ad,t1,t2,t3,t4⟩:=r3 hne;exact⟨ad,t1,t2,t3.imp (λh=>h) (λe=>⟨_,by simp[S.ids],e.1⟩),t4⟩
   ·cases hr
  ·cases hr
 |pv id g off len=>
  simp only[cZ]at hr;split at hr
  ·rename_i k' xs gen hist frz ho;cases hq:Nat.beq g gen with
   |true=>
    rw[hq]at hr;simp only[NH,RowV.some.injEq]at hr;obtain⟨rfl,hr⟩:=hr;cases hr;obtain⟨_,o,h1,h2⟩:=h;have:=hh id _ ho;rw[this]at h1;cases h1;exact uZ hm this ((h2 _ _ _ _ _ rfl).2 (NB hq))
   |false=>rw[hq]at hr;cases hr
  ·cases hr
 |_=>simp[cZ]at hr
theorem pO {hp:Nat->Option Obj}{c:Cx}{s:S}{v:Value}(hr:cZ hp s=.nil)(h:RepS c s v):v=.slice none 0 0:=by
 cases s with
 |nilS=>exact h
 |vw id g=>simp only[cZ]at hr;split at hr<;>(try split at hr)<;>cases hr
 |pv id g off len=>
  simp only[cZ]at hr;split at hr
  ·rename_i gen _ _ _;cases hq:Nat.beq g gen<;>rw[hq]at hr<;>cases hr
  ·cases hr
 |_=>simp[cZ]at hr
def VisR (c:Cx)(k:K)(ys:List k.T)(v:Value):Prop:=
 ∃a cap,v=.slice a ys.length cap/\ys.length<=cap/\(ys≠[]->∃ad,a=some ad/\ad.spot=none /\
  ∀(i:Nat) (x:k.T),ys[i]?=some x->∃vs,RepT c.te c.w c.S k x vs/\At c.w ad.block (ad.off+i*k.size) vs)
theorem Vis.r {c:Cx}{ids:List Nat}{k:K}{ys:List k.T}{v:Value}(h:Vis c ids k ys v):VisR c k ys v:=by
 obtain⟨a,cap,h1,h2,h3⟩:=h;refine⟨a,cap,h1,h2,λhne=>?_⟩;obtain⟨ad,q1,q2,_,q4⟩:=h3 hne;exact⟨ad,q1,q2,q4⟩
theorem bR.vis {c:Cx}{ob:Option Nat}{k:K}{ys:List k.T}{v:Value}(h:bR c.te c.w c.S ob k ys v):VisR c k ys v:=by
 unfold bR at h;cases ob with
 |none=>obtain⟨rfl,rfl⟩:=h;exact⟨none,0,rfl,NG _,λh=>(h rfl).elim⟩
 |some b=>
  obtain⟨cap,arr,a,h1,h2,h3,h4,h5,h6⟩:=h;refine⟨some a,cap,h1,h2,λhne=>?_⟩;have hc:0<cap:=by
   rcases P2 cap with q|q
   ·subst q;exact(hne (OR.1 (by omega))).elim
   ·exact q
  obtain⟨rfl,h7⟩:=h3 hc;refine⟨_,rfl,rfl,λi x hx=>?_⟩;obtain⟨vs,q1,q2⟩:=h6 i x hx;refine⟨vs,q1,dC h4.blk λj u hu=>?_⟩;simpa using q2 j u hu
theorem Ju {A:Ann}{c:Cx}{w0:World}{M:MS}(hm:Mem w0 M c)(hM:ManR A c){hp:Nat->Option Obj}(hh:∀id o,hp id=some o->c.hp id=some o){s:S}{v:Value}{k:K}{ys:List k.T}
  (hr:zy hp s=.some k ys) (h:RepS c s v):VisR c k ys v:=by
 unfold zy at hr;split at hr
 ·rename_i cid g i;split at hr
  ·rename_i t off e xs g' pd hid;cases hb:Nat.beq g g' with
   |false=>rw[hb]at hr;cases hr
   |true=>
    rw[hb]at hr;simp only[NH,RowV.some.injEq]at hr;obtain⟨rfl,hr⟩:=hr;cases hr;obtain⟨_,ob,h1,h2⟩:=h;have e1:=hh cid _ hid;rw[e1]at h1;cases h1;obtain⟨hi1,hcur⟩:=(h2 _ _ _ _ _ _ _ rfl).2 (NB hb);have hlt:=(hM.dom _ _ _ _ _ _ _ _ e1 i).2 hi1;rw[hcur];exact(hM.own _ _ _ e xs g' pd e1 i _ (getD_some [] hlt)).1.vis
  ·cases hr
 ·exact(mD hm hh hr h).r
theorem Jv {hp:Nat->Option Obj}{c:Cx}{s:S}{v:Value}(hr:zy hp s=.nil)(h:RepS c s v):v=.slice none 0 0:=by
 unfold zy at hr;split at hr
 ·rename_i cid g i;split at hr
  ·rename_i t off e xs g' pd hid;cases hb:Nat.beq g g'<;>rw[hb]at hr<;>cases hr
  ·cases hr
 ·exact pO hr h
theorem jR {k k':K}{xs:List k.T}{ys:List k'.T}(h:cst k k' xs=some ys):∃e:k=k',e ▸ xs=ys:=by
 unfold cst at h;split at h
 ·rename_i e;exact⟨e,by simpa using h⟩
 ·cases h
theorem pR (te:TE)(w:World)(Sb:Nat->Prop)(e:K):RepT te w Sb (.slice e) [] [.slice none 0 0]:=⟨none,0,rfl,NG _,λh=>(h rfl).elim⟩
theorem EW {c:Cx}{w0:World}{M:MS}(hm:Mem w0 M c){hp:Nat->Option Obj}(hh:∀id o,hp id=some o->c.hp id=some o){S':Nat->Prop}(hs:∀b,c.S b->S' b):
  ∀(k:K) (cs:List S) (vs:List Value) (x:k.T) (r:List S),(∀id∈ba cs,∀b,c.β id=some b->S' b)->LR (RepS c) cs vs->rei hp k cs=some (x,r) ->
   ∃v1 v2,vs=v1++v2/\RepT c.te c.w S' k x v1/\LR (RepS c) r v2/\(∀id∈ba r,id∈ba cs):=by
 intro k
 induction k with
 |int k=>
  intro cs vs x r hi hl h
  match cs,vs,hl with
  |.int k' n::cs,v::vs,hl=>
   simp only[rei]at h;by_cases e:k'=k
   ·simp[e]at h;obtain⟨rfl,rfl⟩:=h;subst e;obtain⟨⟨rfl,h1⟩,h2⟩:=hl;exact⟨[_],vs,rfl,⟨rfl,h1⟩,h2,λid h=>by simp[ba,h]⟩
   ·simp[e]at h
  |[],[],_=>simp[rei]at h
  |.undef::_,_,_| .bool _::_,_,_| .str _::_,_,_| .err _::_,_,_| .fn _::_,_,_| .nilS::_,_,_| .sl ..::_,_,_| .vw ..::_,_,_| .pv ..::_,_,_| .ptr ..::_,_,_| .mp _::_,_,_| .clo _ _ _::_,_,_| .ipt ..::_,_,_| .mv ..::_,_,_| .io ..::_,_,_| .nilP::_,_,_| .ref ..::_,_,_| .rb ..::_,_,_| .rp ..::_,_,_| .ov ..::_,_,_| .oe ..::_,_,_| .bm ..::_,_,_| .co ..::_,_,_=>simp[rei]at h
 |bool=>
  intro cs vs x r hi hl h
  match cs,vs,hl with
  |.bool n::cs,v::vs,hl=>
   simp only[rei,Nz,Ov]at h;obtain⟨rfl,rfl⟩:=h;obtain⟨h1,h2⟩:=hl;simp only[RepS]at h1;subst h1;exact⟨[_],vs,rfl,rfl,h2,λid h=>by simp[ba,h]⟩
  |[],[],_=>simp[rei]at h
  |.undef::_,_,_| .int ..::_,_,_| .str _::_,_,_| .err _::_,_,_| .fn _::_,_,_| .nilS::_,_,_| .sl ..::_,_,_| .vw ..::_,_,_| .pv ..::_,_,_| .ptr ..::_,_,_| .mp _::_,_,_| .clo _ _ _::_,_,_| .ipt ..::_,_,_| .mv ..::_,_,_| .io ..::_,_,_| .nilP::_,_,_| .ref ..::_,_,_| .rb ..::_,_,_| .rp ..::_,_,_| .ov ..::_,_,_| .oe ..::_,_,_| .bm ..::_,_,_| .co ..::_,_,_=>simp[rei]at h
 |str=>
  intro cs vs x r hi hl h
  match cs,vs,hl with
  |.str n::cs,v::vs,hl=>
   simp only[rei,Nz,Ov]at h;obtain⟨rfl,rfl⟩:=h;obtain⟨⟨sb,rfl,h1⟩,h2⟩:=hl;exact⟨[_],vs,rfl,⟨sb,rfl,h1⟩,h2,λid h=>by simp[ba,h]⟩
  |[],[],_=>simp[rei]at h
  |.undef::_,_,_| .int ..::_,_,_| .bool _::_,_,_| .err _::_,_,_| .fn _::_,_,_| .nilS::_,_,_| .sl ..::_,_,_| .vw ..::_,_,_| .pv ..::_,_,_| .ptr ..::_,_,_| .mp _::_,_,_| .clo _ _ _::_,_,_| .ipt ..::_,_,_| .mv ..::_,_,_| .io ..::_,_,_| .nilP::_,_,_| .ref ..::_,_,_| .rb ..::_,_,_| .rp ..::_,_,_| .ov ..::_,_,_| .oe ..::_,_,_| .bm ..::_,_,_| .co ..::_,_,_=>simp[rei]at h
 |err=>
  intro cs vs x r hi hl h
  match cs,vs,hl with
  |.err n::cs,v::vs,hl=>
   simp only[rei,Nz,Ov]at h;obtain⟨rfl,rfl⟩:=h;obtain⟨h1,h2⟩:=hl;simp only[RepS]at h1;subst h1;exact⟨[_],vs,rfl,rfl,h2,λid h=>by simp[ba,h]⟩
  |[],[],_=>simp[rei]at h
  |.undef::_,_,_| .int ..::_,_,_| .bool _::_,_,_| .str _::_,_,_| .fn _::_,_,_| .nilS::_,_,_| .sl ..::_,_,_| .vw ..::_,_,_| .pv ..::_,_,_| .ptr ..::_,_,_| .mp _::_,_,_| .clo _ _ _::_,_,_| .ipt ..::_,_,_| .mv ..::_,_,_| .io ..::_,_,_| .nilP::_,_,_| .ref ..::_,_,_| .rb ..::_,_,_| .rp ..::_,_,_| .ov ..::_,_,_| .oe ..::_,_,_| .bm ..::_,_,_| .co ..::_,_,_=>simp[rei]at h
 |fn=>
  intro cs vs x r hi hl h
  match cs,vs,hl with
  |.fn n::cs,v::vs,hl=>
   simp only[rei,Nz,Ov]at h;obtain⟨rfl,rfl⟩:=h;obtain⟨h1,h2⟩:=hl;simp only[RepS]at h1;subst h1;exact⟨[_],vs,rfl,rfl,h2,λid h=>by simp[ba,h]⟩
  |[],[],_=>simp[rei]at h
  |.undef::_,_,_| .int ..::_,_,_| .bool _::_,_,_| .str _::_,_,_| .err _::_,_,_| .nilS::_,_,_| .sl ..::_,_,_| .vw ..::_,_,_| .pv ..::_,_,_| .ptr ..::_,_,_| .mp _::_,_,_| .clo _ _ _::_,_,_| .ipt ..::_,_,_| .mv ..::_,_,_| .io ..::_,_,_| .nilP::_,_,_| .ref ..::_,_,_| .rb ..::_,_,_| .rp ..::_,_,_| .ov ..::_,_,_| .oe ..::_,_,_| .bm ..::_,_,_| .co ..::_,_,_=>simp[rei]at h
 |ref t=>
  intro cs vs x r hi hl h
  match cs,vs,hl with
  |.ref t' n::cs,v::vs,hl=>
   simp only[rei]at h;cases hb:Nat.beq t' t with
   |false=>rw[hb]at h;cases h
   |true=>
    rw[hb]at h;simp only[NH,Nz,Ov]at h;obtain⟨rfl,rfl⟩:=h;have:=NB hb;subst this;exact⟨[v],vs,rfl,⟨v,rfl,hl.1⟩,hl.2,λid h=>by simp[ba,h]⟩
  |.rb t' n::cs,v::vs,hl=>
   simp only[rei]at h;cases hb:Nat.beq t' t with
   |false=>rw[hb]at h;cases h
   |true=>
    rw[hb]at h;simp only[NH,Nz,Ov]at h;obtain⟨rfl,rfl⟩:=h;have:=NB hb;subst this;exact⟨[v],vs,rfl,⟨v,rfl,hl.1⟩,hl.2,λid h=>by simp[ba,h]⟩
  |.nilP::cs,v::vs,hl=>
   simp only[rei,Nz,Ov]at h;obtain⟨rfl,rfl⟩:=h;exact⟨[v],vs,rfl,⟨v,rfl,hl.1⟩,hl.2,λid h=>by simp[ba,h]⟩
  |[],[],_=>simp[rei]at h
  |.undef::_,_,_| .int ..::_,_,_| .bool _::_,_,_| .str _::_,_,_| .err _::_,_,_| .fn _::_,_,_| .nilS::_,_,_| .sl ..::_,_,_| .vw ..::_,_,_| .pv ..::_,_,_| .ptr ..::_,_,_| .mp _::_,_,_| .clo _ _ _::_,_,_| .ipt ..::_,_,_| .mv ..::_,_,_| .io ..::_,_,_| .rp ..::_,_,_| .ov ..::_,_,_| .oe ..::_,_,_| .bm ..::_,_,_| .co ..::_,_,_=>simp[rei]at h
 |slice e ih=>
  intro cs vs x r hi hl h
  match cs,vs,hl with
  |s::cs,v::vs,hl=>
   simp only[rei]at h;split at h
   ·rename_i hn;simp only[Nz,Ov]at h;obtain⟨rfl,rfl⟩:=h;have:=pO hn hl.1;subst this;exact⟨[_],vs,rfl,pR _ _ _ _,hl.2,λid h=>by simp[ba,h]⟩
   ·rename_i k' xs hn;split at h
    ·rename_i ys hc;simp only[Nz,Ov]at h;obtain⟨rfl,rfl⟩:=h;obtain⟨rfl,rfl⟩:=jR hc;have:=mD hm hh hn hl.1;refine⟨[_],vs,rfl,this.repT hs (λid hid b hb=>hi id (by simp[ba,hid]) b hb),hl.2,λid h=>by simp[ba,h]⟩
    ·cases h
   ·cases h
  |[],[],_=>simp[rei]at h
 |prod a b iha ihb=>
  intro cs vs x r hi hl h;simp only[rei]at h;split at h
  ·rename_i x1 r1 h1;split at h
   ·rename_i y1 r2 h2;simp only[Nz,Ov]at h;obtain⟨rfl,rfl⟩:=h;obtain⟨v1,v2,rfl,q1,q2,q3⟩:=iha cs vs x1 r1 hi hl h1;obtain⟨v3,v4,rfl,p1,p2,p3⟩:=ihb r1 v2 y1 r2 (λid hid=>hi id (q3 id hid)) q2 h2;exact⟨v1++v3,v4,by simp,⟨v1,v3,rfl,q1,p1⟩,p2,λid hid=>q3 id (p3 id hid)⟩
   ·cases h
  ·cases h
 |strct a ih=>
  intro cs vs x r hi hl h;simp only[rei]at h;exact ih cs vs x r hi hl h
theorem dV {c:Cx}{w0:World}{M:MS}(hm:Mem w0 M c){hp:Nat->Option Obj}(hh:∀id o,hp id=some o->c.hp id=some o){S':Nat->Prop}(hs:∀b,c.S b->S' b){k:K}{cs:List S}{vs:List Value}{x:k.T}
  (hi:∀id∈ba cs,∀b,c.β id=some b->S' b) (hl:LR (RepS c) cs vs) (h:rei1 hp k cs=some x):RepT c.te c.w S' k x vs:=by
 unfold rei1 at h;split at h
 ·rename_i y hy;simp only[Nz]at h;subst h;obtain⟨v1,v2,rfl,h1,h2,_⟩:=EW hm hh hs k cs vs y [] hi hl hy
  match v2,h2 with
  |[],_=>simpa using h1
 ·cases h
end Go.Eng
namespace Go.Eng
open Go.RowKit
def hpU (u:Upd)(hp:Nat->Option Obj)(id:Nat):Option Obj:=match hget u id with|some o=>some o|none=>hp id
def aU (w0:World)(M:MS)(c:Cx)(nx:Result Next)(v:AV)(u:Upd):Prop:=
 ∃nv c',nx=.ok nv c'.w/\Mem w0 M c'/\Ext c c'/\c'.hp=hpU u c.hp/\((∃v',nv=.value v'/\RepV c' v v')\/(nv=.skip/\v=.undef))
theorem aU.quiet {w0:World}{M:MS}{c:Cx}(hm:Mem w0 M c){nx:Result Next}{v:AV}{v':Value}(h:nx=.ok (.value v') c.w)(hv:RepV c v v'):aU w0 M c nx v []:=
 ⟨_,c,h,hm,Ext.refl c,rfl,.inl ⟨v',rfl,hv⟩⟩
theorem aM {P:Program}{s:Sem Value}{v:Value}{w w':World}(h:s.run P w=.ok v w'):(do pure (Next.value (<- s)):Sem Next).run P w=.ok (.value v) w':=by
 rw[run_ok h];rfl
theorem fI {P:Program}{s:Sem Unit}{w w':World}(h:s.run P w=.ok () w'):(do s;pure Next.skip:Sem Next).run P w=.ok .skip w':=by
 rw[run_ok h];rfl
theorem lz (k:IntKind)(n:Int):okI k (k.wrap n):=by
 cases k<;>simp[okI,okB];simp[IntKind.wrap,IntKind.signed,IntKind.bits];omega
theorem ES (c:Cx){v:Value}(h:one v=true):RepS c (ofV v) v:=by
 unfold ofV;split
 ·rfl
 ·rename_i k n;cases hb:okB k n with
  |true=>exact⟨rfl,hb⟩
  |false=>rfl
 ·exact⟨_,rfl,rfl⟩
 ·rfl
 ·rfl
 ·rfl
 ·rfl
 ·rfl
 ·exact h
theorem lu (c:Cx):∀(l:List Value),l.all one=true->LR (RepS c) (l.map ofV) l
 |[],_=>trivial
 |v::r,h=>by
  simp only[QZ,NM]at h;exact⟨ES c h.1,lu c r h.2⟩
theorem xi (c:Cx)(v:Value):RepV c (qN v) v:=by
 unfold qN;split
 ·rename_i cs;unfold Fc;cases h:cs.toList.all one with
  |true=>exact⟨cs,rfl,lu c _ h⟩
  |false=>trivial
 ·trivial
 ·rename_i h1 h2;exact⟨_,rfl,ES c (by cases v<;>first|rfl|exact(h1 _ rfl).elim|exact(h2 _ rfl).elim)⟩
theorem aF {c:Cx}{ρ:Operand->AV}{r:Operand->Value}(hr:∀x,RepV c (ρ x) (r x)){x:Operand}{s:S}(h:slot x ρ=some s):RepS c s (r x):=by
 unfold slot at h;have:=hr x;split at h
 ·rename_i s' e;rw[e]at this;obtain⟨s2,e2,h2⟩:=this;cases e2;simp only[Nz]at h;subst h;exact h2
 ·cases h
theorem aB {c:Cx}{s:S}{v:Value}(h:RepS c s v):RepV c (.val false [s]) v:=⟨s,rfl,h⟩
theorem aT {c:Cx}{s:S}{v:Value}(h:RepV c (.val false [s]) v):RepS c s v:=by
 obtain⟨s',e,h⟩:=h;cases e;exact h
theorem sG {a b:ByteArray}(h:bytesOf a=bytesOf b):a.data.toList=b.data.toList:=by
 unfold bytesOf at h;refine(List.map_inj_right (f:=λc:UInt8=>(c.toNat:Int)) ?_).1 h;intro x y e;exact UInt8.toNat_inj.1 (Qc.1 e)
theorem uR {a b:ByteArray}:decide (bytesOf a=bytesOf b)=(a.toList==b.toList):=by
 rw[ByteArray.toList_eq,ByteArray.toList_eq,Qi];simp only[N0,P6];exact⟨sG,λh=>by unfold bytesOf;rw[h]⟩
theorem bQ (a:ByteArray):(bytesOf a).length=a.size:=by simp[bytesOf]
theorem ct {P:Program}{op:BinOp}{t:TypeId}{xo yo:Operand}{x y v:Value}{w:World}(h1:(eqGuard op t xo yo x y).run P w=.ok () w)(h2:(binOp op t x y).run P w=.ok v w):
  (do pure (Next.value (<- (do eqGuard op t xo yo x y;binOp op t x y))):Sem Next).run P w=.ok (.value v) w:=by
 refine aM ?_;rw[run_ok h1];exact h2
theorem Ib (k:IntKind)(x:Int)(n:Nat)(h:okI k x):okI k (x.fdiv (2^n)):=by
 cases k<;>simp[okI,okB]at h ⊢;have e:x.fdiv (2^n)=x/2^n:=Pp _ (Int.le_of_lt (Int.pow_pos (by decide)));rw[e];refine⟨QR h.1 (Int.le_of_lt (Int.pow_pos (by decide))),?_⟩;have:=Int.ediv_le_self (b:=2^n) h.1;omega
theorem Ia (k:IntKind)(x y:Int)(h:okI k x):okI k (x.tmod y):=by
 cases k<;>simp[okI,okB]at h ⊢;have h1:=Int.tmod_nonneg y h.1;have h2:=Int.natAbs_tmod x y;have h3:=Nat.mod_le x.natAbs y.natAbs;omega
theorem Dl {c:Cx}{a:S}{x:Value}{q:Bool}(ha:RepS c a x)(h:E3 a=some q):∃p,x=.pointer p/\q=p.isNone:=by
 cases a<;>simp only[E3,Nz,reduceCtorEq]at h
 case nilP=>subst h;exact⟨none,ha,rfl⟩
 case ref t r=>
  subst h;cases r with
  |none=>exact⟨none,ha,rfl⟩
  |some i=>obtain⟨b,_,rfl⟩:=ha;exact⟨_,rfl,rfl⟩
 case rb t i=>subst h;obtain⟨b,_,rfl⟩:=ha;exact⟨_,rfl,rfl⟩
theorem mz {P:Program}{w0:World}{M:MS}{c:Cx}(hm:Mem w0 M c){op:BinOp}{t:TypeId}{xo yo:Operand}{a b:S}{x y:Value}(ha:RepS c a x)(hb:RepS c b y)
  {v:AV} {u:Upd} (h:binP P op t a b=.ok true v u):
  aU w0 M c ((do pure (Next.value (<- (do eqGuard op t xo yo x y;binOp op t x y))):Sem Next).run P c.w) v u:=by
 unfold binP at h;cases hr:FH P t with
 |false=>rw[hr]at h;cases h
 |true=>
  rw[hr]at h;simp only[NH]at h;split at h
  ·rename_i q hq;obtain⟨p,rfl,rfl⟩:=Dl ha hq;simp only[RepS]at hb;subst hb;have hu:∃e,P.underlying t=some (.pointer e):=by
    unfold FH at hr;split at hr
    ·rename_i e he;exact⟨e,he⟩
    ·cases hr
   obtain⟨e,hu⟩:=hu;have hg:(eqGuard op t xo yo (.pointer p) (.pointer none)).run P c.w=.ok () c.w:=by cases op<;>rfl
   have he:(Op.equal t (.pointer p) (.pointer none)).run P c.w=.ok p.isNone c.w:=by
    unfold Op.equal Op.maxDepth Op.equalIn;rw[run_ok (run_underlying hu c.w)];cases p<;>rfl
   cases op<;>simp only[okv,Out.ok.injEq,Oh,reduceCtorEq]at h
   ·obtain⟨rfl,rfl⟩:=h;exact .quiet hm (ct hg (v:=.bool p.isNone) (by simp only[binOp];rw[run_ok he];rfl)) (aB rfl)
   ·obtain⟨rfl,rfl⟩:=h;exact .quiet hm (ct hg (v:=.bool (!p.isNone)) (by simp only[binOp];rw[run_ok he];rfl)) (aB rfl)
  ·cases h
theorem GL {P:Program}{w0:World}{M:MS}{c:Cx}(hm:Mem w0 M c){op:BinOp}{t:TypeId}{xo yo:Operand}{a b:Option Int}{x y:Value}(ha:RepS c (.err a) x)(hb:RepS c (.err b) y)
  {v:AV} {u:Upd} (h:GM P c.te.te op t a b=.ok true v u):
  aU w0 M c ((do pure (Next.value (<- (do eqGuard op t xo yo x y;binOp op t x y))):Sem Next).run P c.w) v u:=by
 simp only[RepS]at ha hb;subst ha;subst hb;unfold GM at h;split at h
 ·rename_i ms i hu hi;cases hc:(i.comparable&&K1 P c.te.te)with
  |false=>rw[hc]at h;cases h
  |true=>
   rw[hc]at h;simp only[NH]at h;simp only[NM]at hc;obtain⟨hc1,hc2⟩:=hc;have hu2:P.underlying c.te.te=some (.int .i64):=by
    unfold K1 at hc2;split at hc2
    ·rename_i e;exact e
    ·cases hc2
   have hab:(a.isSome || b.isSome)=true:=by
    cases op<;>simp only[Out.ok.injEq,reduceCtorEq]at h<;>exact h.1
   have hg:(eqGuard op t xo yo (errV c.te a) (errV c.te b)).run P c.w=.ok () c.w:=by
    cases a<;>cases b<;>first|(simp at hab;done)|(cases op<;>rfl)
   have he:(Op.equal t (errV c.te a) (errV c.te b)).run P c.w=.ok (decide (a=b)) c.w:=by
    unfold Op.equal Op.maxDepth Op.equalIn;rw[run_ok (run_underlying hu c.w)];cases a with
    |none=>cases b with
     |none=>simp at hab
     |some m=>rfl
    |some n=>cases b with
     |none=>rfl
     |some m=>
      simp only[errV,ne_eq,QF,OE];rw[run_ok (bK hi c.w)];simp only[hc1,Pw,Od,OE];unfold Op.equalIn;rw[run_ok (run_underlying hu2 c.w)];simp only[O8,Nz];show Result.ok (n==m) c.w=_;congr 1
   cases op<;>simp only[Out.ok.injEq,reduceCtorEq]at h
   ·obtain⟨_,rfl,rfl⟩:=h;exact .quiet hm (ct hg (v:=.bool (decide (a=b))) (by cases a<;>cases b<;>first|(simp at hab;done)|(simp only[binOp,errV]at he ⊢;rw[run_ok he];rfl))) (aB rfl)
   ·obtain⟨_,rfl,rfl⟩:=h;exact .quiet hm (ct hg (v:=.bool (!decide (a=b))) (by cases a<;>cases b<;>first|(simp at hab;done)|(simp only[binOp,errV]at he ⊢;rw[run_ok he];rfl))) (aB rfl)
 ·cases h
theorem Ha {P : Program} {w0 : World} {M : MS} {c : Cx} (hm : Mem w0 M c) {op : BinOp} {t : TypeId} {xo yo : Operand} {a b : S} {x y : Value} (ha : RepS c a x) (hb : RepS c b y)
    {v : AV} {u : Upd} (hx : bw xo = true → (∃ v, xo = .const v) ∧ (x = .nilIface ∨ x = .nilFunc)) (hy : bw yo = true → (∃ v, yo = .const v) ∧ (y = .nilIface ∨ y = .nilFunc))
    (h : binS P op t xo yo a b = .ok true v u) :
    aU w0 M c ((do pure (Next.value (← (do eqGuard op t xo yo x y; binOp op t x y))) : Sem Next).run P c.w) v u := by
  cases a with
  | int k m =>
    cases b with
    | int k' n =>
      obtain ⟨rfl, h1⟩ := ha
      obtain ⟨rfl, h2⟩ := hb
      have hg : (eqGuard op t xo yo (.int k m) (.int k' n)).run P c.w = .ok () c.w := by cases op <;> rfl
      have key : ∀ s v', v = .val false [s] → u = [] → (binOp op t (.int k m) (.int k' n)).run P c.w = .ok v' c.w → RepS c s v' → aU w0 M c ((do pure (Next.value (← (do eqGuard op t xo yo (.int k m) (.int k' n); binOp op t (.int k m) (.int k' n)))) : Sem Next).run P c.w) v u := by
        rintro s v' rfl rfl e hr
        exact .quiet hm (ct hg e) (aB hr)
      cases op with
      | shl =>
        simp only [binS, Out.ok.injEq, N0] at h
        obtain ⟨h0, rfl, rfl⟩ := h
        refine key _ _ rfl rfl ?_ ⟨rfl, lz _ _⟩
        simp only [binOp, Op.shift]
        rw [ND (by omega)]; rfl
      | shr =>
        simp only [binS, Out.ok.injEq, N0] at h
        obtain ⟨h0, rfl, rfl⟩ := h
        refine key _ _ rfl rfl ?_ ⟨rfl, Ib _ _ _ h1⟩
        simp only [binOp, Op.shift]
        rw [ND (by omega)]; rfl
      | _ =>
        by_cases hk : k = k'
        · subst hk
          simp only [binS, OZ, NH, okv, Out.ok.injEq, Oh, cmpI, Oz, PL] at h
          first
          | (obtain ⟨rfl, rfl⟩ := h
             exact key _ _ rfl rfl (by simp only [binOp, ne_eq, QF, OE]; rfl) (by first | exact ⟨rfl, lz _ _⟩ | rfl))
          | (obtain ⟨h0, rfl, rfl⟩ := h
             exact key _ _ rfl rfl (by simp only [binOp, ne_eq, QF, OE, Op.intDiv, h0]; rfl) (by first | exact ⟨rfl, lz _ _⟩ | exact ⟨rfl, Ia _ _ _ h1⟩))
        · simp only [binS, hk, PU, NS] at h
          cases h
    | _ => exact mz hm ha hb h
  | str s =>
    cases b with
    | str s' =>
      obtain ⟨sa, rfl, rfl⟩ := ha
      obtain ⟨sb, rfl, rfl⟩ := hb
      have hg : (eqGuard op t xo yo (.string sa) (.string sb)).run P c.w = .ok () c.w := by cases op <;> rfl
      cases op with
      | add =>
        simp only [binS, Out.ok.injEq, N0, bQ] at h
        obtain ⟨h0, rfl, rfl⟩ := h
        refine .quiet hm (v' := .string (sa ++ sb)) (ct hg ?_) (aB ⟨_, rfl, by simp [bytesOf, ByteArray.data_append]⟩)
        simp only [binOp, Op.stringOp]
        rw [ND (by simp [IntKind.max, IntKind.signed, IntKind.bits]; omega)]; rfl
      | eql =>
        simp only [binS, okv, Out.ok.injEq, Oh] at h
        obtain ⟨rfl, rfl⟩ := h
        exact .quiet hm (ct hg (v := .bool (sa.toList == sb.toList)) rfl) (aB (by simp only [RepS]; rw [uR]))
      | neq =>
        simp only [binS, okv, Out.ok.injEq, Oh] at h
        obtain ⟨rfl, rfl⟩ := h
        exact .quiet hm (ct hg (v := .bool (!(sa.toList == sb.toList))) rfl) (aB (by simp only [RepS]; rw [uR]))
      | _ => simp [binS] at h
    | _ => exact mz hm ha hb h
  | bool s =>
    cases b with
    | bool s' =>
      simp only [RepS] at ha hb
      subst ha; subst hb
      have hg : (eqGuard op t xo yo (.bool s) (.bool s')).run P c.w = .ok () c.w := by cases op <;> rfl
      simp only [binS] at h
      split at h
      · rename_i hu
        have he : (Op.equal t (.bool s) (.bool s')).run P c.w = .ok (s == s') c.w := by
          unfold Op.equal Op.maxDepth Op.equalIn
          rw [run_ok (run_underlying hu c.w)]; rfl
        cases op <;> simp only [okv, Out.ok.injEq, Oh, reduceCtorEq] at h
        · obtain ⟨rfl, rfl⟩ := h
          exact .quiet hm (ct hg (v := .bool (s == s')) (by simp only [binOp]; rw [run_ok he]; rfl)) (aB rfl)
        · obtain ⟨rfl, rfl⟩ := h
          exact .quiet hm (ct hg (v := .bool (!(s == s'))) (by simp only [binOp]; rw [run_ok he]; rfl)) (aB rfl)
      · cases h
    | _ => exact mz hm ha hb h
  | err e =>
    cases b with
    | err e' =>
      simp only [RepS] at ha hb
      subst ha; subst hb
      simp only [binS] at h
      split at h
      · rename_i ms hu
        cases hyc : bw yo with
        | true =>
          rw [hyc] at h
          simp only [NH] at h
          obtain ⟨⟨yv, rfl⟩, hyn⟩ := hy hyc
          have hn : e' = none := by cases e' <;> simp [errV] at hyn ⊢
          subst hn
          have hg : (eqGuard op t xo (.const yv) (errV c.te e) (errV c.te none)).run P c.w = .ok () c.w := by
            cases e <;> cases op <;> first | rfl | (simp only [eqGuard, errV]; cases xo <;> rfl)
          have he : (Op.equal t (errV c.te e) (errV c.te none)).run P c.w = .ok (!e.isSome) c.w := by
            unfold Op.equal Op.maxDepth Op.equalIn
            rw [run_ok (run_underlying hu c.w)]
            cases e <;> rfl
          cases op <;> simp only [okv, Out.ok.injEq, Oh, reduceCtorEq] at h
          · obtain ⟨rfl, rfl⟩ := h
            exact .quiet hm (ct hg (v := .bool (!e.isSome)) (by cases e <;> (simp only [binOp, errV] at he ⊢; rw [run_ok he]; rfl))) (aB rfl)
          · obtain ⟨rfl, rfl⟩ := h
            exact .quiet hm (ct hg (v := .bool (!!e.isSome)) (by cases e <;> (simp only [binOp, errV] at he ⊢; rw [run_ok he]; rfl))) (aB (by simp [RepS]))
        | false =>
          rw [hyc] at h
          simp only [NS] at h
          cases hxc : bw xo with
          | true =>
            rw [hxc] at h
            simp only [NH] at h
            obtain ⟨⟨xv, rfl⟩, hxn⟩ := hx hxc
            have hn : e = none := by cases e <;> simp [errV] at hxn ⊢
            subst hn
            have hg : (eqGuard op t (.const xv) yo (errV c.te none) (errV c.te e')).run P c.w = .ok () c.w := by
              cases e' <;> cases op <;> rfl
            have he : (Op.equal t (errV c.te none) (errV c.te e')).run P c.w = .ok (!e'.isSome) c.w := by
              unfold Op.equal Op.maxDepth Op.equalIn
              rw [run_ok (run_underlying hu c.w)]
              cases e' <;> rfl
            cases op <;> simp only [okv, Out.ok.injEq, Oh, reduceCtorEq] at h
            · obtain ⟨rfl, rfl⟩ := h
              exact .quiet hm (ct hg (v := .bool (!e'.isSome)) (by cases e' <;> (simp only [binOp, errV] at he ⊢; rw [run_ok he]; rfl))) (aB rfl)
            · obtain ⟨rfl, rfl⟩ := h
              exact .quiet hm (ct hg (v := .bool (!!e'.isSome)) (by cases e' <;> (simp only [binOp, errV] at he ⊢; rw [run_ok he]; rfl))) (aB (by simp [RepS]))
          | false => rw [hxc] at h; cases h
      · cases h
    | _ => exact mz hm ha hb h
  | fn e =>
    cases b with
    | fn e' =>
      simp only [RepS] at ha hb
      subst ha; subst hb
      simp only [binS] at h
      split at h
      · rename_i hu
        cases hyc : bw yo with
        | true =>
          rw [hyc] at h
          simp only [NH] at h
          obtain ⟨⟨yv, rfl⟩, hyn⟩ := hy hyc
          have hn : e' = none := by cases e' <;> simp [fnV] at hyn ⊢
          subst hn
          have hg : (eqGuard op t xo (.const yv) (fnV e) (fnV none)).run P c.w = .ok () c.w := by
            cases e <;> cases op <;> rfl
          have he : (Op.equal t (fnV e) (fnV none)).run P c.w = .ok (!e.isSome) c.w := by
            unfold Op.equal Op.maxDepth Op.equalIn
            rw [run_ok (run_underlying hu c.w)]
            cases e <;> rfl
          cases op <;> simp only [okv, Out.ok.injEq, Oh, reduceCtorEq] at h
          · obtain ⟨rfl, rfl⟩ := h
            exact .quiet hm (ct hg (v := .bool (!e.isSome)) (by cases e <;> (simp only [binOp, fnV] at he ⊢; rw [run_ok he]; rfl))) (aB rfl)
          · obtain ⟨rfl, rfl⟩ := h
            exact .quiet hm (ct hg (v := .bool (!!e.isSome)) (by cases e <;> (simp only [binOp, fnV] at he ⊢; rw [run_ok he]; rfl))) (aB (by simp [RepS]))
        | false => rw [hyc] at h; cases h
      · cases h
    | _ => exact mz hm ha hb h
  | bm f id =>
    cases b with
    | fn e' =>
      simp only [RepS] at hb
      subst hb
      obtain ⟨p, rfl, _⟩ := ha
      simp only [binS] at h
      split at h
      · rename_i hu
        cases hyc : bw yo with
        | true =>
          rw [hyc] at h
          simp only [NH] at h
          obtain ⟨⟨yv, rfl⟩, hyn⟩ := hy hyc
          have hn : e' = none := by cases e' <;> simp [fnV] at hyn ⊢
          subst hn
          have hg : (eqGuard op t xo (.const yv) (.func (.func f) #[p] #[]) (fnV none)).run P c.w = .ok () c.w := by cases op <;> rfl
          have he : (Op.equal t (.func (.func f) #[p] #[]) (fnV none)).run P c.w = .ok false c.w := by
            unfold Op.equal Op.maxDepth Op.equalIn
            rw [run_ok (run_underlying hu c.w)]
            rfl
          cases op <;> simp only [okv, Out.ok.injEq, Oh, reduceCtorEq] at h
          · obtain ⟨rfl, rfl⟩ := h
            exact .quiet hm (ct hg (v := .bool false) (by simp only [binOp, fnV] at he ⊢; rw [run_ok he]; rfl)) (aB rfl)
          · obtain ⟨rfl, rfl⟩ := h
            exact .quiet hm (ct hg (v := .bool true) (by simp only [binOp, fnV] at he ⊢; rw [run_ok he]; rfl)) (aB rfl)
        | false => rw [hyc] at h; cases h
      · cases h
    | _ => exact mz hm ha hb h
  | _ => exact mz hm ha hb h
end Go.Eng
namespace Go.Eng
open Go.RowKit
def vOf (g:Bool)(l:List Value):Value:=bif g then .agg l.toArray else l.headD undef
theorem lq {P:Program}{w:World}{t:TypeId}{n:Nat}{g:Bool}(hs:dw P t=some n)(hg:aggT P t=some g)(cs:Array Value)(off:Nat)(hl:g=false->n=1)(ho:off+n<=cs.size):
  (part t cs off).run P w=.ok (vOf g ((cs.toList.drop off).take n)) w:=by
 unfold part;rw[run_ok (iR hg w)];cases g with
 |true=>
  rw[NI rfl];rw[run_ok (bh hs w)];show Result.ok (Value.agg _) _=Result.ok (Value.agg _) _;congr 2;apply O5;simp[QW,List.extract]
 |false=>
  rw[ND (by decide)];have h1:=hl rfl;subst h1;have:cs[off]?=some cs[off]:=by simp
  rw[this];show Result.ok _ _=_;congr 1;simp only[vOf,NS];have e:cs.toList.drop off=cs[off]::cs.toList.drop (off+1):=by
   rw[Ob (by simp;omega)];simp
  rw[e];rfl
theorem zu {P:Program}{w:World}{α:Type}{body:α->Option Bool×Unit->Sem (ForInStep (Option Bool×Unit))}:∀(l:List α)(bs:List Bool),
  LR (λa b=>(body a (none,())).run P w=.ok (if b=true then .yield (none,())else .done (some false,())) w) l bs ->
  (forIn l (none,()) body).run P w=.ok (if bs.all id=true then(none,())else(some false,())) w
 |[],[],_=>by rw[List.forIn_nil];rfl
 |a::r,b::bs,h=>by
  rw[List.forIn_cons,run_ok h.1];cases b with
  |true=>
   simp only[O8];rw[zu r bs h.2];simp
  |false=>simp
 |[],_::_,h=>h.elim
 |_::_,[],h=>h.elim
theorem cL:∀(ks ks':List K)(X Y:List S)(b:Bool),aQ (ks++ks') X Y=some b ->
  ∃b1 b2,aQ ks (X.take ks.length) (Y.take ks.length)=some b1/\aQ ks' (X.drop ks.length) (Y.drop ks.length)=some b2/\b=(b1&&b2)/\ks.length<=X.length/\ks.length<=Y.length
 |[],ks',X,Y,b,h=>⟨true,b,by simp[aQ],by simpa using h,by simp,by simp,by simp⟩
 |.int k::ks,ks',X,Y,b,h=>by
  match X,Y with
  |.int a x::X,.int c y::Y=>
   simp only[N4,aQ]at h;cases hk:(decide (a=k)&&decide (c=k))with
   |false=>rw[hk]at h;cases h
   |true=>
    rw[hk]at h;simp only[NH]at h;split at h
    ·rename_i q hq;simp only[Nz]at h;subst h;obtain⟨b1,b2,h1,h2,rfl,h4,h5⟩:=cL ks ks' X Y q hq;exact⟨decide (x=y)&&b1,b2,by simp[aQ,hk,h1],by simpa using h2,by rw[QT],by simpa using h4,by simpa using h5⟩
    ·cases h
  |[],_=>simp[aQ]at h
  |.int ..::_,[]=>simp[aQ]at h
  |.int ..::_,.undef::_| .int ..::_,.bool _::_| .int ..::_,.str _::_| .int ..::_,.err _::_| .int ..::_,.fn _::_| .int ..::_,.nilS::_| .int ..::_,.sl ..::_| .int ..::_,.vw ..::_| .int ..::_,.pv ..::_| .int ..::_,.ptr ..::_| .int ..::_,.ipt ..::_| .int ..::_,.mv ..::_| .int ..::_,.io ..::_=>simp[aQ]at h
  |.undef::_,_| .bool _::_,_| .str _::_,_| .err _::_,_| .fn _::_,_| .nilS::_,_| .sl ..::_,_| .vw ..::_,_| .pv ..::_,_| .ptr ..::_,_| .mp _::_,_| .clo _ _ _::_,_| .ipt ..::_,_| .mv ..::_,_| .io ..::_,_=>simp[aQ]at h
 |.bool::ks,ks',X,Y,b,h=>by
  match X,Y with
  |.bool x::X,.bool y::Y=>
   simp only[N4,aQ]at h;split at h
   ·rename_i q hq;simp only[Nz]at h;subst h;obtain⟨b1,b2,h1,h2,rfl,h4,h5⟩:=cL ks ks' X Y q hq;exact⟨(x==y)&&b1,b2,by simp[aQ,h1],by simpa using h2,by rw[QT],by simpa using h4,by simpa using h5⟩
   ·cases h
  |[],_=>simp[aQ]at h
  |.bool ..::_,[]=>simp[aQ]at h
  |.bool ..::_,.undef::_| .bool ..::_,.int ..::_| .bool ..::_,.str _::_| .bool ..::_,.err _::_| .bool ..::_,.fn _::_| .bool ..::_,.nilS::_| .bool ..::_,.sl ..::_| .bool ..::_,.vw ..::_| .bool ..::_,.pv ..::_| .bool ..::_,.ptr ..::_| .bool ..::_,.ipt ..::_| .bool ..::_,.mv ..::_| .bool ..::_,.io ..::_=>simp[aQ]at h
  |.undef::_,_| .int ..::_,_| .str _::_,_| .err _::_,_| .fn _::_,_| .nilS::_,_| .sl ..::_,_| .vw ..::_,_| .pv ..::_,_| .ptr ..::_,_| .mp _::_,_| .clo _ _ _::_,_| .ipt ..::_,_| .mv ..::_,_| .io ..::_,_=>simp[aQ]at h
 |.str::ks,ks',X,Y,b,h=>by
  match X,Y with
  |.str x::X,.str y::Y=>
   simp only[N4,aQ]at h;split at h
   ·rename_i q hq;simp only[Nz]at h;subst h;obtain⟨b1,b2,h1,h2,rfl,h4,h5⟩:=cL ks ks' X Y q hq;exact⟨decide (x=y)&&b1,b2,by simp[aQ,h1],by simpa using h2,by rw[QT],by simpa using h4,by simpa using h5⟩
   ·cases h
  |[],_=>simp[aQ]at h
  |.str ..::_,[]=>simp[aQ]at h
  |.str ..::_,.undef::_| .str ..::_,.int ..::_| .str ..::_,.bool _::_| .str ..::_,.err _::_| .str ..::_,.fn _::_| .str ..::_,.nilS::_| .str ..::_,.sl ..::_| .str ..::_,.vw ..::_| .str ..::_,.pv ..::_| .str ..::_,.ptr ..::_| .str ..::_,.ipt ..::_| .str ..::_,.mv ..::_| .str ..::_,.io ..::_=>simp[aQ]at h
  |.undef::_,_| .int ..::_,_| .bool _::_,_| .err _::_,_| .fn _::_,_| .nilS::_,_| .sl ..::_,_| .vw ..::_,_| .pv ..::_,_| .ptr ..::_,_| .mp _::_,_| .clo _ _ _::_,_| .ipt ..::_,_| .mv ..::_,_| .io ..::_,_=>simp[aQ]at h
 |.err::ks,_,_,_,_,h| .fn::ks,_,_,_,_,h| .slice _::ks,_,_,_,_,h| .prod ..::ks,_,_,_,_,h| .strct _::ks,_,_,_,_,h=>by simp[aQ]at h
theorem gT:∀(ks:List K)(X Y:List S)(b:Bool),aQ ks X Y=some b->X.length=ks.length/\Y.length=ks.length
 |ks,X,Y,b,h=>by
  obtain⟨b1,b2,h1,h2,_,h4,h5⟩:=cL ks [] X Y b (by simpa using h);have hx:X.drop ks.length=[]/\Y.drop ks.length=[]:=by
   cases hX:X.drop ks.length with
   |nil=>cases hY:Y.drop ks.length with
    |nil=>exact⟨rfl,rfl⟩
    |cons a r=>rw[hX,hY]at h2;simp[aQ]at h2
   |cons a r=>rw[hX]at h2;simp[aQ]at h2
  have h6:=QX.1 hx.1;have h7:=QX.1 hx.2;omega
theorem fU {P:Program}:∀(d:Nat)(t:TypeId)(ks:List K)(g:Bool),flat P d t=some ks->aggT P t=some g->g=false->ks.length=1
 |0,_,_,_,h,_,_=>by simp[flat]at h
 |d+1,t,ks,g,h,hg,h0=>by
  subst h0;unfold flat at h;unfold aggT at hg;cases hu:P.underlying t with
  |none=>rw[hu]at hg;cases hg
  |some td=>
   rw[hu]at h hg;cases td<;>simp at hg h<;>subst h<;>rfl
theorem GN {P:Program}{c:Cx}{w:World}:∀(d:Nat)(t:TypeId)(ks:List K),flat P d t=some ks->∀(m:Nat),d<=m->∀(X Y:List S)(vx vy:List Value)(b:Bool),LR (RepS c) X vx->LR (RepS c) Y vy->aQ ks X Y=some b ->
  ∃g,aggT P t=some g/\(Op.equalIn m t (vOf g vx) (vOf g vy)).run P w=.ok b w
 |0,_,_,h,_,_,_,_,_,_,_,_,_,_=>by simp[flat]at h
 |d+1,t,ks,h,0,hm,_,_,_,_,_,_,_,_=>by omega
 |d+1,t,ks,h,m+1,hm,X,Y,vx,vy,b,hX,hY,he=>by
  unfold flat at h;cases hu:P.underlying t with
  |none=>rw[hu]at h;cases h
  |some td=>
   rw[hu]at h;cases td with
   |int k=>
    simp only[Nz]at h;subst h;refine⟨false,by simp[aggT,hu],?_⟩
    match X,Y,vx,vy,hX,hY,he with
    |.int a x::X,.int e y::Y,v::vs,u::us,hX,hY,he2=>
     simp only[aQ]at he2;obtain⟨⟨rfl,_⟩,_⟩:=hX;obtain⟨⟨rfl,_⟩,_⟩:=hY;by_cases h1:a=k<;>by_cases h2:e=k<;>simp[h1,h2]at he2;clear he;have he:=he2;rw[h1,h2];split at he
     ·rename_i q hq;have hxy:=gT _ _ _ _ hq
      match X,Y,hxy with
      |[],[],_=>
       simp[aQ]at hq;subst hq;simp at he;subst he;unfold Op.equalIn;rw[run_ok (run_underlying hu w)];simp[vOf];rfl
     ·cases he
   |bool=>
    simp only[Nz]at h;subst h;refine⟨false,by simp[aggT,hu],?_⟩
    match X,Y,vx,vy,hX,hY,he with
    |.bool x::X,.bool y::Y,v::vs,u::us,hX,hY,he=>
     simp only[aQ]at he;have e1:v=.bool x:=hX.1;have e2:u=.bool y:=hY.1;subst e1;subst e2;split at he
     ·rename_i q hq;have hxy:=gT _ _ _ _ hq
      match X,Y,hxy with
      |[],[],_=>
       simp[aQ]at hq;subst hq;simp only[O2,Nz]at he;subst he;unfold Op.equalIn;rw[run_ok (run_underlying hu w)];rfl
     ·cases he
   |string=>
    simp only[Nz]at h;subst h;refine⟨false,by simp[aggT,hu],?_⟩
    match X,Y,vx,vy,hX,hY,he with
    |.str x::X,.str y::Y,v::vs,u::us,hX,hY,he=>
     simp only[aQ]at he;obtain⟨⟨sa,rfl,rfl⟩,_⟩:=hX;obtain⟨⟨sb,rfl,rfl⟩,_⟩:=hY;split at he
     ·rename_i q hq;have hxy:=gT _ _ _ _ hq
      match X,Y,hxy with
      |[],[],_=>
       simp[aQ]at hq;subst hq;simp only[O2,Nz]at he;subst he;unfold Op.equalIn;rw[run_ok (run_underlying hu w)];simp only[vOf,NS,List.headD_cons];show Result.ok _ _=_;congr 1;rw[Qi];show(sa.data==sb.data)=true ↔ _;simp only[N0,P6];exact⟨λe=>by rw[ByteArray.ext e],λe=>O5 (sG e)⟩
     ·cases he
   |struct fs=>
    refine⟨true,by simp[aggT,hu],?_⟩;simp only at h;cases hst:P.stoodInHeld t with
    |true=>rw[hst]at h;cases h
    |false=>
     rw[hst]at h;simp only[NS]at h;have key:∀(fl:List Field) (off:Nat) (ks:List K) (b:Bool),Gm (flat P d) (dw P) off fl=some ks->aQ ks (X.drop off) (Y.drop off)=some b->off<=X.length->off<=Y.length ->
       ∃ bs, b = bs.all id /\ LR (fun (f : Field) b => ((fun (f : Field) (__s : Option Bool × Unit) => if f.name ≠ "_" then do
           let __do_lift <- part f.type vx.toArray f.offset
           let __do_lift_1 <- part f.type vy.toArray f.offset
           let __do_lift <- Op.equalIn m f.type __do_lift __do_lift_1
           if(!__do_lift)=true then pure (ForInStep.done (some false,()))
            else pure (ForInStep.yield (none,()))
          else pure (ForInStep.yield (none,())):Field->Option Bool×Unit->Sem (ForInStep (Option Bool×Unit))) f (none,())).run P w=.ok (if b=true then .yield (none,())else .done (some false,())) w) fl bs:=by
      intro fl
      induction fl with
      |nil=>
       intro off ks b h1 h2 _ _;simp[Gm]at h1;subst h1;have hxy:=gT _ _ _ _ h2
       match X.drop off,Y.drop off,hxy,h2 with
       |[],[],_,h2=>simp[aQ]at h2;subst h2;exact⟨[],rfl,trivial⟩
      |cons f fl ih=>
       intro off ks b h1 h2 hlx hly;simp only [Gm] at h1;cases hn : (Nat.beq f.offset off && !(f.name == "_")) with
       |false=>rw[hn]at h1;cases h1
       |true=>
        rw[hn]at h1;simp only[NH]at h1;simp only[NM,Oz,O6]at hn;obtain⟨ho,hname⟩:=hn;have ho:=NB ho;split at h1
        ·rename_i k1 n1 hk1 hn1;cases hnn:Nat.beq n1 k1.length with
         |false=>rw[hnn]at h1;cases h1
         |true=>
          rw[hnn]at h1;have hnn:=NB hnn;subst hnn;simp only[NH]at h1;split at h1
          ·rename_i l hl;simp only [Option.some.injEq] at h1;subst h1;obtain ⟨b1,b2,q1,q2,rfl,q4,q5⟩:=cL k1 l _ _ _ h2;simp only [List.drop_drop,List.length_drop] at q2 q4 q5;obtain ⟨bs,rfl,hbs⟩:=ih (off+k1.length) l b2 hl q2 (by omega) (by omega);refine ⟨b1::bs,by simp,?_,hbs⟩;have eX:=(hX.drop off).take k1.length;have eY:=(hY.drop off).take k1.length;obtain ⟨g,hg,hrun⟩:=GN d f.type k1 hk1 m (by omega) _ _ _ _ b1 eX eY q1;have lx:=hX.length;have ly:=hY.length;show ((if f.name ≠ "_" then _ else _ : Sem (ForInStep (Option Bool × Unit)))).run P w = _
           rw[NI hname];subst ho;rw[run_ok (lq hn1 hg vx.toArray f.offset (fU d _ _ _ hk1 hg) (by simp;omega))];rw[run_ok (lq hn1 hg vy.toArray f.offset (fU d _ _ _ hk1 hg) (by simp;omega))];rw[run_ok hrun];cases b1<;>rfl
          ·cases h1
        ·cases h1
     obtain⟨bs,rfl,hbs⟩:=key fs.toList 0 ks b h (by simpa using he) (by simp) (by simp);unfold Op.equalIn;rw[run_ok (run_underlying hu w)];simp only[vOf,NH];show((program >>= λp=>_:Sem Bool)).run P w=_;have hprog:(program).run P w=.ok P w:=rfl;rw[run_ok hprog];simp only[hst,Od,OE];rw[<- Q7,run_ok (zu fs.toList bs hbs)];cases hb:bs.all id<;>simp<;>rfl
   |array n e=>
    refine⟨true,by simp[aggT,hu],?_⟩;simp only at h;split at h
    ·rename_i k1 n1 hk1 hn1;cases hnn:Nat.beq n1 k1.length with
     |false=>rw[hnn]at h;cases h
     |true=>
      rw[hnn]at h;have hnn:=NB hnn;subst hnn;simp only[NH,Nz]at h;subst h;have key:∀(q i:Nat) (b:Bool),aQ (List.replicate q k1).flatten (X.drop (i*k1.length)) (Y.drop (i*k1.length))=some b->i*k1.length<=X.length->i*k1.length<=Y.length ->
        ∃bs,b=bs.all id/\LR (λ(i:Nat) b=>((λ(i:Nat) (__s:Option Bool×Unit)=>do
         let __do_lift <- part e vx.toArray (i*k1.length)
         let __do_lift_1 <- part e vy.toArray (i*k1.length)
         let __do_lift <- Op.equalIn m e __do_lift __do_lift_1
         if(!__do_lift)=true then pure (ForInStep.done (some false,()))
          else pure (ForInStep.yield (none,())):Nat->Option Bool×Unit->Sem (ForInStep (Option Bool×Unit))) i (none,())).run P w=.ok (if b=true then .yield (none,())else .done (some false,())) w) (List.range' i q 1) bs:=by
       intro q
       induction q with
       |zero=>
        intro i b h2 _ _;have hxy:=gT _ _ _ _ h2;simp only[List.replicate_zero,List.flatten_nil,NL,OR]at hxy;rw[hxy.1,hxy.2]at h2;simp[aQ]at h2;subst h2;exact⟨[],rfl,trivial⟩
       |succ q ih=>
        intro i b h2 hlx hly;rw[Qq,Pv]at h2;obtain⟨b1,b2,q1,q2,rfl,q4,q5⟩:=cL k1 _ _ _ _ h2;simp only[Qu,OT]at q2 q4 q5;have e1:i*k1.length+k1.length=(i+1)*k1.length:=by rw[Og];omega
        rw[e1]at q2;obtain⟨bs,rfl,hbs⟩:=ih (i+1) b2 q2 (by omega) (by omega);refine⟨b1::bs,by simp,?_⟩;rw[List.range'_succ];refine⟨?_,hbs⟩;have eX:=(hX.drop (i*k1.length)).take k1.length;have eY:=(hY.drop (i*k1.length)).take k1.length;obtain⟨g,hg,hrun⟩:=GN d e k1 hk1 m (by omega) _ _ _ _ b1 eX eY q1;have lx:=hX.length;have ly:=hY.length;show((part e vx.toArray (i*k1.length) >>= λ_=>_:Sem _)).run P w=_;rw[run_ok (lq hn1 hg vx.toArray _ (fU d _ _ _ hk1 hg) (by simp;omega))];rw[run_ok (lq hn1 hg vy.toArray _ (fU d _ _ _ hk1 hg) (by simp;omega))];rw[run_ok hrun];cases b1<;>rfl
      obtain⟨bs,rfl,hbs⟩:=key n 0 b (by simpa using he) (by simp) (by simp);unfold Op.equalIn;rw[run_ok (run_underlying hu w)];simp only[vOf,NH];show((Go.sizeOf e >>= λ_=>_:Sem Bool)).run P w=_;rw[run_ok (bh hn1 w)];rw[Std.Legacy.Range.forIn_eq_forIn_range',run_ok (zu _ bs (by simpa[Std.Legacy.Range.size]using hbs))];cases hb:bs.all id<;>simp<;>rfl
    ·cases h
   |_=>simp at h
end Go.Eng
namespace Go.Eng
open Go.RowKit
theorem sN {k:IntKind}:∀{l:List S} {ns:List Int},uU k l=some ns->l=ns.map (.int k)
 |[],ns,h=>by simp[uU]at h;subst h;rfl
 |.int k' n::r,ns,h=>by
  simp only[uU]at h;by_cases e:k'=k
  ·subst e;simp only[OZ,NH]at h;split at h
   ·rename_i l hl;simp at h;subst h;rw[sN hl];rfl
   ·cases h
  ·simp[e]at h
 |.undef::_,_,h| .bool _::_,_,h| .str _::_,_,h| .err _::_,_,h| .fn _::_,_,h| .nilS::_,_,h| .sl ..::_,_,h| .vw ..::_,_,h| .pv ..::_,_,h| .ptr ..::_,_,h| .mp _::_,_,h| .clo _ _ _::_,_,h| .ipt ..::_,_,h| .mv ..::_,_,h| .io ..::_,_,h=>by simp[uU]at h
theorem pB:∀{l:List S} {ns:List Bool},oV l=some ns->l=ns.map .bool
 |[],ns,h=>by simp[oV]at h;subst h;rfl
 |.bool n::r,ns,h=>by
  simp only[oV]at h;split at h
  ·rename_i l hl;simp at h;subst h;rw[pB hl];rfl
  ·cases h
 |.undef::_,_,h| .int ..::_,_,h| .str _::_,_,h| .err _::_,_,h| .fn _::_,_,h| .nilS::_,_,h| .sl ..::_,_,h| .vw ..::_,_,h| .pv ..::_,_,h| .ptr ..::_,_,h| .mp _::_,_,h| .clo _ _ _::_,_,h| .ipt ..::_,_,h| .mv ..::_,_,h| .io ..::_,_,h=>by simp[oV]at h
theorem tM:∀(l:List Int)(i:Int),0<=i->i<(l.length:Int)->l[i.toNat]?=some (cH i l)
 |[],i,h0,h1=>by simp at h1;omega
 |[n],i,h0,h1=>by
  have:i=0:=by simp at h1;omega
  subst this;rfl
 |n::m::r,i,h0,h1=>by
  simp only[cH];by_cases e:i=0
  ·subst e;rfl
  ·have h2:=tM (m::r) (i-1) (by omega) (by simp at h1 ⊢;omega);obtain⟨j,hj⟩:∃j,i.toNat=j+1:=⟨i.toNat-1,by omega⟩
   rw[hj,show j=(i-1).toNat by omega];simp only[e,PU,NS,PM];exact h2
theorem qt:∀(l:List Bool)(i:Int),0<=i->i<(l.length:Int)->l[i.toNat]?=some (vh i l)
 |[],i,h0,h1=>by simp at h1;omega
 |[n],i,h0,h1=>by
  have:i=0:=by simp at h1;omega
  subst this;rfl
 |n::m::r,i,h0,h1=>by
  simp only[vh];by_cases e:i=0
  ·subst e;rfl
  ·have h2:=qt (m::r) (i-1) (by omega) (by simp at h1 ⊢;omega);obtain⟨j,hj⟩:∃j,i.toNat=j+1:=⟨i.toNat-1,by omega⟩
   rw[hj,show j=(i-1).toNat by omega];simp only[e,PU,NS,PM];exact h2
theorem HF {i:Int}{l:List S}{s:S}(h:selS i l=some s)(h0:0<=i)(h1:i<(l.length:Int)):l[i.toNat]?=some s:=by
 unfold selS at h;split at h
 ·rename_i k n r;split at h
  ·rename_i ns hn;simp only[Nz]at h;subst h;have e:(S.int k n::r)=(n::ns).map (.int k):=by rw[sN hn];rfl
   rw[e,Ot,tM _ i h0 (by rw[e]at h1;simpa using h1)];rfl
  ·cases h
 ·rename_i n r;split at h
  ·rename_i ns hn;simp only[Nz]at h;subst h;have e:(S.bool n::r)=(n::ns).map .bool:=by rw[pB hn];rfl
   rw[e,Ot,qt _ i h0 (by rw[e]at h1;simpa using h1)];rfl
  ·cases h
 ·cases h
theorem Kg {i:Int}{l:List S}{s:S}(h:selS i l=some s):s≠ .undef:=by
 unfold selS at h;split at h
 ·split at h
  ·simp only[Nz]at h;subst h;simp
  ·cases h
 ·split at h
  ·simp only[Nz]at h;subst h;simp
  ·cases h
 ·cases h
theorem Bo {i:Int}:∀(m:Nat)(cols:List (List S))(r:List S),selC i m cols=some r->0<=i->i<(cols.length:Int)->r.length=m/\∀(p:Nat) s,r[p]?=some s->(cols[i.toNat]?).bind (·[p]?)=some s
 |0,cols,r,h,_,_=>by simp[selC]at h;subst h;simp
 |m+1,cols,r,h,h0,h1=>by
  simp only[selC]at h;split at h
  ·rename_i s q hs hq;simp only[Nz]at h;subst h;obtain⟨l1,l2⟩:=Bo m _ q hq h0 (by simpa using h1);refine⟨by simp[l1],λp x hx=>?_⟩;have hlt:i.toNat<cols.length:=by omega
   rw[NT hlt,O3];cases p with
   |zero=>
    simp at hx;subst hx;have:=HF hs h0 (by simpa using h1);rw[Ot,NT hlt]at this;simp only[OS,Nz]at this;have hne:=Kg hs;cases hcol:cols[i.toNat]with
    |nil=>rw[hcol]at this;simp at this;exact(hne this.symm).elim
    |cons a b=>rw[hcol]at this;simp at this;simp[this]
   |succ p=>
    have:=l2 p x (by simpa using hx);rw[Ot,NT hlt]at this;simp only[OS,O3]at this;simpa using this
  ·cases h
theorem uO (sz:Nat):∀(n:Nat)(cs:List S)(i p:Nat),(((pz sz n cs)[i]?).bind (·[p]?))=if i<n/\p<sz then cs[i*sz+p]? else none
 |0,cs,i,p=>by simp[pz]
 |n+1,cs,0,p=>by
  simp only[pz,QO,O3,Ol];by_cases h:p<sz<;>simp[h]
 |n+1,cs,i+1,p=>by
  simp only[pz,PM];rw[uO sz n _ i p];by_cases h:i<n/\p<sz
  ·rw[NI h,NI (by omega),OQ];congr 1;rw[Og];omega
  ·rw[ND h,ND (by omega)]
theorem nG (sz:Nat):∀(n:Nat)(cs:List S),(pz sz n cs).length=n
 |0,_=>rfl
 |n+1,cs=>by simp[pz,nG sz n]
theorem jP:∀(p:List jY)(X cs:List S),getP p X=some cs->j4 p->∀(j:Nat) s,cs[j]?=some s->X[aS p+j]?=some s
 |[],X,cs,h,_,j,s,hs=>by
  simp[getP]at h;subst h;simpa[aS]using hs
 |.fld off::p,X,cs,h,hp,j,s,hs=>by
  simp only[getP]at h;have:=jP p _ cs h (λs hs=>hp s (by simp[hs])) j s hs;rw[OQ]at this;simp only[aS,QS,js]at this ⊢;rw[Pk];exact this
 |.idx n sz i::p,X,cs,h,hp,j,s,hs=>by
  simp only[getP]at h;split at h
  ·rename_i cc hc;have hi:w6 (.idx n sz i):=hp _ (by simp);obtain⟨h0,h1⟩:=hi;obtain⟨q1,q2⟩:=Bo sz _ cc hc h0 (by rw[nG];exact h1);have:=jP p _ cs h (λs hs=>hp s (by simp[hs])) j s hs;have:=q2 _ _ this;rw[uO]at this;split at this
   ·simp only[aS,QS,js]at this ⊢;rw[Pk];exact this
   ·cases this
  ·cases h
theorem LR.sub {c:Cx}{X:List S}{vx:List Value}(h:LR (RepS c) X vx){cs:List S}{o:Nat}(hc:∀(j:Nat) s,cs[j]?=some s->X[o+j]?=some s):
  ∃vs,LR (RepS c) cs vs/\∀(j:Nat) v,vs[j]?=some v->vx[o+j]?=some v:=by
 have hlen:cs≠[]->o+cs.length<=X.length:=by
  intro hne;have hl:0<cs.length:=Py.2 hne;have:=hc (cs.length-1) (cs[cs.length-1]) (by rw[NT]);obtain⟨q,_⟩:=NJ.1 this;omega
 refine⟨(vx.drop o).take cs.length,?_,λj v hv=>?_⟩
 ·have e:cs=(X.drop o).take cs.length:=by
   apply PR;intro j;rw[Ol];by_cases hj:j<cs.length
   ·rw[NI hj,OQ,NT hj];exact(hc j _ (NT hj)).symm
   ·rw[ND hj,Pc (by omega)]
  have:=(h.drop o).take cs.length;rw[<- e]at this;exact this
 ·rw[Ol]at hv;split at hv
  ·rwa [OQ]at hv
  ·cases hv
theorem xx:∀{a b x:List S},mixL true a b=some x->x=a
 |[],[],x,h=>by simp[mixL]at h;exact h
 |a::r,b::s,x,h=>by
  simp only[mixL]at h;split at h
  ·rename_i y z hy hz;simp only[Nz]at h;subst h;rw[xx hz];congr 1;unfold mixS at hy;split at hy
   ·rename_i k n k' m;by_cases e:k=k'<;>simp[e]at hy;rw[<- hy,e]
   ·simp at hy;exact hy.symm
   ·cases hy
  ·cases h
 |[],_::_,_,h=>by simp[mixL]at h
 |_::_,[],_,h=>by simp[mixL]at h
theorem ot:∀{a b x:List S},mixL false a b=some x->x=b
 |[],[],x,h=>by simp[mixL]at h;exact h
 |a::r,b::s,x,h=>by
  simp only[mixL]at h;split at h
  ·rename_i y z hy hz;simp only[Nz]at h;subst h;rw[ot hz];congr 1;unfold mixS at hy;split at hy
   ·rename_i k n k' m;by_cases e:k=k'<;>simp[e]at hy;rw[<- hy]
   ·simp at hy;exact hy.symm
   ·cases hy
  ·cases h
 |[],_::_,_,h=>by simp[mixL]at h
 |_::_,[],_,h=>by simp[mixL]at h
theorem E7:∀(new cs:List S),new.length<=cs.length->over new cs=new++cs.drop new.length
 |[],cs,_=>by simp[over]
 |x::r,[],h=>by simp at h
 |x::r,_::cs,h=>by simp[over,E7 r cs (by simpa using h)]
theorem Et {α:Type}(l:List α)(i j:Nat):l.take (i+j)=l.take i++(l.drop i).take j:=by
 rw[List.take_add]
def Wr (X new X':List S)(o:Nat):Prop:=o+new.length<=X.length/\X'=X.take o++new++X.drop (o+new.length)
theorem Wr.shift {X new r:List S}{off o:Nat}(ho:off<=X.length)(h:Wr (X.drop off) new r o):Wr X new (X.take off++r) (off+o):=by
 obtain⟨h1,h2⟩:=h;simp only[OT]at h1;refine⟨by omega,?_⟩;rw[h2,Qu,Et];simp only[N7,Pk]
theorem Bn {f:List S->Option (List S)}{new:List S}{q:Nat}{i:Int}{sz:Nat}(hf:∀X X',f X=some X'->Wr X new X' q):
  ∀(n:Nat) (j:Int) (X X':List S),EC f i sz n j X=some X'->(i<j->X'=X)/\(j<=i->i<j+n->Wr X new X' ((i-j).toNat*sz+q))
 |0,j,X,X',h=>by
  simp[EC]at h;subst h;exact⟨λ_=>rfl,λh1 h2=>by omega⟩
 |n+1,j,X,X',h=>by
  simp only[EC]at h;cases hb:Nat.ble sz X.length with
  |false=>rw[hb]at h;cases h
  |true=>
  rw[hb]at h;simp only[NH]at h;have hsz:sz<=X.length:=N3 hb;split at h
  ·rename_i cc hc;split at h
   ·rename_i x y hx hy;simp only[Nz]at h;subst h;obtain⟨r1,r2⟩:=Bn hf n (j+1) _ y hy;have hw:=hf _ _ hc;refine⟨λhij=>?_,λh1 h2=>?_⟩
    ·have e:decide (i=j)=false:=by simp;omega
     rw[e]at hx;rw[ot hx,r1 (by omega),Qg]
    ·by_cases e:i=j
     ·subst e;simp only[OZ]at hx;rw[xx hx,r1 (by omega)];simp only[Int.sub_self,Int.toNat_zero,P3,Ox];obtain⟨w1,w2⟩:=hw;simp only[OA]at w1;refine⟨by omega,?_⟩;rw[w2,List.take_take,P0 (by omega),N7,N7,N7];congr 2
      conv=>rhs;rw[<- Qg sz X]
      rw[List.drop_append_of_le_length (by simp;omega)]
     ·have e':decide (i=j)=false:=by simp[e]
      rw[e']at hx;rw[ot hx];obtain⟨w1,w2⟩:=r2 (by omega) (by omega);obtain⟨m,hm⟩:∃m,(i-j).toNat=m+1:=⟨(i-j).toNat-1,by omega⟩
      have hm':(i-(j+1)).toNat=m:=by omega
      rw[hm']at w1 w2;rw[hm];have:=Wr.shift hsz ⟨w1,w2⟩;rw[show(m+1)*sz+q=sz+(m*sz+q) by rw[Og];omega];exact this
   ·cases h
  ·cases h
theorem qs:∀(p:List jY)(new X X':List S),setP p new X=some X'->j4 p->Wr X new X' (aS p)
 |[],new,X,X',h,_=>by
  simp only[setP]at h;cases hb:Nat.ble new.length X.length with
  |false=>rw[hb]at h;cases h
  |true=>
   rw[hb]at h;simp only[NH,Nz]at h;have:=N3 hb;subst h;simp[Wr,aS,E7 new X this,this]
 |.fld off::p,new,X,X',h,hp=>by
  simp only[setP]at h;cases hb:Nat.ble off X.length with
  |false=>rw[hb]at h;cases h
  |true=>
   rw[hb]at h;simp only[NH]at h;split at h
   ·rename_i r hr;simp only[Nz]at h;subst h;exact Wr.shift (N3 hb) (qs p new _ r hr (λs hs=>hp s (by simp[hs])))
   ·cases h
 |.idx n sz i::p,new,X,X',h,hp=>by
  have hi:w6 (.idx n sz i):=hp _ (by simp);obtain⟨h0,h1⟩:=hi;simp only[setP]at h;have:=(Bn (λX X' hx=>qs p new X X' hx (λs hs=>hp s (by simp[hs]))) n 0 X X' h).2 h0 (by omega);simpa[aS,js]using this
end Go.Eng
namespace Go.Eng
open Go.RowKit
theorem bZ {c:Cx}{g:Bool}{cs:List S}{v:Value}(h:RepV c (.val g cs) v):LR (RepS c) cs v.cells.toList:=by
 cases g with
 |true=>obtain⟨arr,rfl,h⟩:=h;exact h
 |false=>obtain⟨s,rfl,h⟩:=h;rw[qM (mN h)];exact⟨h,trivial⟩
theorem qw {P:Program}{c:Cx}{t:TypeId}{cs:List S}{v:AV}{b o:Nat}{vs:List Value}(hv:valT P t cs=some v)(hl:LR (RepS c) cs vs)(ha:At c.w b o vs):
  ∃v',(loadVar t ⟨b,o,none⟩).run P c.w=.ok v' c.w/\RepV c v v':=by
 unfold valT at hv;split at hv
 ·rename_i n hg hn;cases hb:Nat.ble n cs.length with
  |false=>rw[hb]at hv;cases hv
  |true=>
   rw[hb]at hv;simp only[NH,Nz]at hv;subst hv;have hle:=N3 hb;have hlen:=hl.length;refine⟨.agg (vs.take n).toArray,?_,_,rfl,by simpa using hl.take n⟩;unfold loadVar;rw[run_ok (iR hg c.w),NI rfl,run_ok (bh hn c.w)];have hat:At c.w b o (vs.take n):=λj u hj=>by
    rw[Ol]at hj;split at hj
    ·exact ha j u hj
    ·cases hj
   have:=jw (P:=P) hat;rw[OA,P0 (by omega)]at this;rw[run_ok this];rfl
 ·rename_i n hg hn;split at hv
  ·rename_i s r;cases hb:Nat.beq n 1 with
   |false=>rw[hb]at hv;cases hv
   |true=>
    rw[hb]at hv;simp only[NH,Nz]at hv;subst hv
    match vs,hl with
    |u::us,hl=>
     refine⟨u,?_,_,rfl,hl.1⟩;unfold loadVar;rw[run_ok (iR hg c.w),ND (by decide)];exact Br (by simpa using ha 0 u rfl)
  ·cases hv
 ·cases hv
theorem uB {A:Ann}{c:Cx}{w0:World}{M:MS}(hm:Mem w0 M c)(hM:ManR A c){hp:Nat->Option Obj}(hh:∀id o,hp id=some o->c.hp id=some o){s:S}{v:Value}{cs:List S}(hr:RepS c s v)(h:loadAt hp s=some cs):
  ∃b o vs,v=.pointer (some ⟨b,o,none⟩)/\LR (RepS c) cs vs/\At c.w b o vs:=by
 cases s with
 |ptr id g i p=>
  simp only[loadAt]at h;obtain⟨_,o,h1,hpi,h2,h3⟩:=hr;split at h
  ·rename_i bs ho;have e:=hh id _ ho;rw[e]at h1;cases h1;cases hb:(Nat.beq g 0&&Nat.beq i 0 && !bs.isEmpty)with
   |false=>rw[hb]at h;cases h
   |true=>
    rw[hb]at h;simp only[NH]at h;have hget:=jP p _ _ h hpi;have hne:bs≠[]:=by
     rintro rfl;simp at hb
    ·obtain⟨b,hb1,hv,_⟩:=h2 bs rfl hne;obtain⟨b',arr,q1,q2,q3⟩:=hm.obj id _ e hne;rw[hb1]at q1;cases q1;obtain⟨vs,r1,r2⟩:=q3.sub hget;refine⟨b,aS p,vs,hv,r1,dC q2.blk λj u hu=>?_⟩;have:=r2 j u hu;rw[Ol]at this;split at this
     ·simpa using this
     ·cases this
  ·rename_i k xs gen hist frz ho;have e:=hh id _ ho;rw[e]at h1;cases h1;cases hb:Nat.beq g gen with
   |false=>rw[hb]at h;cases h
   |true=>
    rw[hb]at h;simp only[NH]at h;obtain⟨hlt,b,hb1,hv⟩:=(h3 _ _ _ _ _ rfl).2 (NB hb);have hro:=hm.obj id _ e;simp only[RepO,hb1]at hro;obtain⟨⟨arr,q1,q2,q3⟩,_⟩:=hro;have hx:xs[i]?=some (xs.getD i k.dflt):=by
     rw[NT hlt,NP,NT hlt];rfl
    obtain⟨vs0,r1,r2⟩:=q3 i _ hx;have hget:=jP p _ _ h hpi;obtain⟨vs,t1,t2⟩:=((bj k _ vs0).2 r1).sub hget;refine⟨b,_,vs,hv,t1,dC q1 λj u hu=>?_⟩;have:=r2 _ _ (t2 j u hu);rw[Pk];exact this
  ·cases h
 |ipt k x p=>
  simp only[loadAt]at h;obtain⟨hpi,b,o,vs0,hS,hv,ht,ha⟩:=hr;obtain⟨vs,t1,t2⟩:=((bj k x vs0).2 ht).sub (jP p _ _ h hpi);exact⟨b,_,vs,hv,t1,λj u hu=>by rw[Pk];exact ha _ _ (t2 j u hu)⟩
 |rp t i off=>
  simp only[loadAt]at h;obtain⟨b,hi,hv⟩:=hr;split at h
  ·rename_i t' off' m k xs g ho;have e:=hh _ _ ho;cases hb:(Nat.beq t' t&&Nat.beq off' off)with
   |false=>rw[hb]at h;cases h
   |true=>
    rw[hb]at h;simp only[NH]at h;simp only[NM]at hb;have e1:=NB hb.1;have e2:=NB hb.2;subst e1;subst e2;obtain⟨hlt,_,arr,q1,q2,q3⟩:=hM.at e hi;cases m with
    |dat=>
     simp only[Nz]at h;subst h;obtain⟨vs,r1,r2⟩:=hM.dat _ _ _ k xs g none e i _ b arr (getD_some k.dflt hlt) hi q1.blk;refine⟨b,off',vs,hv,(bj k _ vs).2 r1,dC q1.blk λj u hu=>r2 j u hu⟩
    |own=>
     simp only[Nz]at h;subst h;have hc:=hM.cell e (by simp) hi q1.blk;refine⟨b,off',[c.te.cur (aX t' off') i],hv,⟨⟨q2 _ (NX (by rw[NR];exact hc)),_,e,λt2 off2 m2 k2 xs2 g2 p2 e2=>?_⟩,trivial⟩,dC q1.blk λj u hu=>?_⟩
     ·cases e2;exact⟨NG _,λ_=>⟨by rw[hi];rfl,rfl⟩⟩
     ·match j,hu with
      |0,hu=>simp at hu;subst hu;simpa using hc
    |mp=>
     simp only[Nz]at h;subst h;have hc:=hM.cell e (by simp) hi q1.blk;refine⟨b,off',[c.te.cur (aX t' off') i],hv,⟨⟨q2 _ (NX (by rw[NR];exact hc)),_,e,λt2 off2 m2 k2 xs2 g2 p2 e2=>?_⟩,trivial⟩,dC q1.blk λj u hu=>?_⟩
     ·cases e2;exact⟨NG _,λ_=>⟨by rw[hi];rfl,rfl⟩⟩
     ·match j,hu with
      |0,hu=>simp at hu;subst hu;simpa using hc
  ·cases h
 |oe cid g i j p=>
  simp only[loadAt]at h;obtain⟨_,o,h1,hpi,h2⟩:=hr;split at h
  ·rename_i t off e xs g' pd ho;have ec:=hh _ _ ho;rw[ec]at h1;cases h1;cases hb:Nat.beq g g' with
   |false=>rw[hb]at h;cases h
   |true=>
    rw[hb]at h;simp only[NH]at h;obtain⟨hi,hj,b,hb1,hv⟩:=(h2 _ _ _ _ _ _ _ rfl).2 (NB hb);have hlt:=(hM.dom _ _ _ _ _ _ _ _ ec i).2 hi;have hro:=(hM.own _ _ _ e xs g' pd ec i _ (getD_some [] hlt)).1;unfold bR at hro;rw[hb1]at hro;obtain⟨cap,arr,a,q1,q2,q3,q4,q5,q6⟩:=hro;obtain⟨vs0,r1,r2⟩:=q6 j _ (getD_some e.dflt hj);have hget:=jP p _ _ h hpi;obtain⟨vs,t1,t2⟩:=((bj e _ vs0).2 r1).sub hget;refine⟨b,_,vs,hv,t1,dC q4.blk λj' u hu=>?_⟩;have:=r2 _ _ (t2 j' u hu);rw[Pk];exact this
  ·cases h
 |_=>simp[loadAt]at h
section
variable {P:Program} {A:Ann} {fid:Nat} {w0:World} {M:MS} {c:Cx} {ρ:Operand->AV} {r:Operand->Value} {hp:Nat->Option Obj} {o:Oper} {v:AV} {u:Upd}
theorem D2 (hm:Mem w0 M c)(hte:c.te.te=A.te)(hr:∀x,RepV c (ρ x) (r x))(hcv:∀v,r (.const v)=v){op:BinOp}{t ty:TypeId}{x y:Operand}(ho:o.op=.binOp op t x y ty)(h:core P A fid ρ hp o=.ok true v u):
  aU w0 M c ((execOp r o).run P c.w) v u:=by
 simp only[core,ho]at h;have hnc:∀z,bw z=true->(∃v,z=.const v)/\(r z=.nilIface\/r z=.nilFunc):=by
  intro z hz;unfold bw at hz;split at hz
  ·exact⟨⟨_,rfl⟩,.inl (hcv _)⟩
  ·exact⟨⟨_,rfl⟩,.inr (hcv _)⟩
  ·cases hz
 have hx:=hr x;have hy:=hr y;split at h
 ·rename_i a b ea eb;rw[ea]at hx;rw[eb]at hy;cases hcc:(bw y || bw x)with
  |true=>
   rw[hcc]at h;have:=Ha (P:=P) hm (aT hx) (aT hy) (hnc x) (hnc y) h;simpa only[execOp,ho]using this
  |false=>
   rw[hcc]at h;simp only[NS]at h;rw[<- hte]at h;have:=GL (P:=P) (xo:=x) (yo:=y) hm (aT hx) (aT hy) h;simpa only[execOp,ho]using this
 ·rename_i a b _ ea eb;rw[ea]at hx;rw[eb]at hy;have:=Ha (P:=P) hm (aT hx) (aT hy) (hnc x) (hnc y) h;simpa only[execOp,ho]using this
 ·rename_i a b ea eb;rw[ea]at hx;rw[eb]at hy;obtain⟨ax,ex,lx⟩:=hx;obtain⟨ay,ey,ly⟩:=hy;unfold binA at h;cases hg:P.eqGuardType P.depth t with
  |true=>rw[hg]at h;cases h
  |false=>
   rw[hg]at h;simp only[NS]at h;split at h
   ·rename_i ks hks hat;split at h
    ·rename_i q hq;obtain⟨g,hgg,hrun⟩:=GN (P:=P) (c:=c) (w:=c.w) 8 t ks hks Op.maxDepth (by decide) a b _ _ q lx ly hq;have hgt:g=true:=by rw[hat]at hgg;simpa using hgg.symm
     subst hgt;have hgd:(eqGuard op t x y (.agg ax) (.agg ay)).run P c.w=.ok () c.w:=by
      cases op<;>first|rfl|(
       simp only[eqGuard];show((program >>= λp=>_:Sem Unit)).run P c.w=_;rw[run_ok (show(program).run P c.w=.ok P c.w from rfl)];rw[run_ok (show(program).run P c.w=.ok P c.w from rfl)];rw[hg];rfl)
     have hrun':(Op.equal t (.agg ax) (.agg ay)).run P c.w=.ok q c.w:=hrun;simp only[execOp,ho];rw[ex,ey];cases op<;>simp only[okv,Out.ok.injEq,Oh,reduceCtorEq]at h
     ·obtain⟨rfl,rfl⟩:=h;exact .quiet hm (ct hgd (v:=.bool q) (by simp only[binOp];rw[run_ok hrun'];rfl)) (aB rfl)
     ·obtain⟨rfl,rfl⟩:=h;exact .quiet hm (ct hgd (v:=.bool (!q)) (by simp only[binOp];rw[run_ok hrun'];rfl)) (aB rfl)
    ·cases h
   ·cases h
 ·cases h
theorem G0 (hm:Mem w0 M c)(hr:∀x,RepV c (ρ x) (r x)){op:UnOp}{t:TypeId}{x:Operand}(ho:o.op=.unOp op t x)(h:core P A fid ρ hp o=.ok true v u):
  aU w0 M c ((execOp r o).run P c.w) v u:=by
 simp only[core,ho]at h;simp only[execOp,ho];split at h
 ·rename_i k n hs;obtain⟨e,h1⟩:=aF hr hs;simp only[okv,Out.ok.injEq,Oh]at h;obtain⟨rfl,rfl⟩:=h;rw[e];exact .quiet hm (aM (v:=.int k (k.wrap (0-n))) rfl) (aB ⟨rfl,lz _ _⟩)
 ·rename_i k n hs;obtain⟨e,h1⟩:=aF hr hs;simp only[okv,Out.ok.injEq,Oh]at h;obtain⟨rfl,rfl⟩:=h;rw[e];refine .quiet hm (aM (v:=.int k (b7 k .xor (bif k.signed then -1 else k.max) n)) ?_) (aB ⟨rfl,lz _ _⟩);cases k<;>rfl
 ·rename_i b hs;have e:=aF hr hs;simp only[RepS]at e;simp only[okv,Out.ok.injEq,Oh]at h;obtain⟨rfl,rfl⟩:=h;rw[e];exact .quiet hm (aM (v:=.bool (!b)) rfl) (aB rfl)
 ·cases h
theorem nD (hm:Mem w0 M c)(hte:c.te.te=A.te)(hr:∀x,RepV c (ρ x) (r x)){t:TypeId}{x:Operand}(ho:o.op=.makeInterface t x)(h:core P A fid ρ hp o=.ok true v u):
  aU w0 M c ((execOp r o).run P c.w) v u:=by
 simp only[core,ho]at h;simp only[execOp,ho];split at h
 ·rename_i n k hs hu;obtain⟨e,h1⟩:=aF hr hs;cases hb:Nat.beq t A.te with
  |false=>rw[hb]at h;cases h
  |true=>
   rw[hb]at h;simp only[NH,okv,Out.ok.injEq,Oh]at h;obtain⟨rfl,rfl⟩:=h;have ht:=NB hb;refine .quiet hm (aM (v:=.iface t (.int .i64 n)) ?_) (aB (by simp only[RepS,errV,hte,ht]));rw[e];unfold Instr.makeInterface;rw[run_ok (run_underlying hu c.w)];rfl
 ·cases h
theorem yS (hm:Mem w0 M c)(hr:∀x,RepV c (ρ x) (r x)){t:Operand}{ix:Nat}(ho:o.op=.extract t ix)(h:core P A fid ρ hp o=.ok true v u):
  aU w0 M c ((execOp r o).run P c.w) v u:=by
 simp only[core,ho]at h;simp only[execOp,ho];have ht:=hr t;split at h
 ·rename_i vs et;rw[et]at ht;split at h
  ·rename_i g cs hg;simp only[Out.ok.injEq,Oh]at h;obtain⟨rfl,rfl⟩:=h;obtain⟨arr,e,hl⟩:=ht;obtain⟨b,hb,hq⟩:=hl.get ix _ hg;rw[e];refine .quiet hm (aM (v:=b) ?_) ?_
   ·unfold Instr.extract;simp only[];rw[<- NR,hb];rfl
   ·cases g with
    |true=>simp only[O8]at hq;obtain⟨a,rfl,hh⟩:=hq;exact⟨a,rfl,hh⟩
    |false=>simp only[Od,OE]at hq;exact hq
  ·cases h
 ·cases h
theorem G2 (hm:Mem w0 M c)(hM:ManR A c)(hh:∀id o,hp id=some o->c.hp id=some o)(hr:∀x,RepV c (ρ x) (r x)){t:TypeId}{a:Operand}(ho:o.op=.load t a)(h:core P A fid ρ hp o=.ok true v u):
  aU w0 M c ((execOp r o).run P c.w) v u:=by
 simp only[core,ho]at h;simp only[execOp,ho];split at h
 ·rename_i s hs;split at h
  ·rename_i cs hc;split at h
   ·rename_i v' hv;simp only[Out.ok.injEq,Oh]at h;obtain⟨rfl,rfl⟩:=h;obtain⟨b,off,vs,e,hl,hat⟩:=uB hm hM hh (aF hr hs) hc;obtain⟨x,hx,hrx⟩:=qw (P:=P) hv hl hat;refine .quiet hm (aM (v:=x) ?_) hrx;rw[e];unfold Instr.loadAt;rw[run_ok (show(Instr.sureAddr (.pointer (some ⟨b,off,none⟩))).run P c.w=.ok ⟨b,off,none⟩ c.w from rfl)];exact hx
   ·cases h
  ·cases h
 ·cases h
theorem D0 (hm:Mem w0 M c)(hr:∀x,RepV c (ρ x) (r x)){t:TypeId}{x:Operand}{f:Nat}(ho:o.op=.field t x f)(h:core P A fid ρ hp o=.ok true v u):
  aU w0 M c ((execOp r o).run P c.w) v u:=by
 simp only[core,ho]at h;simp only[execOp,ho];have hx:=hr x;split at h
 ·rename_i fs cs hu ex;rw[ex]at hx;obtain⟨arr,e,hl⟩:=hx;split at h
  ·rename_i fl hf;split at h
   ·rename_i v' hv;simp only[Out.ok.injEq,Oh]at h;obtain⟨rfl,rfl⟩:=h;rw[e];have hlen:=hl.length;have main:∃q,(part fl.type arr fl.offset).run P c.w=.ok q c.w/\RepV c v' q:=by
     have hd:=hl.drop fl.offset;unfold valT at hv;split at hv
     ·rename_i n hg hn;cases hb:Nat.ble n (cs.drop fl.offset).length with
      |false=>rw[hb]at hv;cases hv
      |true=>
       rw[hb]at hv;simp only[NH,Nz]at hv;subst hv;have hle:=N3 hb;simp only[OT]at hle;rcases P2 n with hn0|hn0
       ·subst hn0;refine⟨.agg (arr.extract fl.offset (fl.offset+0)),?_,_,rfl,by simp[LR]⟩;unfold part;rw[run_ok (iR hg c.w),NI rfl,run_ok (bh hn c.w)];rfl
       ·refine⟨_,lq hn hg arr fl.offset (by simp) (by simp at hlen;omega),_,rfl,?_⟩;simpa using hd.take n
     ·rename_i n hg hn;split at hv
      ·rename_i s q hcs;cases hb:Nat.beq n 1 with
       |false=>rw[hb]at hv;cases hv
       |true=>
        rw[hb]at hv;simp only[NH,Nz]at hv;subst hv;have hn1:=NB hb;subst hn1;have hlt:fl.offset<cs.length:=by
         rcases Oy fl.offset cs.length with q|q
         ·exact q
         ·rw[List.drop_eq_nil_of_le q]at hcs;cases hcs
        refine⟨_,lq hn hg arr fl.offset (by simp) (by simp at hlen;omega),?_⟩;rw[hcs]at hd
        match hq:arr.toList.drop fl.offset,hd with
        |y::ys,hd=>exact⟨_,rfl,by simpa[vOf,hq]using hd.1⟩
      ·cases hv
     ·cases hv
    obtain⟨q,q1,q2⟩:=main;refine .quiet hm (aM (v:=q) ?_) q2;unfold Instr.field;rw[run_ok (run_underlying hu c.w)];simp only[hf];rw[run_ok (show(asAgg (.agg arr)).run P c.w=.ok arr c.w from rfl)];exact q1
   ·cases h
  ·cases h
 ·cases h
end
end Go.Eng
namespace Go.Eng
open Go.RowKit
theorem run_pb {α β:Type}{P:Program}{a:α}{f:α->Sem β}{w:World}:((pure a:Sem α) >>= f).run P w=(f a).run P w:=rfl
theorem EH {P:Program}{c:Cx}{t:TypeId}{cs:List S}{v:AV}{arr:Array Value}{off:Nat}{vs:List Value}(hv:valT P t cs=some v)(hl:LR (RepS c) cs vs)(ha:∀(j:Nat) v,vs[j]?=some v->arr[off+j]?=some v):
  ∃v',(part t arr off).run P c.w=.ok v' c.w/\RepV c v v':=by
 unfold valT at hv;split at hv
 ·rename_i n hg hn;cases hb:Nat.ble n cs.length with
  |false=>rw[hb]at hv;cases hv
  |true=>
   rw[hb]at hv;simp only[NH,Nz]at hv;subst hv;have hle:=N3 hb;have hlen:=hl.length;refine⟨.agg (arr.extract off (off+n)),?_,_,rfl,?_⟩
   ·unfold part;rw[run_ok (iR hg c.w),NI rfl,run_ok (bh hn c.w)];rfl
   ·have e:(arr.extract off (off+n)).toList=vs.take n:=by
     apply PR;intro j;rw[NR,Array.getElem?_extract,Ol];by_cases hj:j<n
     ·rw[NI hj];have h1:j<vs.length:=by omega
      have:=ha j vs[j] (NT h1);rw[NT h1];have hb2:off+j<arr.size:=by
       rcases Oy (off+j) arr.size with q|q
       ·exact q
       ·rw[Ow q]at this;cases this
      rw[NI (by omega)];exact this
     ·rw[ND hj,ND (by omega)]
    rw[e];exact hl.take n
 ·rename_i n hg hn;split at hv
  ·rename_i s q;cases hb:Nat.beq n 1 with
   |false=>rw[hb]at hv;cases hv
   |true=>
    rw[hb]at hv;simp only[NH,Nz]at hv;subst hv
    match vs,hl with
    |u::us,hl=>
     refine⟨u,?_,_,rfl,hl.1⟩;unfold part;rw[run_ok (iR hg c.w),ND (by decide)];have:=ha 0 u rfl;simp only[Pz]at this;rw[this];rfl
  ·cases hv
 ·cases hv
theorem mb {i:Int}{n:Nat}:inb i n=true ↔ 0<=i/\i<(n:Int):=by simp[inb]
theorem sH (s:ByteArray)(i:Nat):(bytesOf s)[i]?=(s.data.toList[i]?).map (λc=>(c.toNat:Int)):=by simp[bytesOf]
theorem fe (p:List jY)(s:jY):aS (p++[s])=aS p+js s:=by
 induction p with
 |nil=>simp[aS]
 |cons a r ih=>simp only[aS,N4,QS]at ih ⊢;rw[ih];omega
theorem fJ {p:List jY}{s:jY}(h:j4 p)(hs:w6 s):j4 (p++[s]):=by
 intro x hx;rcases NU.1 hx with hx|hx
 ·exact h x hx
 ·simp at hx;subst hx;exact hs
theorem hU {c:Cx}{hp:Nat->Option Obj}(hh:∀id o,hp id=some o->c.hp id=some o){s s':S}{st:jY}{v:Value}(hr:RepS c s v)(hk:qF hp s=true)(ha:jX st s=some s')(hs:w6 st):
  ∃b o,v=.pointer (some ⟨b,o,none⟩)/\RepS c s' (.pointer (some ⟨b,o+js st,none⟩)):=by
 cases s with
 |ptr id g i p=>
  simp only[jX,Nz]at ha;subst ha;obtain⟨_,o,h1,hpi,h2,h3⟩:=hr;simp only[qF]at hk;split at hk
  ·rename_i bs ho;have e:=hh id _ ho;rw[e]at h1;cases h1;simp only[NM,Oz,List.isEmpty_eq_false_iff]at hk;obtain⟨⟨hg,hi⟩,hne⟩:=hk;obtain⟨b,hb,rfl,hg0,hi0⟩:=h2 bs rfl hne;refine⟨b,aS p,rfl,rfl,_,e,fJ hpi hs,λcs' e' hne'=>?_,λk xs gen hist frz e'=>by cases e'⟩;exact⟨b,hb,by rw[fe],hg0,hi0⟩
  ·rename_i k xs gen hist frz ho;have e:=hh id _ ho;rw[e]at h1;cases h1;obtain⟨hle,hx⟩:=h3 _ _ _ _ _ rfl;obtain⟨hlt,b,hb,rfl⟩:=hx (NB hk);refine⟨b,_,rfl,rfl,_,e,fJ hpi hs,λcs' e'=>by(cases e'),λk' xs' gen' hist' frz' e'=>?_⟩;cases e';exact⟨hle,λ_=>⟨hlt,b,hb,by rw[fe,Pk]⟩⟩
  ·cases hk
 |ipt k x p=>
  simp only[jX,Nz]at ha;subst ha;obtain⟨hpi,b,o,vs,h1,rfl,h3,h4⟩:=hr;exact⟨b,_,rfl,fJ hpi hs,b,o,vs,h1,by rw[fe,Pk],h3,h4⟩
 |rb t i=>
  cases st with
  |fld off=>
   simp only[jX,Nz]at ha;subst ha;obtain⟨b,h1,rfl⟩:=hr;exact⟨b,0,rfl,b,h1,by simp[js]⟩
  |idx=>simp[jX]at ha
 |oe cid g i j p=>
  simp only[jX,Nz]at ha;subst ha;obtain⟨_,o,h1,hpi,h2⟩:=hr;simp only[qF]at hk;split at hk
  ·rename_i t off m e xs g' q ho;have ec:=hh cid _ ho;rw[ec]at h1;cases h1;obtain⟨hle,hx⟩:=h2 _ _ _ _ _ _ _ rfl;obtain⟨q1,q2,b,hb,rfl⟩:=hx (NB hk);refine⟨b,_,rfl,rfl,_,ec,fJ hpi hs,λt2 off2 m2 e2 xs2 g2 q3 e'=>?_⟩;cases e';exact⟨hle,λ_=>⟨q1,q2,b,hb,by rw[fe,Pk]⟩⟩
  ·cases hk
 |_=>simp[jX]at ha
theorem E2 {c:Cx}{hp:Nat->Option Obj}(hh:∀id o,hp id=some o->c.hp id=some o){s:S}{v:Value}(hr:RepS c s v)(hk:qF hp s=true):∃b o,v=.pointer (some ⟨b,o,none⟩):=by
 cases s with
 |ptr id g i p=>
  obtain⟨b,o,e,_⟩:=hU (st:=.fld 0) hh hr hk rfl trivial;exact⟨b,o,e⟩
 |ipt k x p=>
  obtain⟨b,o,e,_⟩:=hU (st:=.fld 0) hh hr hk rfl trivial;exact⟨b,o,e⟩
 |rb t i=>obtain⟨b,_,e⟩:=hr;exact⟨b,0,e⟩
 |rp t i off=>obtain⟨b,_,e⟩:=hr;exact⟨b,off,e⟩
 |oe cid g i j p=>
  obtain⟨b,o,e,_⟩:=hU (st:=.fld 0) hh hr hk rfl trivial;exact⟨b,o,e⟩
 |_=>simp[qF]at hk
theorem ve {te:TE}{w:World}{Sb:Nat->Prop}{k:K}{xs:List k.T}{a:Option Addr}{cap:Nat}(h:RepT te w Sb (.slice k) xs [.slice a xs.length cap]){l hi:Nat}(h1:l<=hi)(h2:hi<=xs.length):
  RepT te w Sb (.slice k) ((xs.drop l).take (hi-l)) [.slice (if cap=l then a else a.map (·.add (l*k.size))) (hi-l) (cap-l)]:=by
 obtain⟨a',cap',e,hc,hx⟩:=h;cases e;have hlen:((xs.drop l).take (hi-l)).length=hi-l:=by simp;omega
 refine⟨_,_,by rw[hlen],by rw[hlen];omega,λhne=>?_⟩;have hlt:l<hi:=by
  rcases Oy l hi with q|q
  ·exact q
  ·rw[show hi-l=0 by omega]at hne;simp at hne
 obtain⟨ad,rfl,q2,q3,q4⟩:=hx (by rintro rfl;simp at h2;omega);rw[ND (by omega)];have ea:ad.add (l*k.size)=⟨ad.block,ad.off+l*k.size,none⟩:=by
  obtain⟨b,o,sp⟩:=ad;simp at q2;subst q2;exact lX b o _
 refine⟨⟨ad.block,ad.off+l*k.size,none⟩,by simp[ea],rfl,q3,λi x hix=>?_⟩;rw[Ol]at hix;split at hix
 ·rw[OQ]at hix;obtain⟨vs,r1,r2⟩:=q4 (l+i) x hix;refine⟨vs,r1,?_⟩;rw[Og]at r2;rw[Pk];exact r2
 ·cases hix
section
variable {P:Program} {A:Ann} {fid:Nat} {w0:World} {M:MS} {c:Cx} {ρ:Operand->AV} {r:Operand->Value} {hp:Nat->Option Obj} {o:Oper} {v:AV} {u:Upd}
theorem pq {fs:Array Field}{f off sz:Nat}(h:fieldAt P fs f=some (off,sz)):∃fl,fs[f]?=some fl/\dw P fl.type=some sz/\fl.offset=off:=by
 unfold fieldAt at h;split at h
 ·rename_i fl hf;split at h
  ·rename_i s hs;simp only[Nz,Ov]at h;exact⟨fl,hf,by rw[hs,h.2],h.1⟩
  ·cases h
 ·cases h
theorem wH (hm:Mem w0 M c)(hh:∀id o,hp id=some o->c.hp id=some o)(hr:∀x,RepV c (ρ x) (r x)){x:Operand}(ho:o.op=.nilCheck x)(h:core P A fid ρ hp o=.ok true v u):
  aU w0 M c ((execOp r o).run P c.w) v u:=by
 simp only[core,ho]at h;simp only[execOp,ho];split at h
 ·rename_i t q hs;simp only[Out.ok.injEq]at h;obtain⟨hq,rfl,rfl⟩:=h;have hra:=aF hr hs;cases q with
  |none=>cases hq
  |some i=>
   obtain⟨b,h1,e⟩:=hra;refine .quiet hm (v':=.pointer (some ⟨b,0,none⟩)) ?_ (aB ⟨b,h1,rfl⟩);rw[e];rfl
 ·rename_i a _ hs;cases hb:qF hp a with
  |false=>rw[hb]at h;cases h
  |true=>
   rw[hb]at h;simp only[NH,okv,Out.ok.injEq,Oh]at h;obtain⟨rfl,rfl⟩:=h;have hra:=aF hr hs;obtain⟨bb,oo,e⟩:=E2 hh hra hb;refine .quiet hm ?_ (aB hra);rw[e];rfl
 ·cases h
theorem tE (hm:Mem w0 M c)(hh:∀id o,hp id=some o->c.hp id=some o)(hr:∀x,RepV c (ρ x) (r x)){t:TypeId}{x:Operand}{f:Nat}(ho:o.op=.fieldAddr t x f)(h:core P A fid ρ hp o=.ok true v u):
  aU w0 M c ((execOp r o).run P c.w) v u:=by
 simp only[core,ho]at h;simp only[execOp,ho];split at h
 ·rename_i fs hu;split at h
  ·rename_i off sz a hf hs;cases hb:(Nat.beq sz 0 || !qF hp a)with
   |true=>rw[hb]at h;cases h
   |false=>
    rw[hb]at h;simp only[NS]at h;simp only[Ph,Q8]at hb;split at h
    ·rename_i b ha;simp only[okv,Out.ok.injEq,Oh]at h;obtain⟨rfl,rfl⟩:=h;obtain⟨fl,q1,q2,q3⟩:=pq hf;obtain⟨bb,oo,e,hb2⟩:=hU hh (aF hr hs) hb.2 ha trivial;rw[e];refine .quiet hm (aM (v:=.pointer (some ⟨bb,oo+off,none⟩)) ?_) (aB hb2);unfold Instr.fieldAt;rw[run_ok (run_underlying hu c.w)];simp only[q1];rw[run_ok (show(Instr.sureAddr (.pointer (some ⟨bb,oo,none⟩))).run P c.w=.ok ⟨bb,oo,none⟩ c.w from rfl)];have hsz:sz≠0:=by rintro rfl;simp at hb
     have:(fieldPlace ⟨bb,oo,none⟩ fl).run P c.w=.ok ⟨bb,oo+off,none⟩ c.w:=by
      unfold fieldPlace;rw[run_ok (bh q2 c.w),ND hsz,q3,lX];rfl
     rw[run_ok this];rfl
    ·cases h
  ·cases h
 ·cases h
theorem tD (hm:Mem w0 M c)(hM:ManR A c)(hh:∀id o,hp id=some o->c.hp id=some o)(hr:∀x,RepV c (ρ x) (r x)){t:TypeId}{x ix:Operand}(ho:o.op=.indexAddr t x ix)(h:core P A fid ρ hp o=.ok true v u):
  aU w0 M c ((execOp r o).run P c.w) v u:=by
 simp only[core,ho]at h;simp only[execOp,ho];split at h
 ·rename_i n e a ki i hu hs hi;obtain⟨ei,_⟩:=aF hr hi;split at h
  ·rename_i sz hsz;cases hb:qF hp a with
   |false=>rw[hb]at h;cases h
   |true=>
    rw[hb]at h;simp only[Pw,NS]at h;split at h
    ·rename_i b ha;simp only[Out.ok.injEq]at h;obtain⟨hin,rfl,rfl⟩:=h;have hin:=mb.1 hin;obtain⟨bb,oo,e1,hb2⟩:=hU hh (aF hr hs) hb ha hin;rw[e1,ei];refine .quiet hm (aM (v:=.pointer (some ⟨bb,oo+i.toNat*sz,none⟩)) ?_) (aB hb2);unfold Instr.indexAt;rw[run_ok (show(asIntOf (.int ki i)).run P c.w=.ok (ki,i) c.w from rfl)];simp only[];rw[run_ok (run_underlying hu c.w)];simp only[];rw[run_ok (show(Instr.sureAddr (.pointer (some ⟨bb,oo,none⟩))).run P c.w=.ok ⟨bb,oo,none⟩ c.w from rfl),run_pb,run_ok (run_underlying hu c.w)];simp only[];rw[NI hin,run_ok (bh hsz c.w),lX];rfl
    ·cases h
  ·cases h
 ·rename_i e s ki i hu hs hi;obtain⟨ei,_⟩:=aF hr hi;have hrs:=aF hr hs
  -- the slice's own form
  have fin:∀(a:Addr) (len cap sz:Nat) (sv:S),r x=.slice (some a) len cap->a.spot=none->dw P e=some sz->0<=i/\i<(len:Int)->RepS c sv (.pointer (some ⟨a.block,a.off+i.toNat*sz,none⟩)) ->
    aU w0 M c ((do pure (Next.value (<- Instr.indexAt t (r x) (r ix))):Sem Next).run P c.w) (.val false [sv]) []:=by
   intro a len cap sz sv hx hsp hsz hin hrep;refine .quiet hm (aM (v:=.pointer (some ⟨a.block,a.off+i.toNat*sz,none⟩)) ?_) (aB hrep);rw[hx,ei];unfold Instr.indexAt;rw[run_ok (show(asIntOf (.int ki i)).run P c.w=.ok (ki,i) c.w from rfl)];simp only[];rw[run_ok (run_underlying hu c.w)];simp only[];rw[run_pb,run_ok (run_underlying hu c.w)];simp only[];rw[NI hin,run_ok (bh hsz c.w)];obtain⟨b,o,sp⟩:=a;simp at hsp;subst hsp;rw[lX];rfl
  split at h
  ·rename_i sz hsz;split at h
   ·rename_i id g;split at h
    ·rename_i k xs gen hist frz hid;cases hb:(Nat.beq g gen&&Nat.beq sz k.size)with
     |false=>rw[hb]at h;cases h
     |true=>
      rw[hb]at h;simp only[NH,Out.ok.injEq]at h;obtain⟨hin,rfl,rfl⟩:=h;have hin:=mb.1 hin;simp only[NM]at hb;have hg:=NB hb.1;have hk:=NB hb.2;obtain⟨_,ob,h1,h2⟩:=hrs;have e1:=hh id _ hid;rw[e1]at h1;cases h1;have hvn:=(h2 _ _ _ _ _ rfl).2.1 hg;simp only[cz]at hvn;cases hbb:c.β id with
      |none=>rw[hbb]at hvn;omega
      |some b=>
       rw[hbb]at hvn;obtain⟨cap,arr,a,q1,q2,q3,q4,q5⟩:=hvn;obtain⟨rfl,q6⟩:=q5 (by omega);refine fin _ _ _ sz _ q1 rfl hsz hin ⟨rfl,_,e1,by simp[j4],λcs e'=>by(cases e'),λk' xs' gen' hist' frz' e'=>?_⟩;cases e';refine⟨by omega,λ_=>⟨by omega,b,hbb,?_⟩⟩;simp[aS,hk]
    ·cases h
   ·rename_i id g off len;split at h
    ·rename_i k xs gen hist frz hid;cases hb:(Nat.beq g gen&&Nat.beq sz k.size)with
     |false=>rw[hb]at h;cases h
     |true=>
      rw[hb]at h;simp only[NH,Out.ok.injEq]at h;obtain⟨hin,rfl,rfl⟩:=h;have hin:=mb.1 hin;simp only[NM]at hb;have hg:=NB hb.1;have hk:=NB hb.2;obtain⟨_,ob,h1,h2⟩:=hrs;have e1:=hh id _ hid;rw[e1]at h1;cases h1;have hvn:=(h2 _ _ _ _ _ rfl).2 hg;simp only[cz]at hvn;cases hbb:c.β id with
      |none=>rw[hbb]at hvn;omega
      |some b=>
       rw[hbb]at hvn;obtain⟨cap,arr,a,q1,q2,q3,q4,q5⟩:=hvn;obtain⟨rfl,q6⟩:=q5 (by omega);refine fin _ _ _ sz _ q1 rfl hsz hin ⟨rfl,_,e1,by simp[j4],λcs e'=>by(cases e'),λk' xs' gen' hist' frz' e'=>?_⟩;cases e';refine⟨by omega,λ_=>⟨by omega,b,hbb,?_⟩⟩;simp[aS,hk,Og,Q9]
    ·cases h
   ·rename_i k xs;cases hb:Nat.beq sz k.size with
    |false=>rw[hb]at h;cases h
    |true=>
     rw[hb]at h;simp only[NH,Out.ok.injEq]at h;obtain⟨hin,rfl,rfl⟩:=h;have hin:=mb.1 hin;have hk:=NB hb;obtain⟨a,cap,q1,q2,q3⟩:=hrs;have hlt:i.toNat<xs.length:=by omega
     obtain⟨ad,rfl,q4,q5,q6⟩:=q3 (by rintro rfl;simp at hlt);have hx:xs[i.toNat]?=some (xs.getD i.toNat k.dflt):=by
      rw[NT hlt,NP,NT hlt];rfl
     obtain⟨vs,t1,t2⟩:=q6 _ _ hx;refine fin ad _ _ sz _ (by simpa using q1) q4 hsz hin ⟨by simp[j4],ad.block,ad.off+i.toNat*k.size,vs,q5,by simp[aS,hk],t1,t2⟩
   ·rename_i cid g j;split at h
    ·rename_i t off k xs g' pd hid;cases hb:(Nat.beq g g'&&Nat.beq sz k.size)with
     |false=>rw[hb]at h;cases h
     |true=>
      rw[hb]at h;simp only[NH,Out.ok.injEq]at h;obtain⟨hin,rfl,rfl⟩:=h;have hin:=mb.1 hin;simp only[NM]at hb;have hg:=NB hb.1;have hk:=NB hb.2;obtain⟨_,ob,h1,h2⟩:=hrs;have e1:=hh cid _ hid;rw[e1]at h1;cases h1;obtain⟨hle,hx⟩:=h2 _ _ _ _ _ _ _ rfl;obtain⟨hi1,hcur⟩:=hx hg;have hlt:=(hM.dom _ _ _ _ _ _ _ _ e1 j).2 hi1;have hro:=(hM.own _ _ _ k xs g' pd e1 j _ (getD_some [] hlt)).1;unfold bR at hro;cases hbb:c.te.ow cid j with
      |none=>
       rw[hbb]at hro;rw[hro.2]at hin;simp at hin;omega
      |some b=>
       rw[hbb]at hro;obtain⟨cap,arr,a,q1,q2,q3,q4,q5,q6⟩:=hro;obtain⟨rfl,q7⟩:=q3 (by omega);refine fin _ _ _ sz _ (by rw[hcur];exact q1) rfl hsz hin ⟨rfl,_,e1,by simp[j4],λt2 off2 m2 e2 xs2 g2 p2 e'=>?_⟩;cases e';refine⟨hle,λ_=>⟨hi1,by omega,b,hbb,?_⟩⟩;simp[aS,hk]
    ·cases h
   ·cases h
  ·cases h
 ·cases h
end
end Go.Eng
namespace Go.Eng
open Go.RowKit
theorem iI {P:Program}{w:World}{k:IntKind}{i:Int}{y:Nat}{code:BoundsCode}(h0:0<=i)(h1:i<=(y:Int)):(Instr.sliceBound (.int k i) y code).run P w=.ok i.toNat w:=by
 unfold Instr.sliceBound;rw[run_ok (show(asIntOf (.int k i)).run P w=.ok (k,i) w from rfl)];simp only[];rw[NI ⟨h0,h1⟩];rfl
theorem oB {c:Cx}{ρ:Operand->AV}{r:Operand->Value}(hr:∀x,RepV c (ρ x) (r x)){d l:Int}{x:Option Operand}(h:bU ρ d x=some l):(x=none/\l=d)\/∃y k,x=some y/\r y=.int k l:=by
 cases x with
 |none=>simp[bU]at h;exact .inl ⟨rfl,h.symm⟩
 |some y=>
  simp only[bU]at h;split at h
  ·rename_i k n hs;simp only[Nz]at h;subst h;exact .inr ⟨y,k,rfl,(aF hr hs).1⟩
  ·cases h
theorem kh {P:Program}{c:Cx}{ρ:Operand->AV}{r:Operand->Value}(hr:∀x,RepV c (ρ x) (r x)){isS:Bool}{len cap:Nat}{l h:Int}{lo hi:Option Operand}(e1:bU ρ 0 lo=some l)(e2:bU ρ len hi=some h)
  (h0:0<=l) (h1:l<=h) (h2:h<=(len:Int)) (h3:len<=cap):(Instr.sliceBounds isS len cap (lo.map r) (hi.map r) none).run P c.w=.ok (l.toNat,h.toNat,cap) c.w:=by
 unfold Instr.sliceBounds;rw[run_pb];rcases oB hr e2 with⟨rfl,rfl⟩|⟨y,k,rfl,hy⟩
 ·simp only[Qj];rw[run_pb];rcases oB hr e1 with⟨rfl,rfl⟩|⟨y,k,rfl,hy⟩
  ·simp only[Qj];rw[run_pb];rfl
  ·simp only[OS,hy];rw[run_ok (iI h0 (by omega))];rfl
 ·simp only[OS,hy];rw[run_ok (iI (by omega) (by omega))];rcases oB hr e1 with⟨rfl,rfl⟩|⟨y',k',rfl,hy'⟩
  ·simp only[Qj];rw[run_pb];rfl
  ·simp only[OS,hy'];rw[run_ok (iI h0 (by omega))];rfl
section
variable {P:Program} {A:Ann} {fid:Nat} {w0:World} {M:MS} {c:Cx} {ρ:Operand->AV} {r:Operand->Value} {hp:Nat->Option Obj} {o:Oper} {v:AV} {u:Upd}
theorem EG (hr:∀x,RepV c (ρ x) (r x)){t e:TypeId}{sz:Nat}(hu:P.underlying t=some (.slice e))(hsz:dw P e=some sz){a:Option Addr}{len cap:Nat}{l h:Int}{lo hi:Option Operand}(e1:bU ρ 0 lo=some l)(e2:bU ρ len hi=some h)
  (h0:0<=l) (h1:l<=h) (h2:h<=(len:Int)) (h3:len<=cap):
  (Instr.sliceAt t (.slice a len cap) (lo.map r) (hi.map r) none).run P c.w=.ok (.slice (if cap=l.toNat then a else a.map (·.add (l.toNat*sz))) (h.toNat-l.toNat) (cap-l.toNat)) c.w:=by
 unfold Instr.sliceAt;rw[run_ok (run_underlying hu c.w)];simp only[];unfold Instr.slice;rw[run_ok (run_underlying hu c.w)];simp only[];rw[run_ok (kh hr e1 e2 h0 h1 h2 h3)];simp only[];rw[run_ok (bh hsz c.w)];rfl
theorem Dc {a:Option Addr}{len cap sz:Nat}:Value.slice (if cap=0 then a else a.map (·.add (0*sz))) (len-0) (cap-0)=.slice a len cap:=by
 simp only[P4,P3];split
 ·rfl
 ·cases a<;>simp[Addr.add]
theorem DY (hm : Mem w0 M c) (hh : ∀ id o, hp id = some o → c.hp id = some o) (hr : ∀ x, RepV c (ρ x) (r x)) {t : TypeId} {x : Operand} {lo hi mx : Option Operand} (ho : o.op = .slice t x lo hi mx) (h : core P A fid ρ hp o = .ok true v u) :
    aU w0 M c ((execOp r o).run P c.w) v u := by
  simp only [core, ho] at h
  simp only [execOp, ho]
  split at h
  · -- a string
    rename_i s hs hu
    obtain ⟨sb, es, rfl⟩ := aF hr hs
    split at h
    · rename_i l hh' e1 e2
      simp only [Out.ok.injEq, NM, N0] at h
      obtain ⟨⟨⟨h0, h1⟩, h2⟩, rfl, rfl⟩ := h
      rw [bQ] at e2 h2
      rw [es]
      refine .quiet hm (aM (v := .string (sb.extract l.toNat hh'.toNat)) ?_) (aB ⟨_, rfl, ?_⟩)
      · unfold Instr.sliceAt
        rw [run_ok (run_underlying hu c.w)]
        simp only []
        unfold Instr.slice
        rw [run_ok (run_underlying hu c.w)]
        simp only [Qj, Option.isSome_none, Od, OE]
        rw [run_ok (kh hr e1 e2 h0 h1 h2 (NG _))]; rfl
      · simp only [bytesOf, ByteArray.data_extract, QW, List.map_take, List.map_drop, List.extract]
    · cases h
  · -- a slice
    rename_i s e hs hu
    have hrs := aF hr hs
    split at h
    · rename_i sz hsz
      -- what the real machine does
      have go : ∀ {a : Option Addr} {len cap : Nat} {l h' : Int}, r x = .slice a len cap → bU ρ 0 lo = some l → bU ρ len hi = some h' → 0 ≤ l → l ≤ h' → h' ≤ (len : Int) → len ≤ cap →
          (do pure (Next.value (← Instr.sliceAt t (r x) (lo.map r) (hi.map r) (Option.map r none))) : Sem Next).run P c.w = .ok (.value (.slice (if cap = l.toNat then a else a.map (·.add (l.toNat * sz))) (h'.toNat - l.toNat) (cap - l.toNat))) c.w := by
        intro a len cap l h' hx e1 e2 h0 h1 h2 h3
        refine aM ?_
        rw [hx]
        exact EG hr hu hsz e1 e2 h0 h1 h2 h3
      by_cases hall : lo = none ∧ hi = none
      · -- all of it
        obtain ⟨rfl, rfl⟩ := hall
        simp only [tK] at h
        split at h
        · cases h
        · rename_i hne
          simp only [okv, Out.ok.injEq, Oh] at h
          obtain ⟨rfl, rfl⟩ := h
          have : ∃ a len cap, r x = .slice a len cap ∧ len ≤ cap := by
            cases hro : cZ hp s with
            | none => exact (hne hro).elim
            | nil => exact ⟨none, 0, 0, pO hro hrs, NG _⟩
            | some k ys =>
              obtain ⟨a, cap, q1, q2, _⟩ := mD hm hh hro hrs
              exact ⟨a, _, cap, q1, q2⟩
          obtain ⟨a, len, cap, hx, hle⟩ := this
          refine .quiet hm (v' := r x) ?_ (aB hrs)
          have := go (l := 0) (h' := (len : Int)) hx rfl rfl (by omega) (by omega) (by omega) hle
          simp only [Int.toNat_zero, NQ] at this
          rw [Dc, ← hx] at this; exact this
      cases s with
      | nilS =>
        have h : (match bU ρ 0 lo, bU ρ 0 hi with
          | some l, some h => Out.ok (decide (l = 0) && decide (h = 0)) (.val false [.nilS]) []
          | _, _ => .bad) = .ok true v u := by
          cases lo <;> cases hi <;> first | exact h | exact (hall ⟨rfl, rfl⟩).elim
        split at h
        · rename_i l h' e1 e2
          simp only [Out.ok.injEq, NM, N0] at h
          obtain ⟨⟨rfl, rfl⟩, rfl, rfl⟩ := h
          have hx : r x = .slice none 0 0 := hrs
          have := go (l := 0) (h' := 0) hx e1 e2 (by omega) (by omega) (by omega) (NG _)
          exact .quiet hm this (aB rfl)
        · cases h
      | sl k xs =>
       cases lo with
       | none =>
        cases hi with
        | none => exact (hall ⟨rfl, rfl⟩).elim
        | some y =>
        simp only [tK] at h
        split at h
        · rename_i h' e2
          cases hb : Nat.beq sz k.size with
          | false => rw [hb] at h; cases h
          | true =>
            rw [hb] at h
            simp only [Pw, NS, Out.ok.injEq, NM, N0] at h
            obtain ⟨⟨h1, h2⟩, rfl, rfl⟩ := h
            have hk := NB hb
            have hrs' : RepT c.te c.w c.S (.slice k) xs [r x] := hrs
            obtain ⟨a, cap, q1, q2, q3⟩ := hrs'
            have hx : r x = .slice a xs.length cap := by simpa using q1
            have e2' : bU ρ xs.length (some y) = some h' := by simpa [bU] using e2
            have := go (l := 0) (h' := h') hx rfl e2' (by omega) h1 h2 q2
            refine .quiet hm this (aB ?_)
            rw [hx] at hrs
            have := ve (k := k) (xs := xs) hrs (l := 0) (hi := h'.toNat) (by omega) (by omega)
            rw [Pm] at this
            rw [hk]; simp only [RepS]; simpa using this
        · cases h
       | some y =>
        cases hi with
        | none =>
         simp only [tK] at h
         split at h
         · rename_i l e1
           cases hb : Nat.beq sz k.size with
           | false => rw [hb] at h; cases h
           | true =>
             rw [hb] at h
             simp only [Pw, NS, Out.ok.injEq, NM, N0] at h
             obtain ⟨⟨h1, h2⟩, rfl, rfl⟩ := h
             have hk := NB hb
             have hrs' : RepT c.te c.w c.S (.slice k) xs [r x] := hrs
             obtain ⟨a, cap, q1, q2, q3⟩ := hrs'
             have hx : r x = .slice a xs.length cap := by simpa using q1
             have := go (l := l) (h' := (xs.length : Int)) hx e1 rfl (by omega) (by omega) (by omega) q2
             refine .quiet hm this (aB ?_)
             rw [hx] at hrs
             have := ve (k := k) (xs := xs) hrs (l := l.toNat) (hi := xs.length) (by omega) (by omega)
             rw [O0 (by simp)] at this
             rw [hk]; simp only [RepS]; simpa using this
         · cases h
        | some z =>
         simp only [tK] at h
         split at h
         · rename_i l h' e1 e2
           cases hb : Nat.beq sz k.size with
           | false => rw [hb] at h; cases h
           | true =>
             rw [hb] at h
             simp only [Pw, NS, Out.ok.injEq, NM, N0] at h
             obtain ⟨⟨⟨h0, h1⟩, h2⟩, rfl, rfl⟩ := h
             have hk := NB hb
             have hrs' : RepT c.te c.w c.S (.slice k) xs [r x] := hrs
             obtain ⟨a, cap, q1, q2, q3⟩ := hrs'
             have hx : r x = .slice a xs.length cap := by simpa using q1
             have e2' : bU ρ xs.length (some z) = some h' := by simpa [bU] using e2
             have := go (l := l) (h' := h') hx e1 e2' h0 h1 h2 q2
             refine .quiet hm this (aB ?_)
             rw [hx] at hrs
             have := ve (k := k) (xs := xs) hrs (l := l.toNat) (hi := h'.toNat) (by omega) (by omega)
             rw [hk]; exact this
         · cases h
      | vw id g =>
        have h : (match cZ hp (.vw id g) with
          | .some k xs => (match bU ρ 0 lo, bU ρ xs.length hi with
            | some l, some h => bif !Nat.beq sz k.size then Out.bad else .ok (decide (0 ≤ l) && decide (l ≤ h) && decide (h ≤ (xs.length : Int))) (.val false [.pv id g l.toNat (h.toNat - l.toNat)]) []
            | _, _ => .bad)
          | _ => .bad) = .ok true v u := by
          cases lo <;> cases hi <;> first | exact h | exact (hall ⟨rfl, rfl⟩).elim
        split at h
        · rename_i k xs hro
          split at h
          · rename_i l h' e1 e2
            cases hb : Nat.beq sz k.size with
            | false => rw [hb] at h; cases h
            | true =>
              rw [hb] at h
              simp only [Pw, NS, Out.ok.injEq, NM, N0] at h
              obtain ⟨⟨⟨h0, h1⟩, h2⟩, rfl, rfl⟩ := h
              have hk := NB hb
              obtain ⟨a, cap, q1, q2, q3⟩ := mD hm hh hro hrs
              have := go (l := l) (h' := h') q1 e1 e2 h0 h1 h2 q2
              refine .quiet hm this (aB ⟨rfl, ?_⟩)
              obtain ⟨_, ob, t1, t2⟩ := hrs
              refine ⟨ob, t1, fun k' xs' gen hist frz e' => ?_⟩
              obtain ⟨p1, p2, _⟩ := t2 _ _ _ _ _ e'
              refine ⟨p1, fun hg => ?_⟩
              have hvn := p2 hg
              have hro2 : cZ hp (.vw id g) = .some k' xs' := by
                subst e'
                simp only [cZ] at hro ⊢
                split at hro
                · rename_i k2 xs2 gen2 hist2 frz2 hid
                  have := hh id _ hid
                  rw [t1] at this; cases this
                  subst hg
                  simp [yV]
                · cases hro
              rw [hro] at hro2
              simp only [RowV.some.injEq] at hro2
              obtain ⟨rfl, hro3⟩ := hro2
              cases hro3
              simp only [cz] at hvn ⊢
              cases hbb : c.β id with
              | none =>
                rw [hbb] at hvn
                obtain ⟨z1, z2, _⟩ := hvn
                rw [q1] at z1
                have hz : a = none ∧ xs.length = 0 ∧ cap = 0 := by simpa using z1
                obtain ⟨rfl, hz1, rfl⟩ := hz
                have : h' = 0 ∧ l = 0 := by omega
                obtain ⟨rfl, rfl⟩ := this
                simp [hz1]
              | some b =>
                rw [hbb] at hvn
                obtain ⟨cap', arr, a', z1, z2, z3, z4, z5⟩ := hvn
                rw [q1] at z1
                cases z1
                refine ⟨cap - l.toNat, arr, if cap = l.toNat then a' else a'.add (l.toNat * sz), by split <;> rfl, by omega, z3, by omega, fun hc => ?_⟩
                obtain ⟨rfl, z6⟩ := z5 (by omega)
                rw [ND (by omega), lX, hk]
                exact ⟨by simp, by rw [show l.toNat + (cap - l.toNat) = 0 + cap by omega]; exact z6⟩
          · cases h
        · cases h
      | pv id g off len =>
        have h : (match cZ hp (.pv id g off len) with
          | .some k _ => (match bU ρ 0 lo, bU ρ len hi with
            | some l, some h => bif !Nat.beq sz k.size then Out.bad else .ok (decide (0 ≤ l) && decide (l ≤ h) && decide (h ≤ (len : Int))) (.val false [.pv id g (l.toNat + off) (h.toNat - l.toNat)]) []
            | _, _ => .bad)
          | _ => .bad) = .ok true v u := by
          cases lo <;> cases hi <;> first | exact h | exact (hall ⟨rfl, rfl⟩).elim
        split at h
        · rename_i k ys hro
          split at h
          · rename_i l h' e1 e2
            cases hb : Nat.beq sz k.size with
            | false => rw [hb] at h; cases h
            | true =>
              rw [hb] at h
              simp only [Pw, NS, Out.ok.injEq, NM, N0] at h
              obtain ⟨⟨⟨h0, h1⟩, h2⟩, rfl, rfl⟩ := h
              have hk := NB hb
              simp only [cZ] at hro
              split at hro
              · rename_i k2 xs gen hist frz hid
                cases hg : Nat.beq g gen with
                | false => rw [hg] at hro; cases hro
                | true =>
                  rw [hg] at hro
                  simp only [NH, RowV.some.injEq] at hro
                  obtain ⟨rfl, _⟩ := hro
                  obtain ⟨_, ob, t1, t2⟩ := hrs
                  have e1' := hh id _ hid
                  rw [e1'] at t1; cases t1
                  obtain ⟨p1, p2⟩ := t2 _ _ _ _ _ rfl
                  have hvn := p2 (NB hg)
                  simp only [cz] at hvn
                  cases hbb : c.β id with
                  | none =>
                    rw [hbb] at hvn
                    obtain ⟨z1, z2, z3, z4⟩ := hvn
                    subst z3; subst z4
                    have := go (l := l) (h' := h') z1 e1 e2 h0 h1 h2 (NG _)
                    have hl0 : h' = 0 ∧ l = 0 := by omega
                    obtain ⟨rfl, rfl⟩ := hl0
                    refine .quiet hm this (aB ⟨rfl, _, e1', fun k' xs' gen' hist' frz' e' => ?_⟩)
                    cases e'
                    refine ⟨p1, fun _ => ?_⟩
                    simp only [cz, hbb]
                    simp [z2]
                  | some b =>
                    rw [hbb] at hvn
                    obtain ⟨cap, arr, a', z1, z2, z3, z4, z5⟩ := hvn
                    have := go (l := l) (h' := h') z1 e1 e2 h0 h1 h2 z2
                    refine .quiet hm this (aB ⟨rfl, _, e1', fun k' xs' gen' hist' frz' e' => ?_⟩)
                    cases e'
                    refine ⟨p1, fun _ => ?_⟩
                    simp only [cz, hbb]
                    refine ⟨cap - l.toNat, arr, if cap = l.toNat then a' else a'.add (l.toNat * sz), by split <;> rfl, by omega, z3, by omega, fun hc => ?_⟩
                    obtain ⟨rfl, z6⟩ := z5 (by omega)
                    rw [ND (by omega), lX, hk]
                    refine ⟨by rw [Og, Q9], ?_⟩
                    rw [show l.toNat + off + (cap - l.toNat) = off + cap by omega]; exact z6
              · cases hro
          · cases h
        · cases h
      | _ => cases lo <;> cases hi <;> first | (simp only [tK] at h; cases h) | exact (hall ⟨rfl, rfl⟩).elim
    · cases h
  · cases h
end
end Go.Eng
set_option maxRecDepth 4096
namespace Go.Eng
open Go.RowKit
section
variable {P:Program} {A:Ann} {fid:Nat} {w0:World} {M:MS} {c:Cx} {ρ:Operand->AV} {r:Operand->Value} {hp:Nat->Option Obj} {o:Oper} {v:AV} {u:Upd}
theorem DZ (hm:Mem w0 M c)(hr:∀x,RepV c (ρ x) (r x)){t:TypeId}{x ix:Operand}(ho:o.op=.index t x ix)(h:core P A fid ρ hp o=.ok true v u):
  aU w0 M c ((execOp r o).run P c.w) v u:=by
 simp only[core,ho]at h;simp only[execOp,ho];have hx:=hr x;split at h
 ·rename_i s ki i hu ex hi;obtain⟨ei,_⟩:=aF hr hi;simp only[Out.ok.injEq]at h;obtain⟨hin,rfl,rfl⟩:=h;have hin:=mb.1 hin;rw[ex]at hx;obtain⟨sb,es,rfl⟩:=aT hx;rw[bQ]at hin;have hlt:i.toNat<sb.data.size:=by have:sb.size=sb.data.size:=rfl;omega
  have hb:(bytesOf sb).getD i.toNat 0=((sb.data[i.toNat]).toNat:Int):=by
   rw[NP,sH,NT (by simpa using hlt)];simp
  refine .quiet hm (aM (v:=.int .u8 (sb.data[i.toNat]).toNat) ?_) (aB ?_)
  ·rw[es,ei];unfold Instr.index;rw[run_ok (show(asIntOf (.int ki i)).run P c.w=.ok (ki,i) c.w from rfl)];simp only[];rw[run_ok (run_underlying hu c.w)];simp only[];have:(if 0<=i then sb[i.toNat]? else none)=some (sb.data[i.toNat]):=by
    rw[NI hin.1];exact getElem?_pos sb i.toNat hlt
   rw[this];rfl
  ·simp only[RepS];rw[hb];refine⟨rfl,?_⟩;have:=(sb.data[i.toNat]).toNat_lt;simp[okI,okB];omega
 ·rename_i n e cs ki i hu ex hi;obtain⟨ei,_⟩:=aF hr hi;rw[ex]at hx;obtain⟨arr,es,hl⟩:=hx;split at h
  ·rename_i sz hsz;split at h
   ·rename_i l hg;split at h
    ·rename_i v' hv;simp only[Out.ok.injEq]at h;obtain⟨hin,rfl,rfl⟩:=h;have hin:=mb.1 hin;have hget:=jP _ _ _ hg (by intro s hs;simp at hs;subst hs;exact hin);obtain⟨vs,q1,q2⟩:=hl.sub hget;have e0:aS [jY.idx n sz i]=i.toNat*sz:=by simp[aS,js]
     obtain⟨x',p1,p2⟩:=EH (P:=P) hv q1 (arr:=arr) (off:=i.toNat*sz) (λj u hu=>by
      have:=q2 j u hu;rw[e0]at this;rw[<- NR];exact this)
     refine .quiet hm (aM (v:=x') ?_) p2;rw[es,ei];unfold Instr.index;rw[run_ok (show(asIntOf (.int ki i)).run P c.w=.ok (ki,i) c.w from rfl)];simp only[];rw[run_ok (run_underlying hu c.w)];simp only[];rw[NI hin,run_ok (bh hsz c.w)];exact p1
    ·cases h
   ·cases h
  ·cases h
 ·cases h
theorem uA {P:Program}{w:World}:∀(vs:List Value)(ns:List Int)(s:ByteArray),LR (λv n=>v=Value.int .u8 n/\okI .u8 n) vs ns ->
  (forIn vs s (λcc (s:ByteArray)=>(match cc with
   |.int .u8 n=>pure (ForInStep.yield (s.push (UInt8.ofNat n.toNat)))
   | _ => stuck "bytesToString: byte expected" : Sem (ForInStep ByteArray)))).run P w = .ok ⟨(s.data ++ (ns.map fun n => UInt8.ofNat n.toNat).toArray)⟩ w
 |[],[],s,_=>by rw[List.forIn_nil];simp
 |v::r,n::ns,s,h=>by
  obtain⟨⟨rfl,hn⟩,hr⟩:=h;rw[List.forIn_cons];simp only[];rw[run_pb];simp only[];rw[uA r ns _ hr];simp[ByteArray.push]
 |[],_::_,_,h=>h.elim
 |_::_,[],_,h=>h.elim
theorem uQ:∀(ns:List Int),(∀n∈ns,okI .u8 n)->(ns.map λn=>UInt8.ofNat n.toNat).map (λc=>(c.toNat:Int))=ns
 |[],_=>rfl
 |n::r,h=>by
  have h1:=h n (by simp);simp[okI,okB]at h1;simp only[NV];rw[uQ r (λm hm=>h m (by simp[hm]))];congr 1;rw[UInt8.toNat_ofNat'];omega
theorem nS {P:Program}{c:Cx}{ids:List Nat}{ys:List Int}{v:Value}(h:Vis c ids (.int .u8) ys v):∃sb,(Conv.bytesToString v).run P c.w=.ok (.string sb) c.w/\bytesOf sb=ys:=by
 obtain⟨a,cap,rfl,hle,hx⟩:=h;unfold Conv.bytesToString;cases a with
 |none=>
  have:ys=[]:=by
   cases ys with
   |nil=>rfl
   |cons y r=>obtain⟨ad,e,_⟩:=hx (by simp);cases e
  subst this;exact⟨.empty,rfl,rfl⟩
 |some ad=>
  have hok:∀n∈ys,okI .u8 n:=by
   intro n hn;obtain⟨i,hi⟩:=Oo.1 hn;obtain⟨_,_,_,_,h4⟩:=hx (by rintro rfl;simp at hn);obtain⟨vs,h5,_⟩:=h4 i n hi;exact h5.2
  have hat:At c.w ad.block ad.off (ys.map (Value.int .u8)):=by
   intro j v hj;rw[Ot]at hj;cases hy:ys[j]? with
   |none=>rw[hy]at hj;cases hj
   |some n=>
    rw[hy]at hj;simp at hj;subst hj;obtain⟨ad',e,h2,h3,h4⟩:=hx (by rintro rfl;simp at hy);cases e;obtain⟨vs,h5,h6⟩:=h4 j n hy;obtain⟨rfl,_⟩:=h5;have:=h6 0 _ rfl;simpa[K.size]using this
  have hl:(loadCells ad ys.length).run P c.w=.ok (ys.map (Value.int .u8)).toArray c.w:=by
   by_cases hne:ys=[]
   ·subst hne;rfl
   ·obtain⟨ad',e,h2,_⟩:=hx hne;cases e;obtain⟨b,o,sp⟩:=ad;simp at h2;subst h2;have:=jw (P:=P) hat;simpa using this
  refine⟨⟨(ys.map λn=>UInt8.ofNat n.toNat).toArray⟩,?_,?_⟩
  ·simp only[];rw[run_ok hl];rw[<- Q7];have hlr:LR (λv n=>v=Value.int .u8 n/\okI .u8 n) (ys.map (Value.int .u8)) ys:=by
    refine LR.of_get (by simp) λi a b h1 h2=>?_
    rw[Ot,h2]at h1;simp at h1;exact⟨h1.symm,hok b (NX h2)⟩
   have:=uA (P:=P) (w:=c.w) _ ys ByteArray.empty hlr;have e2:(ByteArray.empty.data++(ys.map λn=>UInt8.ofNat n.toNat).toArray)=(ys.map λn=>UInt8.ofNat n.toNat).toArray:=by
    show #[]++_=_;simp
   rw[e2]at this;refine(run_ok (a:=(⟨(ys.map λn=>UInt8.ofNat n.toNat).toArray⟩:ByteArray)) ?_).trans rfl;exact this
  ·simp only[bytesOf];exact uQ ys hok
theorem nE (hm:Mem w0 M c)(hh:∀id o,hp id=some o->c.hp id=some o)(hr:∀x,RepV c (ρ x) (r x)){st dt:TypeId}{x:Operand}(ho:o.op=.convert st dt x)(hs:∀s e,¬ (slot x ρ=some (.str s)/\P.underlying dt=some (.slice e)))(hs2:∀id g e0 e,¬ (slot x ρ=some (.vw id g)/\P.underlying st=some (.slice e0)/\P.underlying dt=some (.slice e)))(h:core P A fid ρ hp o=.ok true v u):
  aU w0 M c ((execOp r o).run P c.w) v u:=by
 simp only[core,ho]at h;simp only[execOp,ho];split at h
 ·rename_i ki n td k hx hsu hdu;obtain⟨e,_⟩:=aF hr hx;simp only[okv,Out.ok.injEq,Oh]at h;obtain⟨rfl,rfl⟩:=h;refine .quiet hm (aM (v:=.int k (k.wrap n)) ?_) (aB ⟨rfl,lz _ _⟩);rw[e];unfold convert;rw[run_ok (run_underlying hsu c.w),run_ok (run_underlying hdu c.w)];cases td<;>rfl
 ·rename_i s td hx hsu hdu;obtain⟨sb,e,rfl⟩:=aF hr hx;simp only[okv,Out.ok.injEq,Oh]at h;obtain⟨rfl,rfl⟩:=h;refine .quiet hm (aM (v:=.string sb) ?_) (aB ⟨_,rfl,rfl⟩);rw[e];unfold convert;rw[run_ok (run_underlying hsu c.w),run_ok (run_underlying hdu c.w)];cases td<;>rfl
 ·rename_i s td e hx hsu hdu;exact(hs s e ⟨hx,hdu⟩).elim
 ·rename_i s e _ hx hsu hdu;have hrs:=aF hr hx;split at h
  ·rename_i heu;have conv:∀{a:Option Addr} {n cap:Nat},r x=.slice a n cap->(convert st dt (r x)).run P c.w=(Conv.bytesToString (r x)).run P c.w:=by
    intro a n cap hv;rw[hv];unfold convert;rw[run_ok (run_underlying hsu c.w),run_ok (run_underlying hdu c.w)];simp only[];rw[run_ok (run_underlying heu c.w)]
   split at h
   ·rename_i hro;simp only[okv,Out.ok.injEq,Oh]at h;obtain⟨rfl,rfl⟩:=h;have hv:=pO hro hrs;refine .quiet hm (aM (v:=.string .empty) ?_) (aB ⟨_,rfl,rfl⟩);rw[conv hv,hv];rfl
   ·rename_i k xs hro;split at h
    ·rename_i ys hc;simp only[okv,Out.ok.injEq,Oh]at h;obtain⟨rfl,rfl⟩:=h;obtain⟨rfl,rfl⟩:=jR hc;have hvis:=mD hm hh hro hrs;obtain⟨sb,q1,q2⟩:=nS (P:=P) hvis;obtain⟨a,cap,q3,_⟩:=hvis;refine .quiet hm (aM (v:=.string sb) ?_) (aB ⟨sb,rfl,q2⟩);rw[conv q3];exact q1
    ·cases h
   ·cases h
  ·cases h
 ·rename_i id g e0 e hx hsu hdu;exact(hs2 id g e0 e ⟨hx,hsu,hdu⟩).elim
 ·cases h
theorem yn {P:Program}{w:World}{f:Int->Int->Int}{g:Value->Value->Sem Value}(hg:∀k x k' y,(g (.int k x) (.int k' y)).run P w=.ok (.int k (f x y)) w)(hf:∀x y,f x y=x\/f x y=y){k:IntKind}{c:Cx}:
  ∀(l:List AV) (vs:List Value) (n m:Int),LR (RepV c) l vs->okI k n->rZ f k n l=some m->okI k m/\(vs.foldlM g (.int k n)).run P w=.ok (.int k m) w
 |[],[],n,m,_,hn,h=>by simp[rZ]at h;subst h;exact⟨hn,rfl⟩
 |a::l,v::vs,n,m,hl,hn,h=>by
  cases a with
  |undef=>simp[rZ]at h
  |tup _=>simp[rZ]at h
  |val gg cs=>
   match gg,cs,hl,h with
   |false,[.int k' m'],hl,h=>
    simp only[rZ]at h;by_cases e:k'=k
    ·subst e;simp only[OZ,NH]at h;obtain⟨rfl,hok⟩:=aT hl.1;have hn':okI k' (f n m'):=by rcases hf n m' with q|q<;>rw[q]<;>assumption
     obtain⟨q1,q2⟩:=yn hg hf l vs (f n m') m hl.2 hn' h;refine⟨q1,?_⟩;rw[List.foldlM_cons,run_ok (hg _ _ _ _)];exact q2
    ·simp[e]at h
   |true,_,_,h=>simp[rZ]at h
   |false,[],_,h=>simp[rZ]at h
   |false,_::_::_,_,h=>simp[rZ]at h
   |false,[.undef],_,h|false,[.bool _],_,h|false,[.str _],_,h|false,[.err _],_,h|false,[.fn _],_,h|false,[.nilS],_,h|false,[.sl ..],_,h|false,[.vw ..],_,h|false,[.pv ..],_,h|false,[.ptr ..],_,h|false,[.ipt ..],_,h|false,[.mv ..],_,h|false,[.io ..],_,h=>simp[rZ]at h
 |[],_::_,_,_,h,_,_=>h.elim
 |_::_,[],_,_,h,_,_=>h.elim
theorem iP {c:Cx}{a:AV}{s:S}{v:Value}(h:Db a=some s)(hr:RepV c a v):RepS c s v:=by
 unfold Db at h;split at h
 ·simp only[Nz]at h;subst h;exact aT hr
 ·cases h
theorem CM {P:Program}{c:Cx}{f:Int->Int->Int}{g:Value->Value->Sem Value}(hg:∀k x k' y,(g (.int k x) (.int k' y)).run P c.w=.ok (.int k (f x y)) c.w)(hf:∀x y,f x y=x\/f x y=y)
  {args:List AV} {vs:List Value} {v:AV} {u:Upd} (ha:LR (RepV c) args vs) (h:DJ f args=.ok true v u):∃x r q,vs=x::r/\(r.foldlM g x).run P c.w=.ok q c.w/\RepV c v q/\u=[]:=by
 unfold DJ at h;split at h
 ·rename_i k n r;split at h
  ·rename_i m hm';simp only[okv,Out.ok.injEq,Oh]at h;obtain⟨rfl,rfl⟩:=h
   match vs,ha with
   |x::vr,ha=>
    obtain⟨rfl,hok⟩:=aT ha.1;obtain⟨q1,q2⟩:=yn hg hf r vr n m ha.2 hok hm';exact⟨_,_,_,rfl,q2,aB ⟨rfl,q1⟩,rfl⟩
  ·cases h
 ·cases h
theorem wM {P:Program}{A:Ann}{w0:World}{M:MS}{c:Cx}{hp:Nat->Option Obj}(hm:Mem w0 M c)(hM:ManR A c)(hh:∀id o,hp id=some o->c.hp id=some o){dst:Option Nat}{ats:Array TypeId}{ty:TypeId}{args:List AV}{vs:Array Value}{v:AV}{u:Upd}{b:Builtin}(hb:b≠ .append)
  (ha:LR (RepV c) args vs.toList) (h:jW P hp dst b ats.toList args=.ok true v u) (cs:Array Bool):aU w0 M c ((builtin b ats ty cs vs).run P c.w) v u:=by
 unfold jW at h;cases b with
 |append=>exact(hb rfl).elim
 |len=>
  simp only[]at h;split at h
  ·rename_i t a hats;split at h
   ·rename_i s hs
    match hvs:vs.toList,ha with
    |[x],ha=>
     have hx:=iP hs ha.1;have hv0:vs[0]?=some x:=by rw[<- NR,hvs];rfl
     have ht0:ats[0]?=some t:=by rw[<- NR];exact hats
     unfold lenS at h;split at h
     ·rename_i hu;split at h
      ·obtain⟨sb,rfl,rfl⟩:=hx;simp only[okv,Out.ok.injEq,Oh]at h;obtain⟨rfl,rfl⟩:=h;refine .quiet hm (v':=.int .i64 sb.size) ?_ (aB ⟨by rw[bQ],rfl⟩);unfold builtin;simp only[];refine aM ?_;unfold Builtin.len_;simp only[ht0,hv0];rw[run_ok (run_underlying hu c.w)];rfl
      ·cases h
     ·rename_i e hu;have fin:∀(a:Option Addr) (n cap:Nat),x=.slice a n cap->(builtin .len ats ty cs vs).run P c.w=.ok (.value (.int .i64 n)) c.w:=by
       rintro a n cap rfl;unfold builtin;simp only[];refine aM ?_;unfold Builtin.len_;simp only[ht0,hv0];rw[run_ok (run_underlying hu c.w)];rfl
      split at h
      ·rename_i hro;simp only[okv,Out.ok.injEq,Oh]at h;obtain⟨rfl,rfl⟩:=h;exact .quiet hm (fin _ _ _ (Jv hro hx)) (aB ⟨rfl,rfl⟩)
      ·rename_i k xs hro;simp only[okv,Out.ok.injEq,Oh]at h;obtain⟨rfl,rfl⟩:=h;obtain⟨a,cap,e1,_⟩:=Ju hm hM hh hro hx;exact .quiet hm (fin _ _ _ e1) (aB ⟨rfl,rfl⟩)
      ·cases h
     ·cases h
   ·cases h
  ·cases h
 |min=>
  simp only[]at h;obtain⟨x,r,q,e1,e2,e3,rfl⟩:=CM (P:=P) (g:=Builtin.min2) (λk x k' y=>by unfold Builtin.min2 minI;by_cases q:y<x<;>simp[q]<;>rfl) (λx y=>by unfold minI;by_cases q:y<x<;>simp[q]) ha h;refine .quiet hm (v':=q) ?_ e3;unfold builtin;simp only[];refine aM ?_;unfold Builtin.min_;rw[e1];exact e2
 |max=>
  simp only[]at h;obtain⟨x,r,q,e1,e2,e3,rfl⟩:=CM (P:=P) (g:=Builtin.max2) (λk x k' y=>by unfold Builtin.max2 maxI;by_cases q:x<y<;>simp[q]<;>rfl) (λx y=>by unfold maxI;by_cases q:x<y<;>simp[q]) ha h;refine .quiet hm (v':=q) ?_ e3;unfold builtin;simp only[];refine aM ?_;unfold Builtin.max_;rw[e1];exact e2
 |delete=>
  exfalso;simp only[]at h;split at h
  ·split at h
   ·unfold delS at h;split at h
    ·split at h
     ·revert h;generalize Nat.beq _ _=q;cases q<;>simp
     ·cases h
    ·cases h
   ·cases h
  ·cases h
 |_=>simp at h
end
end Go.Eng
namespace Go.Eng
open Go.RowKit
theorem bO (d:Nat)(o:Obj)(u:Upd)(hp:Nat->Option Obj):hpU ((d,o)::u) hp=upd (hpU u hp) d o:=by
 funext id;unfold hpU upd;simp only[hget];by_cases e:id=d
 ·subst e;simp
 ·have:Nat.beq d id=false:=by
   cases h:Nat.beq d id with
   |true=>exact(e (NB h).symm).elim
   |false=>rfl
  simp[this,e]
theorem cC (hp:Nat->Option Obj):hpU [] hp=hp:=rfl
theorem cK {hp:Nat->Option Obj}{d:Option Nat}{id:Nat}(h:fresh hp d=some id):d=some id/\hp id=none:=by
 unfold fresh at h;split at h
 ·rename_i i;split at h
  ·rename_i hn;simp only[Nz]at h;subst h;exact⟨rfl,hn⟩
  ·cases h
 ·cases h
theorem vE {c:Cx}{w0:World}{M:MS}(hm:Mem w0 M c){d b:Nat}{w':World}{o:Obj}(hd:c.hp d=none)(hg:Grew c.w w'):Ext c (c.new w' d b o):=
 (Ext.grew hm hg).trans (Ext.name (c:={ c with w:=w' }) (d:=d) (β':=upd c.β d b) (o:=o) hd (λid hi=>by simp[upd,hi]))
theorem vD {c:Cx}{w0:World}{M:MS}(hm:Mem w0 M c){d b:Nat}{w':World}{o:Obj}(hd:c.hp d=none)(hg:Grew c.w w')(hb0:c.w.heap.size<=b)(hb1:b<w'.heap.size)(ho:RepO (c.new w' d b o) d o):Mem w0 M (c.new w' d b o):=by
 refine Mem.name (c:={ c with w:=w' }) (hm.grew hg) hd (β':=upd c.β d b) (λid hi=>by simp[upd,hi]) ho ?_;intro b' hb' _;simp[upd]at hb';subst hb';refine⟨hb1,λhs=>?_,.inl (Oa hm.fr.size hb0),λid hl=>?_⟩
 ·have:=hm.below _ hs;omega
 ·have:=(hm.live id _ hl).1;omega
def bY (w:World)(o:Go.Obj):World:={ w with heap:=w.heap.push o }
theorem cI (w:World)(o:Go.Obj):Grew w (bY w o):=by
 refine⟨rfl,rfl,rfl,by simp[bY],λb hb=>?_⟩;simp only[bY,PZ];rw[ND (by omega)]
theorem mH (w:World)(o:Go.Obj):(bY w o).heap[w.heap.size]?=some o:=by
 show(w.heap.push o)[w.heap.size]?=some o;rw[PZ];simp
theorem fY {P:Program}{w:World}(T:TypeId)(vs:Array Value):(newRow T vs).run P w=.ok ⟨w.heap.size,0,none⟩ (bY w (.cells vs T (0,0))):=rfl
theorem nR {P:Program}{w:World}(T:TypeId)(v:Value):(newVar T v).run P w=.ok ⟨w.heap.size,0,none⟩ (bY w (.cells v.cells T (0,0))):=rfl
theorem cB (w:World)(vs:Array Value)(T:TypeId):bD (bY w (.cells vs T (0,0))) w.heap.size vs:=⟨T,(0,0),mH _ _,λo _ h=>(by omega),NG _⟩
theorem Fi {c:Cx}{w0:World}{M:MS}(hm:Mem w0 M c){d:Nat}(hd:c.hp d=none)(T:TypeId){cs:List S}{vs:Array Value}(hl:LR (RepS c) cs vs.toList){nx:Result Next}
  (hn:nx=.ok (.value (.pointer (some ⟨c.w.heap.size,0,none⟩))) (bY c.w (.cells vs T (0,0)))):aU w0 M c nx (.val false [.ptr d 0 0 []]) [(d,.box cs)]:=by
 have hg:=cI c.w (.cells vs T (0,0));have he:=vE (b:=c.w.heap.size) (o:=.box cs) hm hd hg;have hβ:(c.new (bY c.w (.cells vs T (0,0))) d c.w.heap.size (.box cs)).β d=some c.w.heap.size:=by simp[Cx.new,upd]
 refine⟨_,c.new (bY c.w (.cells vs T (0,0))) d c.w.heap.size (.box cs),hn,vD hm hd hg (NG _) (by simp[bY]) ?_,he,by rw[bO,cC];rfl,.inl ⟨_,rfl,aB ?_⟩⟩
 ·intro _;refine⟨_,vs,hβ,cB _ _ _,?_⟩;have:=hl.length;rw[O0 (by omega)];exact hl.mono λ_ _ _=>he.rep
 ·refine⟨rfl,.box cs,by simp[Cx.new,upd],by simp[j4],λcs' e hne=>?_,λk xs gen hist frz e=>by cases e⟩;exact⟨_,hβ,by simp[aS],rfl,rfl⟩
def Cl (c:Cx)(k:K)(ys:List k.T)(cl:List Value):Prop:=
 cl.length=ys.length*k.size/\(∀v∈cl,one v=true)/\∀(i:Nat) (x:k.T),ys[i]?=some x->∃vs,RepT c.te c.w c.S k x vs/\∀(j:Nat) v,vs[j]?=some v->cl[i*k.size+j]?=some v
theorem vC {c:Cx}{w0:World}{M:MS}(hm:Mem w0 M c){d:Nat}(hd:c.hp d=none){k:K}{ys:List k.T}{cl:List Value}(hc:Cl c k ys cl){w':World}(hg:Grew c.w w'){arr:Array Value}{b:Nat}(hb0:c.w.heap.size<=b)(hbf:bD w' b arr)
  (harr:∀(j:Nat) v,cl[j]?=some v->arr[j]?=some v) {cap:Nat} (hcap:ys.length<=cap) (hcs:cap*k.size<=arr.size) {nx:Result Next} (hn:nx=.ok (.value (.slice (some ⟨b,0,none⟩) ys.length cap)) w'):
  aU w0 M c nx (.val false [.vw d 0]) [(d,.row k ys 0 [] false)]:=by
 have he:=vE (b:=b) (o:=.row k ys 0 [] false) hm hd hg;have hβ:(c.new w' d b (.row k ys 0 [] false)).β d=some b:=by simp[Cx.new,upd]
 have hlt:b<w'.heap.size:=by obtain⟨T,fz,h,_⟩:=hbf;exact bE h
 refine⟨_,c.new w' d b (.row k ys 0 [] false),hn,vD hm hd hg hb0 hlt ?_,he,by rw[bO,cC];rfl,.inl ⟨_,rfl,aB ?_⟩⟩
 ·simp only[RepO,hβ];refine⟨⟨arr,hbf.blk,Oa (Of _ hcap) hcs,λi x hx=>?_⟩,λ_=>⟨arr,hbf⟩,λh=>by cases h⟩;obtain⟨vs,h1,h2⟩:=hc.2.2 i x hx;exact⟨vs,RepT.mono he.stab he.sub h1,λj v hv=>harr _ _ (h2 j v hv)⟩
 ·refine⟨rfl,_,by simp[Cx.new,upd];rfl,λk' xs gen hist frz e=>?_⟩;cases e;refine⟨NG _,λ_=>?_,λh=>(h rfl).elim⟩;simp only[cz,hβ];exact⟨cap,arr,_,rfl,hcap,hbf.blk,by simp,λ_=>⟨by simp,by simpa using hcs⟩⟩
theorem Fh {c:Cx}{w0:World}{M:MS}(hm:Mem w0 M c){d:Nat}(hd:c.hp d=none)(k:K){nx:Result Next}(hn:nx=.ok (.value (.slice none 0 0)) c.w):
  aU w0 M c nx (.val false [.vw d 0]) [(d,.row k [] 0 [] false)]:=by
 have hβ:∀id,id≠d->(λj=>if j=d then none else c.β j) id=c.β id:=λid hi=>by simp[hi]
 have he:=Ext.name (c:=c) (o:=.row k [] 0 [] false) hd hβ;refine⟨_,{ c with β:=λj=>if j=d then none else c.β j,hp:=upd c.hp d (.row k [] 0 [] false) },hn,Mem.name hm hd hβ ?_ ?_,he,by rw[bO,cC],.inl ⟨_,rfl,aB ?_⟩⟩
 ·simp[RepO]
 ·intro b hb;simp at hb
 ·refine⟨rfl,_,by simp[upd];rfl,λk' xs gen hist frz e=>?_⟩;cases e;exact⟨NG _,λ_=>by simp[cz],λh=>(h rfl).elim⟩
theorem iE {hp:Nat->Option Obj}:∀{ids:List Nat} {u:Upd},frzU hp ids=some u->∀{id:Nat} {o:Obj},hget u id=some o->∃k xs gen hist frz,hp id=some (.row k xs gen hist frz)/\o=.row k xs gen hist true
 |[],u,h,id,o,ho=>by simp[frzU]at h;subst h;simp[hget]at ho
 |i::r,u,h,id,o,ho=>by
  simp only[frzU]at h;split at h
  ·rename_i k xs gen hist frz u' h1 h2;simp only[Nz]at h;subst h;simp only[hget]at ho;cases hb:Nat.beq i id with
   |true=>
    rw[hb]at ho;simp only[NH,Nz]at ho;have:=NB hb;subst this;exact⟨k,xs,gen,hist,frz,h1,ho.symm⟩
   |false=>rw[hb]at ho;exact iE h2 ho
  ·cases h
theorem IF {c:Cx}{w0:World}{M:MS}(hm:Mem w0 M c){id:Nat}{k:K}{xs:List k.T}{gen:Nat}{hist:List (List k.T)}{frz:Bool}(ho:c.hp id=some (.row k xs gen hist frz)):
  Turn w0 M c id c.w (λb=>c.S b\/Live c id b) (c.β id) (.row k xs gen hist true):=by
 have hr:=hm.obj id _ ho;have hfz:∀b,c.β id=some b->c.S b\/Live c id b:=by
  intro b hb;cases frz with
  |false=>exact .inr ⟨hb,_,ho,rfl⟩
  |true=>
   have hr2:=hr;unfold RepO at hr2;simp only[hb]at hr2;exact .inl (hr2.2.2 trivial)
 refine⟨rfl,rfl,rfl,NG _,λ_ _ _=>rfl,λb hb=>.inl hb,λb hb=>?_,⟨_,ho⟩,?_,λb hb hl=>by simp[Obj.live]at hl,λs v hs h=>?_⟩
 ·rcases hb with hb|hb
  ·exact⟨hm.below b hb,.inl hb⟩
  ·exact⟨(hm.live id b hb).1,.inr hb⟩
 ·have hβ:(c.turn id c.w (λb=>c.S b\/Live c id b) (c.β id) (.row k xs gen hist true)).β id=c.β id:=by simp[Cx.turn]
  unfold RepO at hr ⊢;simp only[hβ];cases hb:c.β id with
  |none=>simp only[hb]at hr;exact hr
  |some b=>
   simp only[hb]at hr;obtain⟨⟨arr,q1,q2,q3⟩,q4,q5⟩:=hr;refine⟨⟨arr,q1,q2,λi x hx=>?_⟩,λh=>by(cases h),λ_=>hfz b hb⟩;obtain⟨vs,p1,p2⟩:=q3 i x hx;exact⟨vs,RepT.mono (λ_ _=>rfl) (λ_ h=>.inl h) p1,p2⟩
 ·have hβ:(c.turn id c.w (λb=>c.S b\/Live c id b) (c.β id) (.row k xs gen hist true)).β id=c.β id:=by simp[Cx.turn]
  have hhp:(c.turn id c.w (λb=>c.S b\/Live c id b) (c.β id) (.row k xs gen hist true)).hp id=some (.row k xs gen hist true):=by simp[Cx.turn,upd]
  cases s<;>simp only[S.ids,NY,OV,reduceCtorEq]at hs
  case vw j g=>
   subst hs;obtain⟨h0,o,h1,h2⟩:=h;rw[ho]at h1;cases h1;refine⟨h0,_,hhp,λk' xs' gen' hist' frz' e=>?_⟩;cases e;obtain⟨p1,p2,p3⟩:=h2 _ _ _ _ _ rfl;refine⟨p1,λhg=>cz.of hβ (λb _ arr hb=>⟨arr,hb,NG _⟩) (p2 hg),λhg ys hy=>?_⟩;exact oW.of (c:=c) (c':=c.turn j c.w (λb=>c.S b\/Live c j b) (c.β j) (.row k xs gen hist true)) (NG _) rfl (λ_ _=>rfl) (λ_ h=>.inl h) hβ (λ_ _=>rfl) (p3 hg ys hy)
  case pv j g off len=>
   subst hs;obtain⟨h0,o,h1,h2⟩:=h;rw[ho]at h1;cases h1;refine⟨h0,_,hhp,λk' xs' gen' hist' frz' e=>?_⟩;cases e;obtain⟨p1,p2⟩:=h2 _ _ _ _ _ rfl;exact⟨p1,λhg=>cz.of hβ (λb _ arr hb=>⟨arr,hb,NG _⟩) (p2 hg)⟩
  case mp j=>subst hs;exact⟨h.1,_,hhp,λe=>by cases e⟩
  case rp t i off=>exact h
  case ov j g i=>subst hs;exact⟨h.1,_,hhp,λt off m k xs g' p e=>by cases e⟩
  case oe j g i q p=>subst hs;obtain⟨h0,o,h1,hpi,h2⟩:=h;exact⟨h0,_,hhp,hpi,λt off m e xs g' q' he=>by cases he⟩
  case bm f j=>subst hs;obtain⟨p,hv,o,h1,h2⟩:=h;exact⟨p,hv,_,hhp,λcs e=>by cases e⟩
  case ptr j g i p=>
   subst hs;obtain⟨h0,o,h1,hp,h2,h3⟩:=h;rw[ho]at h1;cases h1;refine⟨h0,_,hhp,hp,λcs e=>by(cases e),λk' xs' gen' hist' frz' e=>?_⟩;cases e;rw[hβ];exact h3 _ _ _ _ _ rfl
theorem yl {w0:World}{M:MS}{c:Cx}(hm:Mem w0 M c){hp:Nat->Option Obj}(hh:∀id o,hp id=some o->c.hp id=some o):∀{ids:List Nat} {u:Upd},frzU hp ids=some u ->
  ∃c1,c1.w=c.w/\c1.β=c.β/\Mem w0 M c1/\Ext c c1/\c1.hp=hpU u c.hp/\(∀id∈ids,∀b,c.β id=some b->c1.S b)
 |[],u,h=>by
  simp[frzU]at h;subst h;exact⟨c,rfl,rfl,hm,Ext.refl c,rfl,by simp⟩
 |i::r,u,h=>by
  simp only[frzU]at h;split at h
  ·rename_i k xs gen hist frz u' h1 h2;simp only[Nz]at h;subst h;obtain⟨c1,e1,e2,m1,x1,p1,q1⟩:=yl hm hh h2;have:∃frz',c1.hp i=some (.row k xs gen hist frz'):=by
    rw[p1];unfold hpU;split
    ·rename_i o ho;obtain⟨k',xs',gen',hist',frz',t1,rfl⟩:=iE h2 ho;rw[h1]at t1;cases t1;exact⟨true,rfl⟩
    ·exact⟨frz,hh _ _ h1⟩
   obtain⟨frz',ho⟩:=this;have ht:=IF m1 ho;refine⟨c1.turn i c1.w (λb=>c1.S b\/Live c1 i b) (c1.β i) (.row k xs gen hist true),e1,?_,ht.mem m1,x1.trans (ht.ext m1),?_,?_⟩
   ·funext j;simp only[Cx.turn];by_cases hj:j=i
    ·subst hj;simp[e2]
    ·simp[hj,e2]
   ·rw[bO,<- p1];rfl
   ·intro id hid b hb;rcases NO.1 hid with rfl|hid
    ·cases frz' with
     |false=>exact .inr ⟨by rw[e2];exact hb,_,ho,rfl⟩
     |true=>
      have:=m1.obj id _ ho;unfold RepO at this;simp only[e2,hb]at this;exact .inl (this.2.2 trivial)
    ·exact .inl (q1 id hid b hb)
  ·cases h
section
variable {P:Program} {A:Ann} {fid:Nat} {w0:World} {M:MS} {c:Cx} {ρ:Operand->AV} {r:Operand->Value} {hp:Nat->Option Obj} {o:Oper} {v:AV} {u:Upd}
theorem yQ (hm:Mem w0 M c)(hf:∀d,o.dst=some d->hp d=none->c.hp d=none)(hr:∀x,RepV c (ρ x) (r x)){x:Operand}(ho:o.op=.move x\/o.op=.assign x)(h:core P A fid ρ hp o=.ok true v u):
  aU w0 M c ((execOp r o).run P c.w) v u:=by
 have hx:=hr x;have e1:(execOp r o).run P c.w=.ok (.value (r x)) c.w:=by rcases ho with ho|ho<;>simp only[execOp,ho]<;>rfl
 have h':(match ρ x with
  |.val false [.nilS]=>bif(match o.dst with|some d=>(A.nils fid).contains d|none=>false)then
    (match oO P o.type with
    |some e=>(match kd P e with|some k=>Out.ok true (.val false [.sl k []]) []|none=>.bad)
    |none=>.bad)else bif(match o.dst with|some d=>(A.prom fid).contains d|none=>false)then
    (match fresh hp o.dst,oO P o.type with
    |some d,some e=>(match kd P e with|some k=>Out.ok true (.val false [.vw d 0]) [(d,.row k [] 0 [] false)]|none=>.bad)
    |_,_=>.bad)else .ok true (.val false [.nilS]) []
  |v=>.ok true v [])=.ok true v u:=by rcases ho with ho|ho<;>(simp only[core,ho]at h;exact h)
 split at h'
 ·rename_i ex;rw[ex]at hx;have hn:r x=.slice none 0 0:=aT hx;cases hnb:(match o.dst with|some d=>(A.nils fid).contains d|none=>false)with
  |true=>
   rw[hnb]at h';simp only[NH]at h';split at h'
   ·split at h'
    ·rename_i k hk;simp only[Out.ok.injEq,Oh]at h';obtain⟨rfl,rfl⟩:=h';exact .quiet hm e1 ⟨_,rfl,by rw[hn];exact pR _ _ _ _⟩
    ·cases h'
   ·cases h'
  |false=>
  rw[hnb]at h';simp only[NS]at h';cases hb:(match o.dst with|some d=>(A.prom fid).contains d|none=>false)with
  |false=>
   rw[hb]at h';simp only[NS,Out.ok.injEq,Oh]at h';obtain⟨rfl,rfl⟩:=h';exact .quiet hm e1 hx
  |true=>
   rw[hb]at h';simp only[NH]at h';split at h'
   ·rename_i d e hfr _;split at h'
    ·rename_i k hk;simp only[Out.ok.injEq,Oh]at h';obtain⟨rfl,rfl⟩:=h';obtain⟨hd,hd2⟩:=cK hfr;rw[hn]at e1;exact Fh hm (hf d hd hd2) k e1
    ·cases h'
   ·cases h'
 ·simp only[Out.ok.injEq,Oh]at h';obtain⟨rfl,rfl⟩:=h';exact .quiet hm e1 hx
theorem D3 (hm:Mem w0 M c)(hf:∀d,o.dst=some d->hp d=none->c.hp d=none){e:TypeId}(ho:o.op=.alloc e)(h:core P A fid ρ hp o=.ok true v u):
  aU w0 M c ((execOp r o).run P c.w) v u:=by
 simp only[core,ho]at h;simp only[execOp,ho];split at h
 ·rename_i z d hz hfr;simp only[Out.ok.injEq,Oh]at h;obtain⟨rfl,rfl⟩:=h;obtain⟨hd,hd2⟩:=cK hfr;obtain⟨zv,h1,h2,h3⟩:=cY hz c.w;refine Fi hm (hf d hd hd2) e (vs:=zv.cells) (by rw[h2];exact lu c z h3) (aM ?_);unfold Instr.alloc;rw[run_ok h1];simp only[];rw[run_ok (nR e zv)];rfl
 ·cases h
theorem Fu {t:Nat}{cs:List S}{ds:List (Nat×Mode×K)}{cb:Bool}(h:xy hp t cs ds=.ok cb v u):False:=by
 unfold xy at h;split at h
 ·revert h;generalize dupF _=q;cases q with
  |false=>simp
  |true=>
   intro h;simp only[NH]at h;split at h<;>cases h
 ·cases h
theorem I3 (hm:Mem w0 M c)(hf:∀d,o.dst=some d->hp d=none->c.hp d=none)(hr:∀x,RepV c (ρ x) (r x)){e:TypeId}{x:Operand}(ho:o.op=.box e x)(h:core P A fid ρ hp o=.ok true v u):
  aU w0 M c ((execOp r o).run P c.w) v u:=by
 simp only[core,ho]at h;simp only[execOp,ho];have hx:=hr x;split at h
 rotate_left
 ·split at h
  ·exact(Fu h).elim
  ·cases h
 split at h
 ·rename_i g cs d ex hfr;simp only[Out.ok.injEq,Oh]at h;obtain⟨rfl,rfl⟩:=h;obtain⟨hd,hd2⟩:=cK hfr;rw[ex]at hx;refine Fi hm (hf d hd hd2) e (vs:=(r x).cells) (bZ hx) (aM ?_);unfold Instr.box;rw[run_ok (nR e (r x))];rfl
 ·cases h
end
end Go.Eng
namespace Go.Eng
open Go.RowKit
theorem vg {α:Type}:∀(e:Sem α),Sem.bind e Sem.pure=e:=by
 intro e
 induction e with
 |pure a=>rfl
 |load m a k ih=>simp only[Sem.bind];congr 1;funext x;exact ih x
 |store m a v k ih=>simp only[Sem.bind,ih]
 |new o k ih=>simp only[Sem.bind];congr 1;funext x;exact ih x
 |shape r k ih=>simp only[Sem.bind];congr 1;funext x;exact ih x
 |freeze a n k ih=>simp only[Sem.bind,ih]
 |frozen a k ih=>simp only[Sem.bind];congr 1;funext x;exact ih x
 |getObj r k ih=>simp only[Sem.bind];congr 1;funext x;exact ih x
 |setObj r o k ih=>simp only[Sem.bind,ih]
 |choose q k ih=>simp only[Sem.bind];congr 1;funext x;exact ih x
 |sys c k ih=>simp only[Sem.bind];congr 1;funext x;exact ih x
 |program k ih=>simp only[Sem.bind];congr 1;funext x;exact ih x
 |mark m k ih=>simp only[Sem.bind,ih]
 |halt h=>rfl
theorem ED {α β γ:Type}:∀(e:Sem α)(f:α->Sem β)(g:β->Sem γ),Sem.bind (Sem.bind e f) g=Sem.bind e (λa=>Sem.bind (f a) g):=by
 intro e f g
 induction e with
 |pure a=>rfl
 |load m a k ih=>simp only[Sem.bind];congr 1;funext x;exact ih x
 |store m a v k ih=>simp only[Sem.bind,ih]
 |new o k ih=>simp only[Sem.bind];congr 1;funext x;exact ih x
 |shape r k ih=>simp only[Sem.bind];congr 1;funext x;exact ih x
 |freeze a n k ih=>simp only[Sem.bind,ih]
 |frozen a k ih=>simp only[Sem.bind];congr 1;funext x;exact ih x
 |getObj r k ih=>simp only[Sem.bind];congr 1;funext x;exact ih x
 |setObj r o k ih=>simp only[Sem.bind,ih]
 |choose q k ih=>simp only[Sem.bind];congr 1;funext x;exact ih x
 |sys c k ih=>simp only[Sem.bind];congr 1;funext x;exact ih x
 |program k ih=>simp only[Sem.bind];congr 1;funext x;exact ih x
 |mark m k ih=>simp only[Sem.bind,ih]
 |halt h=>rfl
theorem JC : LawfulMonad Sem := LawfulMonad.mk' (m := Sem) (id_map := fun x => vg x) (pure_bind := fun _ _ => rfl) (bind_assoc := fun x f g => ED x f g)
theorem o7 {α β:Type}{P:Program}{w:World}{f:α->Sem β}{g:α->β}:∀(l:List α),(∀a∈l,(f a).run P w=.ok (g a) w)->(l.mapM f).run P w=.ok (l.map g) w
 |[],_=>rfl
 |a::r,h=>by
  haveI:=JC
  rw[List.mapM_cons,run_ok (h a (by simp)),run_ok (o7 r (λb hb=>h b (by simp[hb])))];rfl
theorem Bq {α β:Type}{P:Program}{w:World}{f:α->Sem β}{g:α->β}(arr:Array α)(h:∀a∈arr.toList,(f a).run P w=.ok (g a) w):(arr.mapM f).run P w=.ok (arr.map g) w:=by
 haveI:=JC
 rw[Array.mapM_eq_mapM_toList];show(Sem.bind (arr.toList.mapM f) (λx=>Sem.pure x.toArray)).run P w=_;rw[run_bind,o7 arr.toList h];show Result.ok _ _=_;congr 1;apply O5;simp
theorem tG (vs:List Value)(arr:Array Value)(o:Nat)(h:o+vs.length<=arr.size):(bC arr o vs).toList=arr.toList.take o++vs++arr.toList.drop (o+vs.length):=by
 apply PR;intro j;rw[NR,cF vs arr o j h];have ht:(arr.toList.take o).length=o:=by simp;omega
 by_cases h1:j<o
 ·rw[ND (by omega),N7,NZ (by omega),Ol,NI h1,NR]
 ·rw[N7,N6 (by omega),ht];by_cases h2:j<o+vs.length
  ·rw[NI ⟨by omega,h2⟩,NZ (by omega)]
  ·rw[ND (by omega),N6 (by omega),OQ,NR];congr 1;omega
theorem LR.wr {α β:Type}{R:α->β->Prop}{X new X':List α}{vx vn:List β}{o:Nat}(h:LR R X vx)(hn:LR R new vn)(e:X'=X.take o++new++X.drop (o+new.length)):LR R X' (vx.take o++vn++vx.drop (o+vn.length)):=by
 rw[e,<- hn.length];exact((h.take o).append hn).append (h.drop _)
theorem Bc (off:Nat):∀(l:List Value)(k:Nat)(arr:Array Value),(l.zipIdx k).foldl (λcs p=>cs.setIfInBounds (off+p.2) p.1) arr=bC arr (off+k) l
 |[],_,_=>rfl
 |v::r,k,arr=>by
  simp only[List.zipIdx_cons,Pf,bC];exact Bc off r (k+1) _
theorem wm {c:Cx}{ρ:Operand->AV}{r:Operand->Value}(hr:∀x,RepV c (ρ x) (r x)){size place:Nat->Option (Nat×Nat)}(hp:∀i p,size i=some p->place i=some p):
  ∀(parts:List (Nat×Operand)) (cs cs':List S) (arr:Array Value),Av size ρ parts cs=some cs'->LR (RepS c) cs arr.toList ->
   ∃arr',Instr.fill place arr (parts.map λ(i,x)=>(i,r x))=some arr'/\LR (RepS c) cs' arr'.toList/\arr'.size=arr.size
 |[],cs,cs',arr,h,hl=>by
  simp[Av]at h;subst h;exact⟨arr,rfl,hl,rfl⟩
 |(i,x)::ps,cs,cs',arr,h,hl=>by
  simp only[Av]at h;have hx:=hr x;split at h
  ·rename_i off sz g new hs ex;rw[ex]at hx;cases hb:Nat.beq new.length sz with
   |false=>rw[hb]at h;cases h
   |true=>
    rw[hb]at h;simp only[NH]at h;have hn:=NB hb;split at h
    ·rename_i cs2 h2;obtain⟨w1,w2⟩:=qs _ _ _ _ h2 (by intro s hs;simp at hs;subst hs;trivial);have e0:aS [jY.fld off]=off:=by simp[aS,js]
     rw[e0]at w1 w2;have hc:=bZ hx;have hlen:=hc.length;have hlen2:=hl.length;have hsz:off+(r x).cells.toList.length<=arr.size:=by simp at hlen2;omega
     have hl2:LR (RepS c) cs2 (bC arr off (r x).cells.toList).toList:=by
      rw[tG _ _ _ hsz];exact hl.wr hc w2
     obtain⟨arr',q1,q2,q3⟩:=wm hr hp ps cs2 cs' _ h hl2;refine⟨arr',?_,q2,by rw[q3,b9]⟩;simp only[NV,Instr.fill];rw[hp i _ hs];simp only[];have hsize:(r x).cells.size=sz:=by rw[<- hn,hlen];simp
     rw[ND (by simp at hsz;simp[hsize];omega)];have ez:((r x).cells.zipIdx.foldl (λcs (p:Value×Nat)=>cs.setIfInBounds (off+p.2) p.1) arr)=bC arr off (r x).cells.toList:=by
      rw[<- Qw,Array.toList_zipIdx];exact Bc off _ 0 arr
     rw[<- q1];congr 1
    ·cases h
  ·cases h
section
variable {P:Program} {A:Ann} {fid:Nat} {w0:World} {M:MS} {c:Cx} {ρ:Operand->AV} {r:Operand->Value} {hp:Nat->Option Obj} {o:Oper} {v:AV} {u:Upd}
theorem D1 (hm:Mem w0 M c)(hr:∀x,RepV c (ρ x) (r x)){t:TypeId}{parts:Array (Nat×Operand)}(ho:o.op=.build t parts)(h:core P A fid ρ hp o=.ok true v u):
  aU w0 M c ((execOp r o).run P c.w) v u:=by
 simp only[core,ho]at h;simp only[execOp,ho];split at h
 ·rename_i z fs hz hu;cases hall:fs.toList.all (λf=>(dw P f.type).isSome)with
  |false=>rw[hall]at h;cases h
  |true=>
   rw[hall]at h;simp only[NH]at h;split at h
   ·rename_i cs hcs;simp only[Out.ok.injEq,Oh]at h;obtain⟨rfl,rfl⟩:=h;obtain⟨zv,h1,h2,h3⟩:=cY hz c.w;have hplaces:(fs.mapM λf=>(do pure (f.offset,<- sizeOf f.type):Sem (Nat×Nat))).run P c.w=.ok (fs.map λf=>(f.offset,(dw P f.type).getD 0)) c.w:=by
     refine Bq fs λf hf=>?_
     have:=OW.1 hall f hf;cases hs:dw P f.type with
     |none=>rw[hs]at this;cases this
     |some n=>rw[run_ok (bh hs c.w)];rfl
    obtain⟨arr',q1,q2,_⟩:=wm (c:=c) hr (size:=fieldAt P fs) (place:=λi=>(fs.map λf=>(f.offset,(dw P f.type).getD 0))[i]?) (λi p hi=>by
     obtain⟨off,sz⟩:=p;obtain⟨fl,t1,t2,t3⟩:=pq hi;simp[t1,t2,t3]) parts.toList _ cs zv.cells hcs (by rw[h2];exact lu c z h3)
    refine .quiet hm (aM (v:=.agg arr') ?_) ⟨arr',rfl,q2⟩;unfold Instr.build;rw[run_ok h1,run_ok (run_underlying hu c.w)];simp only[];rw[run_ok hplaces];have:Instr.fill (λi=>(fs.map λf=>(f.offset,(dw P f.type).getD 0))[i]?) zv.cells (parts.map λ(i,x)=>(i,r x)).toList=some arr':=by
     rw[OO];exact q1
    simp only[this];rfl
   ·cases h
 ·rename_i z n e hz hu;split at h
  ·rename_i s hs;split at h
   ·rename_i cs hcs;simp only[Out.ok.injEq,Oh]at h;obtain⟨rfl,rfl⟩:=h;obtain⟨zv,h1,h2,h3⟩:=cY hz c.w;obtain⟨arr',q1,q2,_⟩:=wm (c:=c) hr (size:=λi=>some (i*s,s)) (place:=λi=>some (i*s,s)) (λi p hi=>hi) parts.toList _ cs zv.cells hcs (by rw[h2];exact lu c z h3);refine .quiet hm (aM (v:=.agg arr') ?_) ⟨arr',rfl,q2⟩;unfold Instr.build;rw[run_ok h1,run_ok (run_underlying hu c.w)];simp only[];rw[run_ok (bh hs c.w)];have:Instr.fill (λi=>some (i*s,s)) zv.cells (parts.map λ(i,x)=>(i,r x)).toList=some arr':=by
     rw[OO];exact q1
    simp only[this];rfl
   ·cases h
  ·cases h
 ·cases h
theorem yq {α:Type} [Inhabited α] (z:List α)(n:Nat):((Array.range (n*z.length)).map λi=>z.toArray[i%z.toArray.size]!).toList=(List.replicate n z).flatten:=by
 apply PR;intro j;simp only[OO,Qx,Ot,QG];by_cases hj:j<n*z.length
 ·rw[Q2 hj];simp only[OS]
  induction n generalizing j with
  |zero=>simp at hj
  |succ n ih=>
   rw[Qq,Pv];have hz:0<z.length:=by
    rcases P2 z.length with q|q
    ·rw[q]at hj;simp at hj
    ·exact q
   by_cases h1:j<z.length
   ·rw[NZ h1,Nat.mod_eq_of_lt h1,NT h1];simp[h1]
   ·rw[N6 (by omega)];have e:=ih (j-z.length) (by rw[Og]at hj;omega);rw[<- e,Nat.mod_eq_sub_mod (by omega)]
 ·rw[Pc (by simp;omega)];rw[Pc];rfl;simp;omega
theorem EZ {c c1:Cx}{w0:World}{M:MS}(hm:Mem w0 M c)(hw:c1.w=c.w)(he:Ext c c1){hp:Nat->Option Obj}(hh:∀id o,hp id=some o->c.hp id=some o){k:K}:
  ∀(n:Nat) (cs:List S) (vs:List Value) (xs:List k.T),(∀id∈ba cs,∀b,c.β id=some b->c1.S b)->LR (RepS c) cs vs->reiN hp k n cs=some xs->Cl c1 k xs vs/\xs.length=n
 |0,cs,vs,xs,_,hl,h=>by
  match cs,vs,hl,h with
  |[],[],_,h=>
   simp[reiN]at h;subst h;exact⟨⟨by simp,by simp,by simp⟩,rfl⟩
  |_::_,_,_,h=>simp[reiN]at h
 |n+1,cs,vs,xs,hi,hl,h=>by
  simp only[reiN]at h;split at h
  ·rename_i x rest hx;split at h
   ·rename_i l hl2;simp only[Nz]at h;subst h;obtain⟨v1,v2,rfl,p1,p2,p3⟩:=EW hm hh he.sub k cs vs x rest hi hl hx;obtain⟨⟨q1,q2,q3⟩,q4⟩:=EZ hm hw he hh n rest v2 l (λid hid=>hi id (p3 id hid)) p2 hl2;have hlen:=RepT.len p1;have p1':RepT c1.te c1.w c1.S k x v1:=by rw[he.te,hw];exact p1
    refine⟨⟨by simp[q1,hlen,Og];omega,?_,?_⟩,by simp[q4]⟩
    ·intro v hv;exact LR.ones hl v hv
    ·intro i y hy;cases i with
     |zero=>
      simp at hy;subst hy;refine⟨v1,p1',λj v hv=>?_⟩;have hj:j<v1.length:=by
       obtain⟨hj,_⟩:=NJ.1 hv;exact hj
      rw[P3,Ox,NZ hj];exact hv
     |succ i=>
      obtain⟨vs',t1,t2⟩:=q3 i y (by simpa using hy);refine⟨vs',t1,λj v hv=>?_⟩;rw[N6 (by rw[hlen,Og];omega)];have:=t2 j v hv;rw[hlen,show(i+1)*k.size+j-k.size=i*k.size+j by rw[Og];omega];exact this
   ·cases h
  ·cases h
theorem aU.after {w0:World}{M:MS}{c c1:Cx}{nx:Result Next}{v:AV}{u u1:Upd}(he:Ext c c1)(hp:c1.hp=hpU u1 c.hp)(h:aU w0 M c1 nx v u)(hu:∀id,hpU u (hpU u1 c.hp) id=hpU (u++u1) c.hp id):aU w0 M c nx v (u++u1):=by
 obtain⟨nv,c2,h1,h2,h3,h4,h5⟩:=h;exact⟨nv,c2,h1,h2,he.trans h3,by rw[h4,hp];funext id;exact hu id,h5⟩
theorem cD (u u1:Upd)(id:Nat):hget (u++u1) id=match hget u id with|some o=>some o|none=>hget u1 id:=by
 induction u with
 |nil=>rfl
 |cons p r ih=>
  simp only[N4,hget];cases Nat.beq p.1 id<;>simp[ih]
theorem iX (u u1:Upd)(hp:Nat->Option Obj)(id:Nat):hpU u (hpU u1 hp) id=hpU (u++u1) hp id:=by
 unfold hpU;rw[cD];cases hget u id<;>simp
theorem sB (hm:Mem w0 M c)(hh:∀id o,hp id=some o->c.hp id=some o)(hf:∀d,o.dst=some d->hp d=none->c.hp d=none)(hr:∀x,RepV c (ρ x) (r x)){t:TypeId}{n:Nat}{parts:Array (Nat×Operand)}(ho:o.op=.buildSlice t n parts)(h:core P A fid ρ hp o=.ok true v u):
  aU w0 M c ((execOp r o).run P c.w) v u:=by
 simp only[core,ho]at h;simp only[execOp,ho];split at h
 ·rename_i e d hel hfr;obtain⟨hd,hd2⟩:=cK hfr;have hu:P.underlying t=some (.slice e):=by
   unfold oO at hel;split at hel
   ·rename_i e' he';simp only[Nz]at hel;subst hel;exact he'
   ·cases hel
  split at h
  ·rename_i k z s hk hz hs;cases hb:(Nat.ble (n*s) 16777216&&Nat.beq z.length s&&Nat.beq s k.size)with
   |false=>rw[hb]at h;cases h
   |true=>
    rw[hb]at h;simp only[NH]at h;simp only[NM]at hb;have hlim:=N3 hb.1.1;have hzl:=NB hb.1.2;have hsk:=NB hb.2;split at h
    ·rename_i cs hcs;split at h
     ·rename_i xs uf hxs huf;simp only[Out.ok.injEq,Oh]at h;obtain⟨rfl,rfl⟩:=h;obtain⟨zv,h1,h2,h3⟩:=cY hz c.w;have hzarr:zv.cells=z.toArray:=by apply O5;simp[h2]
      have hflat:∀l:List (List Value),(∀x∈l,x.all one=true)->l.flatten.all one=true:=by
       intro l hl;rw[List.all_flatten];exact OW.2 hl
      have hinit:LR (RepS c) (List.replicate n (z.map ofV)).flatten ((Array.range (n*s)).map (λi=>zv.cells[i%zv.cells.size]!)).toList:=by
       rw[<- hzl,hzarr,yq];rw[show(List.replicate n (z.map ofV)).flatten=(List.replicate n z).flatten.map ofV by simp[List.map_flatten,List.map_replicate]];exact lu c _ (hflat _ λx hx=>by rw[(Ra.1 hx).2];exact h3)
      obtain⟨arr',q1,q2,q3⟩:=wm (c:=c) hr (size:=λi=>some (i*s,s)) (place:=λi=>some (i*s,s)) (λi p hi=>hi) parts.toList _ cs _ hcs hinit;obtain⟨c1,e1,e2,m1,x1,p1,p2⟩:=yl hm hh huf;obtain⟨hcl,hln⟩:=EZ hm e1 x1 hh n cs arr'.toList xs p2 q2 hxs;have hd1:c1.hp d=none:=by
       rw[p1];unfold hpU;split
       ·rename_i o' ho';obtain⟨k',xs',gen',hist',frz',t1,_⟩:=iE huf ho';rw[hd2]at t1;cases t1
       ·exact hf d hd hd2
      have hrun:(do pure (Next.value (<- Instr.buildSlice t n (parts.map λ(i,x)=>(i,r x)))):Sem Next).run P c.w=.ok (.value (.slice (some ⟨c1.w.heap.size,0,none⟩) xs.length n)) (bY c1.w (.cells arr' e (0,0))):=by
       refine aM ?_;rw[e1,hln];unfold Instr.buildSlice;rw[run_ok (run_underlying hu c.w)];simp only[];rw[run_ok (bh hs c.w)];rw[ND (by omega)];have hfill:Instr.fill (λi=>some (i*s,s)) ((Array.range (n*s)).map (λi=>zv.cells[i%zv.cells.size]!)) (parts.map λ(i,x)=>(i,r x)).toList=some arr':=by
        rw[OO];exact q1
       by_cases h0:n*s=0
       ·rw[NI h0];have:Instr.fill (λi=>some (i*s,s)) ((Array.range (n*s)).map (λi=>(#[]:Array Value)[i%(#[]:Array Value).size]!)) (parts.map λ(i,x)=>(i,r x)).toList=some arr':=by
         have e0:∀f:Nat->Value,(Array.range 0).map f=#[]:=λf=>O5 (by simp[Qx])
         rw[<- hfill,h0,e0,e0]
        show((pure (#[]:Array Value):Sem (Array Value)) >>= _).run P c.w=_;rw[run_pb];simp only[this];rw[run_ok (fY e arr')];rfl
       ·rw[ND h0];rw[run_ok h1,run_pb];simp only[hfill];rw[run_ok (fY e arr')];rfl
      have hstep:=vC m1 hd1 hcl (cI c1.w (.cells arr' e (0,0))) (NG _) (cB c1.w arr' e) (λj v hv=>by rw[<- NR];exact hv) (cap:=n) (by omega)
       (by have:=hcl.1;simp at this;rw[this,hln];exact NG _) hrun
      exact hstep.after x1 p1 (λid=>iX _ _ _ id)
     ·cases h
    ·cases h
  ·cases h
 ·cases h
end
end Go.Eng
namespace Go.Eng
open Go.RowKit
theorem ln:∀(k:K),0<k.size
 |.int _| .bool| .str| .err| .fn| .ref _| .slice _=>by simp[K.size]
 |.prod a b=>by have:=ln a;simp[K.size];omega
 |.strct a=>ln a
def fW (w:World):World:={ w with drawn:=w.drawn+1 }
theorem tR {P:Program}{w:World}{need old:Nat}{e:TypeId}:∃cap,need<=cap/\(choose (.appendCap need old e)).run P w=.ok cap (fW w):=by
 refine⟨(Question.appendCap need old e).cut (w.tape w.drawn (.appendCap need old e)),by simp[Question.cut],?_⟩;simp[choose,Sem.run,Question.forced,fW]
theorem eo (w:World):Grew w (fW w):=⟨rfl,rfl,rfl,NG _,λ_ _=>rfl⟩
theorem qx {P:Program}{w:World}(n:Nat):(askRoom n).run P w=.ok () w:=by
 unfold askRoom;split<;>rfl
theorem oN {P:Program}{t e:TypeId}(h:oO P t=some e):P.underlying t=some (.slice e):=by
 unfold oO at h;split at h
 ·rename_i e' he';simp only[Nz]at h;subst h;exact he'
 ·cases h
theorem gV {P:Program}{e:TypeId}{k:K}(h:fF P e k=true):∃i z,P.info? e=some i/\dw P e=some k.size/\uW P e=some z/\z.length=k.size/\iG P e=i.bytes/\i.bytes<=1000000/\1<=i.bytes:=by
 unfold fF at h;split at h
 ·rename_i s z hs hz;simp only[NM]at h;obtain⟨i,hi,_⟩:=tL hs;have hb:iG P e=i.bytes:=by unfold iG;rw[hi]
  have h1:=NB h.1.1.1;have h2:=NB h.1.1.2;have h3:=N3 h.1.2;have h4:=N3 h.2;rw[hb]at h3 h4;exact⟨i,z,hi,by rw[hs,h1],hz,h2,hb,h3,h4⟩
 ·cases h
theorem CV (c:Cx)(s:ByteArray):Cl c (.int .u8) (bytesOf s) (s.data.toList.map λb=>Value.int .u8 b.toNat):=by
 refine⟨by simp[bytesOf,K.size],λv hv=>?_,λi x hx=>?_⟩
 ·obtain⟨b,_,rfl⟩:=N9.1 hv;rfl
 ·rw[sH]at hx;cases hb:s.data.toList[i]? with
  |none=>rw[hb]at hx;cases hx
  |some b=>
   rw[hb]at hx;simp at hx;subst hx;refine⟨[.int .u8 b.toNat],⟨rfl,by have:=b.toNat_lt;simp[okI,okB];omega⟩,λj v hv=>?_⟩;cases j with
   |zero=>simp at hv;subst hv;simp only[K.size,Rk,Pz,Ot,hb];rfl
   |succ j=>simp at hv
def jQ (w:World)(b n:Nat):World:=w.freeze { block:=b,off:=n } 1
section
variable {P:Program} {A:Ann} {fid:Nat} {w0:World} {M:MS} {c:Cx} {ρ:Operand->AV} {r:Operand->Value} {hp:Nat->Option Obj} {o:Oper} {v:AV} {u:Upd}
theorem yT (hm:Mem w0 M c)(hh:∀id o,hp id=some o->c.hp id=some o)(hf:∀d,o.dst=some d->hp d=none->c.hp d=none)(hr:∀x,RepV c (ρ x) (r x)){st dt:TypeId}{x:Operand}(ho:o.op=.convert st dt x)(hs2:∀id g e0 e,¬ (slot x ρ=some (.vw id g)/\P.underlying st=some (.slice e0)/\P.underlying dt=some (.slice e)))(h:core P A fid ρ hp o=.ok true v u):
  aU w0 M c ((execOp r o).run P c.w) v u:=by
 by_cases hs:∃s e,slot x ρ=some (.str s)/\P.underlying dt=some (.slice e)
 ·obtain⟨s,e,hx,hdu⟩:=hs;simp only[core,ho,hx,hdu]at h;simp only[execOp,ho];split at h
  ·rename_i heq;cases heq
  ·rename_i heq;cases heq
  ·rename_i s' td e' heq1 hsu heq2;cases heq1;cases heq2;split at h
   ·rename_i d heu hfr;simp only[Out.ok.injEq,N0]at h;obtain⟨_,rfl,rfl⟩:=h;obtain⟨hd,hd2⟩:=cK hfr;obtain⟨sb,e1,rfl⟩:=aF hr hx;obtain⟨cap,hcap,hch⟩:=tR (P:=P) (w:=c.w) (need:=sb.size) (old:=0) (e:=e)
    let arr:Array Value:=sb.data.map (λb=>Value.int .u8 b.toNat)++Array.replicate (cap-sb.size) (.int .u8 0)
    have hsz:arr.size=cap:=by
     have:sb.data.size=sb.size:=rfl;simp[arr];omega
    let w1:=bY (fW c.w) (.cells arr e (0,0))
    have hw1:w1.heap.size=c.w.heap.size+1:=by simp[w1,bY,fW]
    have hhere:w1.heap[c.w.heap.size]?=some (.cells arr e (0,0)):=mH (fW c.w) _;have hgr:Grew c.w (jQ w1 c.w.heap.size cap):=by
     have g1:Grew c.w w1:=(eo c.w).trans (cI _ _);refine⟨g1.1,g1.2.1,g1.2.2.1,by simp[jQ,World.freeze,hw1],λb hb=>?_⟩;have:=g1.2.2.2.2 b hb;rw[<- this];unfold jQ World.freeze;rw[ND (by decide)];simp only[Pr];rw[ND (by show ¬ (c.w.heap.size=b);omega)]
    have hbf:bD (jQ w1 c.w.heap.size cap) c.w.heap.size arr:=by
     refine⟨e,(cap,cap+1),?_,λo ho=>(by show ¬ (cap<=o/\o<cap+1);omega),Rl _⟩;unfold jQ World.freeze;rw[ND (by decide)];simp only[Pr];rw[NI trivial];rw[hhere];rfl
    have hrun:(do pure (Next.value (<- convert st dt (r x))):Sem Next).run P c.w=.ok (.value (.slice (some ⟨c.w.heap.size,0,none⟩) (bytesOf sb).length cap)) (jQ w1 c.w.heap.size cap):=by
     refine aM ?_;rw[e1];unfold convert;rw[run_ok (run_underlying hsu c.w),run_ok (run_underlying hdu c.w)];have:∀td:TypeDesc,(match td,TypeDesc.slice e,Value.string sb with
      |_,.slice e,.string s=>(do match <- underlying e with
       |.int .u8=>Conv.stringToBytes e s
       |.int .i32=>Conv.stringToRunes e s
       | _ => stuck "Convert: string to a slice of what?" : Sem Value)
      | _, _, _ => stuck "") = (do match <- underlying e with
       |.int .u8=>Conv.stringToBytes e sb
       |.int .i32=>Conv.stringToRunes e sb
       | _ => stuck "Convert: string to a slice of what?" : Sem Value) := fun td => rfl
     have main:((do match <- underlying e with
       |.int .u8=>Conv.stringToBytes e sb
       |.int .i32=>Conv.stringToRunes e sb
       | _ => stuck "Convert: string to a slice of what?" : Sem Value)).run P c.w = .ok (.slice (some ⟨c.w.heap.size, 0, none⟩) (bytesOf sb).length cap) (jQ w1 c.w.heap.size cap) := by
      rw[run_ok (run_underlying heu c.w)];simp only[];unfold Conv.stringToBytes;rw[run_ok hch];rw[run_ok (fY e arr)];have hmk:(markStringish ⟨(fW c.w).heap.size,0,none⟩).run P w1=.ok () (jQ w1 c.w.heap.size cap):=by
       unfold markStringish;have hshape:(shape (fW c.w).heap.size).run P w1=.ok (some (e,cap)) w1:=by
        show Result.ok (w1.shape? c.w.heap.size) w1=_;simp only[World.shape?,hhere,hsz]
       rw[run_ok hshape];rfl
      rw[run_ok hmk,bQ];rfl
     cases td<;>exact main
    have:=vC hm (hf d hd hd2) (CV c sb) hgr (NG _) hbf (λj v hv=>by
     show(sb.data.map (λb=>Value.int .u8 b.toNat)++Array.replicate (cap-sb.size) (.int .u8 0))[j]?=some v;have hj:j<sb.data.size:=by
      obtain⟨q,_⟩:=NJ.1 hv;simpa using q
     rw[PW (by simpa using hj),<- NR,OO];exact hv) (cap:=cap) (by rw[bQ];exact hcap) (by rw[hsz];simp[K.size]) hrun
    exact this
   ·cases h
  ·rename_i hn _ _ _ heq;cases heq
  ·rename_i heq _ _;cases heq
  ·cases h
 ·exact nE hm hh hr ho (λs e hse=>hs ⟨s,e,hse⟩) hs2 h
theorem C6 (te:TE)(w:World)(Sb:Nat->Prop):∀(k:K)(cs r:List Value),ie k cs=some r->∃pre,cs=pre++r/\RepT te w Sb k k.dflt pre:=by
 intro k
 induction k with
 |int k=>
  intro cs r h;unfold ie at h;split at h<;>rename_i heq<;>try (cases heq;done)
  ·rename_i k0 k' n r';cases heq;by_cases e:k'=k<;>by_cases e2:n=0<;>simp[e,e2]at h;subst h;refine⟨[_],rfl,by rw[e,e2];rfl,?_⟩;cases k<;>rfl
  all_goals (try cases h)
 |bool=>
  intro cs r h;unfold ie at h;split at h<;>rename_i heq<;>try (cases heq;done)
  ·rename_i b r';cases b<;>simp at h;subst h;exact⟨[_],rfl,rfl⟩
  all_goals (try cases h)
 |str=>
  intro cs r h;unfold ie at h;split at h<;>rename_i heq<;>try (cases heq;done)
  ·rename_i s r';by_cases e:s.data.toList.length=0
   ·simp[e]at h;subst h;have:s.data.toList=[]:=OR.1 e;exact⟨[_],rfl,s,rfl,by simp[bytesOf,this];rfl⟩
   ·simp at e;simp[e]at h
  all_goals (try cases h)
 |err=>
  intro cs r h;unfold ie at h;split at h<;>rename_i heq<;>try (cases heq;done)
  ·simp at h;subst h;exact⟨[_],rfl,rfl⟩
  all_goals (try cases h)
 |fn=>
  intro cs r h;unfold ie at h;split at h<;>rename_i heq<;>try (cases heq;done)
  ·simp at h;subst h;exact⟨[_],rfl,rfl⟩
  all_goals (try cases h)
 |ref t=>
  intro cs r h;unfold ie at h;split at h<;>rename_i heq<;>try (cases heq;done)
  ·simp at h;subst h;exact⟨[_],rfl,_,rfl,rfl⟩
  all_goals (try cases h)
 |slice e ih=>
  intro cs r h;unfold ie at h;split at h<;>rename_i heq<;>try (cases heq;done)
  ·simp at h;subst h;exact⟨[_],rfl,pR _ _ _ _⟩
  all_goals (try cases h)
 |prod a b iha ihb=>
  intro cs r h;simp only[ie]at h;split at h
  ·rename_i r' h1;obtain⟨p1,rfl,q1⟩:=iha cs r' h1;obtain⟨p2,rfl,q2⟩:=ihb r' r h;exact⟨p1++p2,by simp,p1,p2,rfl,q1,q2⟩
  ·cases h
 |strct a ih=>
  intro cs r h;simp only[ie]at h;exact ih cs r h
end
end Go.Eng
