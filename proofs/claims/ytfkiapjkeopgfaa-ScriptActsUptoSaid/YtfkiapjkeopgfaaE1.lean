/- A small machine over plain lists: what a Go function of this program computes, told without memory (values, rows, boxes by name). Definitions alone; nothing is claimed here. -/
import GoSem.Step
import Derived.KernelRfl
set_option linter.all false
set_option linter.unusedVariables false
set_option linter.unusedSimpArgs false
set_option linter.deprecated false
namespace Go.Eng
/-- A kind of data. -/
inductive K where
  | int (k : IntKind)
  | bool
  | str
  | err
  | fn
  | slice (e : K)
  | prod (a b : K)
  | strct (a : K)
  deriving DecidableEq, Inhabited
/-- What a datum of a kind is in Lean. -/
@[reducible] def K.T : K → Type
  | .int _ => Int
  | .bool => Bool
  | .str => List Int
  | .err => Option Int
  | .fn => Option Nat
  | .slice e => List e.T
  | .prod a b => a.T × b.T
  | .strct a => a.T
/-- How many cells a datum takes. -/
def K.size : K → Nat
  | .prod a b => a.size + b.size
  | .strct a => a.size
  | _ => 1
def K.isAgg : K → Bool
  | .prod _ _ | .strct _ => true
  | _ => false
def K.dflt : (k : K) → k.T
  | .int _ => (0 : Int)
  | .bool => false
  | .str => ([] : List Int)
  | .err => (none : Option Int)
  | .fn => (none : Option Nat)
  | .slice _ => []
  | .prod a b => (a.dflt, b.dflt)
  | .strct a => a.dflt
/-- Has a kind rows in it? -/
def K.rows : K → Bool
  | .slice _ => true
  | .prod a b => a.rows || b.rows
  | .strct a => a.rows
  | _ => false
/-- A step from a box's begin to a place in it. -/
inductive PStep where
  | fld (off : Nat)
  | idx (n sz : Nat) (i : Int)
/-- What one cell holds. -/
inductive S where
  | undef
  | bool (b : Bool)
  | int (k : IntKind) (n : Int)
  | str (s : List Int)
  | err (e : Option Int)
  | fn (f : Option Nat)
  | nilS
  | sl (k : K) (xs : List k.T)
  | vw (id g : Nat)
  | pv (id g off len : Nat)
  | ptr (id g i : Nat) (p : List PStep)
  | mp (id : Nat)
  | clo (f : Nat) (k : K) (x : k.T)
  | ipt (k : K) (x : k.T) (p : List PStep)
  | mv (k : K) (xs : List k.T)
  | io (k : K) (x : k.T)
/-- A value: its cells, and whether it is a struct or an array. -/
inductive AV where
  | undef
  | val (g : Bool) (cs : List S)
  | tup (vs : List (Bool × List S))
inductive Obj where
  | row (k : K) (xs : List k.T) (gen : Nat) (hist : List (List k.T)) (frz : Bool)
  | box (cs : List S)
  | mp (k : K) (es : List (Int × k.T))
structure St where
  env : List (Nat × AV)
  heap : List (Nat × Obj)
def look : List (Nat × AV) → Nat → AV
  | [], _ => .undef
  | (t, v) :: r, u => bif Nat.beq t u then v else look r u
def hget : List (Nat × Obj) → Nat → Option Obj
  | [], _ => none
  | (t, v) :: r, u => bif Nat.beq t u then some v else hget r u
def hput (h : List (Nat × Obj)) (u : List (Nat × Obj)) : List (Nat × Obj) := u ++ h
def put (e : List (Nat × AV)) (d : Option Nat) (v : AV) : List (Nat × AV) :=
  match d with
  | some t => (t, v) :: e
  | none => e
/-- A datum's cells. -/
def leaves : (k : K) → k.T → List S
  | .int k, n => [.int k n]
  | .bool, b => [.bool b]
  | .str, s => [.str s]
  | .err, e => [.err e]
  | .fn, f => [.fn f]
  | .slice e, xs => [.sl e xs]
  | .prod a b, x => leaves a x.1 ++ leaves b x.2
  | .strct a, x => leaves a x
def inj (k : K) (x : k.T) : AV := .val k.isAgg (leaves k x)
def cst (k k' : K) (xs : List k.T) : Option (List k'.T) := if h : k = k' then some (h ▸ xs) else none
/-- Lists with a kind, as rows tell them. -/
inductive RowV where
  | none
  | nil
  | some (k : K) (xs : List k.T)
def contAt {α : Type} (xs : List α) (gen : Nat) (hist : List (List α)) (g : Nat) : Option (List α) := bif Nat.beq g gen then some xs else hist[gen - 1 - g]?
/-- What a slice value shows. -/
def rowOf (hp : Nat → Option Obj) : S → RowV
  | .nilS => .nil
  | .sl k xs => .some k xs
  | .vw id g => match hp id with
    | some (.row k xs gen hist _) => (match contAt xs gen hist g with | some ys => .some k ys | none => .none)
    | _ => .none
  | .pv id g off len => match hp id with
    | some (.row k xs gen _ _) => bif Nat.beq g gen then .some k ((xs.drop off).take len) else .none
    | _ => .none
  | _ => .none
/-- The ids that a cell names. -/
def S.ids : S → List Nat
  | .vw id _ | .pv id _ _ _ | .ptr id _ _ _ | .mp id => [id]
  | _ => []
def idsOf : List S → List Nat
  | [] => []
  | s :: r => s.ids ++ idsOf r
def AV.ids : AV → List Nat
  | .undef => []
  | .val _ cs => idsOf cs
  | .tup vs => vs.foldr (fun v r => idsOf v.2 ++ r) []
/-- A datum out of cells, and the cells behind it. -/
def rei (hp : Nat → Option Obj) : (k : K) → List S → Option (k.T × List S)
  | .int k, .int k' n :: r => bif decide (k' = k) then some (n, r) else none
  | .bool, .bool b :: r => some (b, r)
  | .str, .str s :: r => some (s, r)
  | .err, .err e :: r => some (e, r)
  | .fn, .fn f :: r => some (f, r)
  | .slice e, s :: r => match rowOf hp s with
    | .nil => some ([], r)
    | .some k xs => (match cst k e xs with | some ys => some (ys, r) | none => none)
    | .none => none
  | .prod a b, cs => match rei hp a cs with
    | some (x, r) => (match rei hp b r with | some (y, r') => some ((x, y), r') | none => none)
    | none => none
  | .strct a, cs => rei hp a cs
  | _, _ => none
def rei1 (hp : Nat → Option Obj) (k : K) (cs : List S) : Option k.T :=
  match rei hp k cs with
  | some (x, []) => some x
  | _ => none
def bytesOf (b : ByteArray) : List Int := b.data.toList.map (fun c => (c.toNat : Int))
/-- A byte lies in its bounds. -/
def okB (k : IntKind) (n : Int) : Bool := match k with | .u8 => decide (0 ≤ n) && decide (n < 256) | _ => true
def ofV : Value → S
  | .bool b => .bool b
  | .int k n => bif okB k n then .int k n else .undef
  | .string s => .str (bytesOf s)
  | .slice none 0 0 => .nilS
  | .nilIface => .err none
  | .nilFunc => .fn none
  | .func (.func f) ⟨[]⟩ ⟨[]⟩ => .fn (some f)
  | _ => .undef
/-- One cell's value? -/
def one : Value → Bool
  | .agg _ | .tuple _ => false
  | _ => true
def ofCells (cs : List Value) : Option (List S) := bif cs.all one then some (cs.map ofV) else none
def ofConst : Value → AV
  | .agg cs => match ofCells cs.toList with | some l => .val true l | none => .undef
  | .tuple _ => .undef
  | v => .val false [ofV v]
def evalO (env : List (Nat × AV)) : Operand → AV
  | .tmp t => look env t
  | .const v => ofConst v
  | .func f => .val false [.fn (some f)]
  | .global _ => .undef
def inb (i : Int) (n : Nat) : Bool := decide (0 ≤ i) && decide (i < (n : Int))
/-- One of n chunks of cells, cell by cell. -/
def selInt (i : Int) : List Int → Int
  | [] => 0
  | [n] => n
  | n :: r => bif decide (i = 0) then n else selInt (i - 1) r
def selBool (i : Int) : List Bool → Bool
  | [] => false
  | [n] => n
  | n :: r => bif decide (i = 0) then n else selBool (i - 1) r
def allInt (k : IntKind) : List S → Option (List Int)
  | [] => some []
  | .int k' n :: r => bif decide (k' = k) then (match allInt k r with | some l => some (n :: l) | none => none) else none
  | _ => none
def allBool : List S → Option (List Bool)
  | [] => some []
  | .bool n :: r => (match allBool r with | some l => some (n :: l) | none => none)
  | _ => none
def selS (i : Int) : List S → Option S
  | .int k n :: r => match allInt k r with | some l => some (.int k (selInt i (n :: l))) | none => none
  | .bool n :: r => match allBool r with | some l => some (.bool (selBool i (n :: l))) | none => none
  | _ => none
/-- Chunks to columns. -/
def selC (i : Int) : Nat → List (List S) → Option (List S)
  | 0, _ => some []
  | m + 1, cs => match selS i (cs.map (·.headD .undef)), selC i m (cs.map (·.tail)) with
    | some s, some r => some (s :: r)
    | _, _ => none
def chunks (sz : Nat) : Nat → List S → List (List S)
  | 0, _ => []
  | n + 1, cs => cs.take sz :: chunks sz n (cs.drop sz)
def getP : List PStep → List S → Option (List S)
  | [], cs => some cs
  | .fld off :: p, cs => getP p (cs.drop off)
  | .idx n sz i :: p, cs => match selC i sz (chunks sz n cs) with
    | some c => getP p c
    | none => none
def mixS (c : Bool) : S → S → Option S
  | .int k n, .int k' m => bif decide (k = k') then some (.int k (bif c then n else m)) else none
  | .bool n, .bool m => some (.bool (bif c then n else m))
  | _, _ => none
def mixL (c : Bool) : List S → List S → Option (List S)
  | [], [] => some []
  | a :: r, b :: s => match mixS c a b, mixL c r s with
    | some x, some y => some (x :: y)
    | _, _ => none
  | _, _ => none
/-- Cells laid over the first ones. -/
def over : List S → List S → List S
  | [], cs => cs
  | x :: r, _ :: cs => x :: over r cs
  | _ :: _, [] => []
def setCh (f : List S → Option (List S)) (i : Int) (sz : Nat) : Nat → Int → List S → Option (List S)
  | 0, _, cs => some cs
  | n + 1, j, cs => bif Nat.ble sz cs.length then (match f (cs.take sz) with
    | some c => (match mixL (decide (i = j)) c (cs.take sz), setCh f i sz n (j + 1) (cs.drop sz) with
      | some x, some y => some (x ++ y)
      | _, _ => none)
    | none => none) else none
def setP : List PStep → List S → List S → Option (List S)
  | [], new, cs => bif Nat.ble new.length cs.length then some (over new cs) else none
  | .fld off :: p, new, cs => bif Nat.ble off cs.length then (match setP p new (cs.drop off) with
    | some r => some (cs.take off ++ r)
    | none => none) else none
  | .idx n sz i :: p, new, cs => setCh (setP p new) i sz n 0 cs

/-! The program's types. -/
def prodL : List K → Option K
  | [] => none
  | [k] => some k
  | k :: r => match prodL r with | some q => some (.prod k q) | none => none
def allSome {α : Type} : List (Option α) → Option (List α)
  | [] => some []
  | some a :: r => (match allSome r with | some l => some (a :: l) | none => none)
  | none :: _ => none
def strctL (ks : List (Option K)) : Option K :=
  match allSome ks with
  | some l => (match prodL l with | some k => some (.strct k) | none => none)
  | none => none
def kindOf (P : Program) : Nat → TypeId → Option K
  | 0, _ => none
  | d + 1, t => match P.underlying t with
    | some (.int k) => some (.int k)
    | some .bool => some .bool
    | some .string => some .str
    | some (.slice e) => (match kindOf P d e with | some k => some (.slice k) | none => none)
    | some (.struct fs) => strctL (fs.toList.map fun f => kindOf P d f.type)
    | some (.array n e) => strctL (List.replicate n (kindOf P d e))
    | some (.interface _) => some .err
    | some (.func ..) => some .fn
    | _ => none
def kd (P : Program) (t : TypeId) : Option K := kindOf P 8 t
def elemT (P : Program) (t : TypeId) : Option TypeId :=
  match P.underlying t with
  | some (.slice e) => some e
  | _ => none
def aggT (P : Program) (t : TypeId) : Option Bool :=
  match P.underlying t with
  | some (.struct _) => some true
  | some (.array ..) => some true
  | some _ => some false
  | none => none
def sizeT (P : Program) (t : TypeId) : Option Nat :=
  match P.info? t with
  | some i => some i.size
  | none => none
/-- A value of a type, out of the first cells. -/
def valT (P : Program) (t : TypeId) (cs : List S) : Option AV :=
  match aggT P t, sizeT P t with
  | some true, some n => bif Nat.ble n cs.length then some (.val true (cs.take n)) else none
  | some false, some n => (match cs with | c :: _ => bif Nat.beq n 1 then some (.val false [c]) else none | [] => none)
  | _, _ => none
def zeroT (P : Program) (t : TypeId) : Option (List Value) :=
  match P.info? t with
  | some i => (match i.zero with | some v => bif v.cells.toList.all one then some v.cells.toList else none | none => none)
  | none => none
def bytesT (P : Program) (t : TypeId) : Nat :=
  match P.info? t with
  | some i => i.bytes
  | none => 0
/-- Is this the zero of a kind? The cells behind it. -/
def zeroOf : K → List Value → Option (List Value)
  | .int k, .int k' n :: r => bif decide (k' = k) && decide (n = 0) then some r else none
  | .bool, .bool b :: r => bif b then none else some r
  | .str, .string s :: r => bif decide (s.data.toList.length = 0) then some r else none
  | .err, .nilIface :: r => some r
  | .fn, .nilFunc :: r => some r
  | .slice _, .slice none 0 0 :: r => some r
  | .prod a b, cs => match zeroOf a cs with | some r => zeroOf b r | none => none
  | .strct a, cs => zeroOf a cs
  | _, _ => none
def zeroOk (k : K) (cs : List Value) : Bool := match zeroOf k cs with | some [] => true | _ => false
/-- The scalar kinds of a type that is compared cell by cell; its fields lie one behind the other. -/
def flatF (f : TypeId → Option (List K)) (sz : TypeId → Option Nat) : Nat → List Field → Option (List K)
  | _, [] => some []
  | off, x :: r => bif Nat.beq x.offset off && !(x.name == "_") then
      (match f x.type, sz x.type with
      | some ks, some n => bif Nat.beq n ks.length then (match flatF f sz (off + ks.length) r with | some l => some (ks ++ l) | none => none) else none
      | _, _ => none) else none
def flat (P : Program) : Nat → TypeId → Option (List K)
  | 0, _ => none
  | d + 1, t => match P.underlying t with
    | some (.int k) => some [.int k]
    | some .bool => some [.bool]
    | some .string => some [.str]
    | some (.struct fs) => bif P.stoodInHeld t then none else flatF (flat P d) (sizeT P) 0 fs.toList
    | some (.array n e) => (match flat P d e, sizeT P e with
      | some ks, some s => bif Nat.beq s ks.length then some (List.replicate n ks).flatten else none
      | _, _ => none)
    | _ => none
def eqCells : List K → List S → List S → Option Bool
  | [], [], [] => some true
  | .int k :: ks, .int a x :: r, .int b y :: s => bif decide (a = k) && decide (b = k) then (match eqCells ks r s with | some c => some (decide (x = y) && c) | none => none) else none
  | .bool :: ks, .bool x :: r, .bool y :: s => (match eqCells ks r s with | some c => some ((x == y) && c) | none => none)
  | .str :: ks, .str x :: r, .str y :: s => (match eqCells ks r s with | some c => some (decide (x = y) && c) | none => none)
  | _, _, _ => none

/-! Operations. -/
structure Ann where
  te : TypeId
  own : Nat → List Bool := fun _ => []
  mv : Nat → List Bool := fun _ => []
  prom : Nat → List Nat := fun _ => []
  keep : Nat → Nat → List Nat := fun _ _ => []
  nils : Nat → List Nat := fun _ => []
  cut : Nat → Nat → Option (List Nat) := fun _ _ => none
structure Sig where
  res : List (Bool × K)
  io : List K
@[reducible] def Ts : List K → Type
  | [] => Unit
  | [k] => k.T
  | k :: k' :: r => k.T × Ts (k' :: r)
@[reducible] def ksMap : List (Bool × K) → List K → List K
  | [], l => l
  | (_, k) :: r, l => k :: ksMap r l
@[reducible] def Sig.ks (s : Sig) : List K := ksMap s.res s.io
@[reducible] def Sig.R (s : Sig) : Type := Ts s.ks
theorem ksMap_eq : ∀ (r : List (Bool × K)) (l : List K), ksMap r l = r.map (·.2) ++ l
  | [], _ => rfl
  | (_, k) :: r, l => congrArg (k :: ·) (ksMap_eq r l)
theorem Sig.ks_eq (s : Sig) : s.ks = s.res.map (·.2) ++ s.io := ksMap_eq _ _
def lvs : (ks : List K) → Ts ks → List (Bool × List S)
  | [], _ => []
  | [k], x => [(k.isAgg, leaves k x)]
  | k :: k' :: r, x => (k.isAgg, leaves k x.1) :: lvs (k' :: r) x.2
abbrev Upd := List (Nat × Obj)
inductive Out where
  | bad
  | ok (c : Bool) (v : AV) (u : Upd)
  | call (c : Bool) (sg : Sig) (f : Nat) (args : List AV) (post : sg.R → AV × Upd)
def lim : Nat := 211106232532992
def wrapb (k : IntKind) (op : BinOp) (x y : Int) : Int :=
  let a := BitVec.ofInt k.bits x
  let b := BitVec.ofInt k.bits y
  k.wrap (match op with
    | .and => (a &&& b).toNat
    | .or => (a ||| b).toNat
    | .xor => (a ^^^ b).toNat
    | _ => (a &&& ~~~b).toNat : Nat)
def okv (s : S) : Out := .ok true (.val false [s]) []
def cmpI (op : BinOp) (x y : Int) : Option Bool :=
  match op with
  | .eql => some (decide (x = y))
  | .neq => some (!decide (x = y))
  | .lss => some (decide (x < y))
  | .leq => some (decide (x ≤ y))
  | .gtr => some (decide (y < x))
  | .geq => some (decide (y ≤ x))
  | _ => none
def isNilConst : Operand → Bool
  | .const .nilIface | .const .nilFunc => true
  | _ => false
def binS (P : Program) (op : BinOp) (t : TypeId) (xo yo : Operand) : S → S → Out
  | .int k x, .int k' y => match op with
    | .shl => .ok (decide (0 ≤ y)) (.val false [.int k (k.wrap (x * 2 ^ (min y.toNat k.bits)))]) []
    | .shr => .ok (decide (0 ≤ y)) (.val false [.int k (x.fdiv (2 ^ (min y.toNat k.bits)))]) []
    | op => bif decide (k = k') then (match op with
      | .add => okv (.int k (k.wrap (x + y)))
      | .sub => okv (.int k (k.wrap (x - y)))
      | .mul => okv (.int k (k.wrap (x * y)))
      | .quo => .ok (!decide (y = 0)) (.val false [.int k (k.wrap (x.tdiv y))]) []
      | .rem => .ok (!decide (y = 0)) (.val false [.int k (x.tmod y)]) []
      | .and => okv (.int k (wrapb k .and x y))
      | .or => okv (.int k (wrapb k .or x y))
      | .xor => okv (.int k (wrapb k .xor x y))
      | .andNot => okv (.int k (wrapb k .andNot x y))
      | op => (match cmpI op x y with | some b => okv (.bool b) | none => .bad)) else .bad
  | .str x, .str y => match op with
    | .add => .ok (decide (x.length + y.length < 9223372036854775808)) (.val false [.str (x ++ y)]) []
    | .eql => okv (.bool (decide (x = y)))
    | .neq => okv (.bool (!decide (x = y)))
    | _ => .bad
  | .bool x, .bool y => match P.underlying t with
    | some .bool => (match op with
      | .eql => okv (.bool (x == y))
      | .neq => okv (.bool (!(x == y)))
      | _ => .bad)
    | _ => .bad
  | .err x, .err y => match P.underlying t with
    | some (.interface _) => bif isNilConst yo then (match op with | .eql => okv (.bool (!x.isSome)) | .neq => okv (.bool x.isSome) | _ => .bad)
        else bif isNilConst xo then (match op with | .eql => okv (.bool (!y.isSome)) | .neq => okv (.bool y.isSome) | _ => .bad) else .bad
    | _ => .bad
  | .fn x, .fn y => match P.underlying t with
    | some (.func ..) => bif isNilConst yo then (match op with | .eql => okv (.bool (!x.isSome)) | .neq => okv (.bool x.isSome) | _ => .bad) else .bad
    | _ => .bad
  | _, _ => .bad
def binA (P : Program) (op : BinOp) (t : TypeId) (x y : List S) : Out :=
  bif P.eqGuardType P.depth t then .bad else
  match flat P 8 t, aggT P t with
  | some ks, some true => (match eqCells ks x y with
    | some b => (match op with | .eql => okv (.bool b) | .neq => okv (.bool (!b)) | _ => .bad)
    | none => .bad)
  | _, _ => .bad
/-- The ids of rows, frozen; boxes may not be told by value. -/
def frzU (hp : Nat → Option Obj) : List Nat → Option Upd
  | [] => some []
  | id :: r => match hp id, frzU hp r with
    | some (.row k xs gen hist _), some u => some ((id, .row k xs gen hist true) :: u)
    | _, _ => none
def slot (a : Operand) (env : Operand → AV) : Option S := match env a with | .val false [s] => some s | _ => none
def fillP (size : Nat → Option (Nat × Nat)) (env : Operand → AV) : List (Nat × Operand) → List S → Option (List S)
  | [], cs => some cs
  | (i, x) :: r, cs => match size i, env x with
    | some (off, sz), .val _ new => bif Nat.beq new.length sz then (match setP [.fld off] new cs with | some cs' => fillP size env r cs' | none => none) else none
    | _, _ => none
def fieldAt (P : Program) (fs : Array Field) (i : Nat) : Option (Nat × Nat) :=
  match fs[i]? with
  | some f => (match sizeT P f.type with | some s => some (f.offset, s) | none => none)
  | none => none
/-- Rows out of cells, one element behind the other. -/
def reiN (hp : Nat → Option Obj) (k : K) : Nat → List S → Option (List k.T)
  | 0, [] => some []
  | 0, _ => none
  | n + 1, cs => match rei hp k cs with
    | some (x, r) => (match reiN hp k n r with | some l => some (x :: l) | none => none)
    | none => none
def loadAt (hp : Nat → Option Obj) : S → Option (List S)
  | .ptr id g i p => match hp id with
    | some (.box cs) => bif Nat.beq g 0 && Nat.beq i 0 && !cs.isEmpty then getP p cs else none
    | some (.row k xs gen _ _) => bif Nat.beq g gen then getP p (leaves k (xs.getD i k.dflt)) else none
    | _ => none
  | .ipt k x p => getP p (leaves k x)
  | _ => none
/-- Does an address lead to what is there now? -/
def ptrOk (hp : Nat → Option Obj) : S → Bool
  | .ptr id g i _ => match hp id with
    | some (.box cs) => Nat.beq g 0 && Nat.beq i 0 && !cs.isEmpty
    | some (.row _ _ gen _ _) => Nat.beq g gen
    | _ => false
  | .ipt .. => true
  | _ => false
def addStep (s : PStep) : S → Option S
  | .ptr id g i p => some (.ptr id g i (p ++ [s]))
  | .ipt k x p => some (.ipt k x (p ++ [s]))
  | _ => none
def fresh (hp : Nat → Option Obj) (d : Option Nat) : Option Nat :=
  match d with
  | some id => (match hp id with | none => some id | some _ => none)
  | none => none
def intArg (env : Operand → AV) (d : Int) : Option Operand → Option Int
  | none => some d
  | some x => match slot x env with | some (.int _ n) => some n | _ => none
def sliceS (hp : Nat → Option Obj) (sz : Nat) (env : Operand → AV) (lo hi : Option Operand) (s : S) : Out :=
  match s, lo, hi with
  | s, none, none => (match rowOf hp s with | .none => .bad | _ => okv s)
  | .nilS, _, _ => (match intArg env 0 lo, intArg env 0 hi with
    | some l, some h => .ok (decide (l = 0) && decide (h = 0)) (.val false [.nilS]) []
    | _, _ => .bad)
  | .sl k xs, none, some _ => (match intArg env 0 hi with
    | some h => bif !Nat.beq sz k.size then .bad else .ok (decide (0 ≤ h) && decide (h ≤ (xs.length : Int))) (.val false [.sl k (xs.take h.toNat)]) []
    | _ => .bad)
  | .sl k xs, some _, none => (match intArg env 0 lo with
    | some l => bif !Nat.beq sz k.size then .bad else .ok (decide (0 ≤ l) && decide (l ≤ (xs.length : Int))) (.val false [.sl k (xs.drop l.toNat)]) []
    | _ => .bad)
  | .sl k xs, some _, some _ => (match intArg env 0 lo, intArg env 0 hi with
    | some l, some h => bif !Nat.beq sz k.size then .bad else .ok (decide (0 ≤ l) && decide (l ≤ h) && decide (h ≤ (xs.length : Int))) (.val false [.sl k ((xs.drop l.toNat).take (h.toNat - l.toNat))]) []
    | _, _ => .bad)
  | .vw id g, lo, hi => (match rowOf hp (.vw id g) with
    | .some k xs => (match intArg env 0 lo, intArg env xs.length hi with
      | some l, some h => bif !Nat.beq sz k.size then .bad else .ok (decide (0 ≤ l) && decide (l ≤ h) && decide (h ≤ (xs.length : Int))) (.val false [.pv id g l.toNat (h.toNat - l.toNat)]) []
      | _, _ => .bad)
    | _ => .bad)
  | .pv id g off len, lo, hi => (match rowOf hp (.pv id g off len) with
    | .some k _ => (match intArg env 0 lo, intArg env len hi with
      | some l, some h => bif !Nat.beq sz k.size then .bad else .ok (decide (0 ≤ l) && decide (l ≤ h) && decide (h ≤ (len : Int))) (.val false [.pv id g (l.toNat + off) (h.toNat - l.toNat)]) []
      | _, _ => .bad)
    | _ => .bad)
  | _, _, _ => .bad
/-- What is appended, by value. -/
def moreOf (hp : Nat → Option Obj) (k : K) : S → Option (List k.T)
  | .str s => cst (.int .u8) k s
  | s => match rowOf hp s with
    | .nil => some []
    | .some k' xs => cst k' k xs
    | .none => none
/-- An element type whose cells and zero are as its kind says. -/
def elemOk (P : Program) (e : TypeId) (k : K) : Bool :=
  match sizeT P e, zeroT P e with
  | some s, some z => Nat.beq s k.size && Nat.beq z.length k.size && Nat.ble (bytesT P e) 1000000 && Nat.ble 1 (bytesT P e)
  | _, _ => false
def appendS (P : Program) (hp : Nat → Option Obj) (dst : Option Nat) (e : TypeId) : S → S → Out
  | .nilS, x => match kd P e, fresh hp dst with
    | some k, some d => bif !elemOk P e k then .bad else (match moreOf hp k x with
      | some ys => .ok (decide (ys.length * bytesT P e ≤ lim)) (.val false [.vw d 0]) [(d, .row k ys 0 [] false)]
      | none => .bad)
    | _, _ => .bad
  | .vw id g, x => match hp id with
    | some (.row k xs gen hist false) => bif Nat.beq g gen && decide (kd P e = some k) && elemOk P e k then (match moreOf hp k x with
      | some ys => .ok (decide ((xs.length + ys.length) * bytesT P e ≤ lim)) (.val false [.vw id (gen + 1)]) [(id, .row k (xs ++ ys) (gen + 1) (xs :: hist) false)]
      | none => .bad) else .bad
    | _ => .bad
  | _, _ => .bad
structure Hand where
  arg : AV
  frz : List Nat
  mv : List Nat
  io : List (Nat × K)
/-- An argument that is told by its value. -/
def handV (P : Program) (hp : Nat → Option Obj) (t : TypeId) (g : Bool) (cs : List S) : Option Hand :=
  match kd P t with
  | some k => bif g == k.isAgg then (match rei1 hp k cs with | some x => some ⟨inj k x, idsOf cs, [], []⟩ | none => none) else none
  | none => none
/-- One argument: handed over (a row), lent (a box), or told by value. -/
def handArg (P : Program) (hp : Nat → Option Obj) (mv : Bool) (t : TypeId) : AV → Option Hand
  | .val false [.nilS] => bif mv then (match elemT P t with
      | some e => (match kd P e with | some k => some ⟨.val false [.mv k []], [], [], []⟩ | none => none)
      | none => none) else handV P hp t false [.nilS]
  | .val false [.vw id g] => bif mv then (match hp id with
      | some (.row k xs gen _ false) => bif Nat.beq g gen then some ⟨.val false [.mv k xs], [], [id], []⟩ else none
      | _ => none) else handV P hp t false [.vw id g]
  | .val false [.ptr id g i p] => bif p.isEmpty then (match hp id, P.underlying t with
    | some (.box cs), some (.pointer e) => bif !cs.isEmpty && Nat.beq g 0 && Nat.beq i 0 then (match kd P e with
      | some k => (match rei1 hp k cs with | some x => some ⟨.val false [.io k x], idsOf cs, [], [(id, k)]⟩ | none => none)
      | none => none) else none
    | _, _ => none) else none
  | .val false [.ipt k x p] => some ⟨.val false [.ipt k x p], [], [], []⟩
  | .val g cs => handV P hp t g cs
  | _ => none
def handArgs (P : Program) (hp : Nat → Option Obj) : List Bool → List TypeId → List AV → Option (List Hand)
  | _, _, [] => some []
  | m, t :: ts, a :: r => match handArg P hp (m.headD false) t a, handArgs P hp m.tail ts r with
    | some h, some hs => some (h :: hs)
    | _, _ => none
  | _, [], _ :: _ => none
def resT (P : Program) (t : TypeId) : Option (Bool × List K) :=
  match P.underlying t with
  | some (.tuple ts) => (match allSome (ts.toList.map (kd P)) with | some l => some (true, l) | none => none)
  | _ => match kd P t with | some k => some (false, [k]) | none => none
def zipOwn : List Bool → List K → List (Bool × K)
  | _, [] => []
  | o, k :: r => (o.headD false, k) :: zipOwn o.tail r
def ownRes (d : Option Nat) : List Bool → List (Bool × List S) → Option (List (Bool × List S) × Upd)
  | true :: o, (_, [.sl k xs]) :: r => match d, ownRes none o r with
    | some id, some (l, u) => some ((false, [.vw id 0]) :: l, (id, .row k xs 0 [] false) :: u)
    | _, _ => none
  | _ :: o, v :: r => match ownRes d o r with | some (l, u) => some (v :: l, u) | none => none
  | _, [] => some ([], [])
  | [], v :: r => match ownRes d [] r with | some (l, u) => some (v :: l, u) | none => none
def ioUpd : List (Nat × K) → List (Bool × List S) → Upd
  | (id, _) :: r, (_, cs) :: l => (id, .box cs) :: ioUpd r l
  | _, _ => []
def oneV : List (Bool × List S) → AV
  | [(g, cs)] => .val g cs
  | _ => .undef
def postOf (tup : Bool) (d : Option Nat) (own : List Bool) (n : Nat) (io : List (Nat × K)) (vs : List (Bool × List S)) : AV × Upd :=
  match ownRes d own (vs.take n) with
  | some (l, u) => ((bif tup then .tup l else oneV l), u ++ ioUpd io (vs.drop n))
  | none => (.undef, ioUpd io (vs.drop n))
def anyOwn (o : List Bool) : Nat := o.foldr (fun b n => bif b then n + 1 else n) 0
def ownOk : List Bool → List K → Bool
  | true :: o, .slice _ :: r => ownOk o r
  | true :: _, _ => false
  | false :: o, _ :: r => ownOk o r
  | [], _ => true
  | false :: _, [] => true
def isPtrV : AV → Bool
  | .val false [.ptr ..] => true
  | _ => false
def anyPtr (args : List AV) : Bool := args.any isPtrV
def allIds (args : List AV) : List Nat := args.foldr (fun a r => a.ids ++ r) []
def deads (ids : List Nat) : Upd := ids.map fun id => (id, .box [])
def disj (a b : List Nat) : Bool := a.all fun x => !b.contains x
def Hand.excl (h : Hand) : List Nat := h.mv ++ h.io.map (·.1)
/-- Rows and boxes that are handed over are named by nobody else in the call. -/
def exOk : List (List Nat × List Nat) → Bool
  | [] => true
  | p :: r => (r.all fun q => disj p.1 q.2 && disj q.1 p.2) && exOk r
def exAll : List AV → List Hand → List (List Nat × List Nat)
  | a :: as, h :: hs => (h.excl, a.ids ++ h.frz) :: exAll as hs
  | _, _ => []
def callOut (P : Program) (hp : Nat → Option Obj) (dst : Option Nat) (ty : TypeId) (own mvs : List Bool) (c : Bool) (f : Nat) (ats : List TypeId) (args : List AV) : Out :=
  match resT P ty, handArgs P hp mvs ats args with
  | some (tup, ks), some hs =>
    let fz := hs.flatMap Hand.frz
    let mv := hs.flatMap Hand.mv
    let io := hs.flatMap Hand.io
    bif ownOk own ks && Nat.ble (anyOwn own) 1 && (Nat.beq (anyOwn own) 0 || (fresh hp dst).isSome) && exOk (exAll args hs) && hs.all (fun h => disj h.excl h.frz) && (tup == !(Nat.beq ks.length 1)) then
      (match (bif ks.any K.rows || anyPtr args then frzU hp fz else some []) with
      | some u => .call c ⟨zipOwn own ks, io.map (·.2)⟩ f (hs.map Hand.arg) (fun r => let p := postOf tup dst own ks.length io (lvs _ r); (p.1, p.2 ++ (deads mv ++ u)))
      | none => .bad) else .bad
  | _, _ => .bad
def minI (a b : Int) : Int := bif decide (b < a) then b else a
def maxI (a b : Int) : Int := bif decide (a < b) then b else a
def foldI (f : Int → Int → Int) (k : IntKind) : Int → List AV → Option Int
  | n, [] => some n
  | n, .val false [.int k' m] :: r => bif decide (k' = k) then foldI f k (f n m) r else none
  | _, _ => none
def lenS (P : Program) (hp : Nat → Option Obj) (t : TypeId) (s : S) : Out :=
  match P.underlying t with
  | some .string => (match s with | .str x => okv (.int .i64 x.length) | _ => .bad)
  | some (.slice _) => (match rowOf hp s with
    | .nil => okv (.int .i64 0)
    | .some _ xs => okv (.int .i64 xs.length)
    | .none => .bad)
  | _ => .bad
def appB (P : Program) (hp : Nat → Option Obj) (dst : Option Nat) (t t2 : TypeId) (s x : S) : Out :=
  match elemT P t, P.underlying t2 with
  | some e, some (.slice _) => appendS P hp dst e s x
  | some e, some .string => appendS P hp dst e s x
  | _, _ => .bad
def foldB (f : Int → Int → Int) : List AV → Out
  | .val false [.int k n] :: r => (match foldI f k n r with | some m => okv (.int k m) | none => .bad)
  | _ => .bad
def slot1 : AV → Option S
  | .val false [s] => some s
  | _ => none
def builtinS (P : Program) (hp : Nat → Option Obj) (dst : Option Nat) (b : Builtin) (ats : List TypeId) (args : List AV) : Out :=
  match b with
  | .len => (match ats[0]?, args with
    | some t, [a] => (match slot1 a with | some s => lenS P hp t s | none => .bad)
    | _, _ => .bad)
  | .append => (match ats[0]?, ats[1]?, args with
    | some t, some t2, [a, b] => (match slot1 a, slot1 b with | some s, some x => appB P hp dst t t2 s x | _, _ => .bad)
    | _, _, _ => .bad)
  | .min => foldB minI args
  | .max => foldB maxI args
  | _ => .bad
/-- What a map tells of a key, and has behind an update. -/
def mapGet {α : Type} (d : α) : List (Int × α) → Int → α
  | [], _ => d
  | e :: r, n => bif decide (e.1 = n) then e.2 else mapGet d r n
def mapPut {α : Type} : List (Int × α) → Int → α → List (Int × α)
  | [], n, x => [(n, x)]
  | e :: r, n, x => bif decide (e.1 = n) then (n, x) :: r else e :: mapPut r n x
def scalK : K → Bool
  | .int _ => true
  | .bool => true
  | _ => false
/-- A scalar kind, and the type's zero is its. -/
def zeroS (P : Program) (e : TypeId) (k : K) : Bool := match P.info? e with
  | some i => (match k, i.zero with
    | .int kk, some (.int k' n) => decide (kk = k') && decide (n = 0)
    | .bool, some (.bool b) => !b
    | _, _ => false)
  | none => false
def core (P : Program) (A : Ann) (fid : Nat) (env : Operand → AV) (hp : Nat → Option Obj) (o : Oper) : Out :=
  match o.op with
  | .move x | .assign x => (match env x with
    | .val false [.nilS] => bif (match o.dst with | some d => (A.nils fid).contains d | none => false) then
        (match elemT P o.type with
        | some e => (match kd P e with | some k => .ok true (.val false [.sl k []]) [] | none => .bad)
        | none => .bad) else bif (match o.dst with | some d => (A.prom fid).contains d | none => false) then
        (match fresh hp o.dst, elemT P o.type with
        | some d, some e => (match kd P e with | some k => .ok true (.val false [.vw d 0]) [(d, .row k [] 0 [] false)] | none => .bad)
        | _, _ => .bad) else .ok true (.val false [.nilS]) []
    | v => .ok true v [])
  | .nilCheck x => (match slot x env with
    | some a => bif ptrOk hp a then okv a else .bad
    | none => .bad)
  | .makeFunc (.func f) first captured => (match first.toList, captured.toList with
    | [], [x] => (match slot x env with
      | some (.ptr id g i p) => bif Nat.beq g 0 && Nat.beq i 0 && p.isEmpty then (match hp id with
        | some (.box [.sl k xs]) => .ok true (.val false [.clo f (.slice k) xs]) [(id, .box [])]
        | _ => .bad) else .bad
      | _ => .bad)
    | _, _ => .bad)
  | .makeMap t none => (match P.underlying t, fresh hp o.dst with
    | some (.map kt et), some d => (match P.underlying kt, kd P et with
      | some (.int .i64), some k => bif scalK k then .ok true (.val false [.mp d]) [(d, .mp k [])] else .bad
      | _, _ => .bad)
    | _, _ => .bad)
  | .lookup t x ix false => (match slot x env, slot ix env, P.underlying t with
    | some (.mp id), some (.int .i64 n), some (.map kt et) => (match hp id, P.underlying kt with
      | some (.mp k es), some (.int .i64) => bif zeroS P et k then .ok true (inj k (mapGet k.dflt es n)) [] else .bad
      | _, _ => .bad)
    | _, _, _ => .bad)
  | .mapUpdate t x ix y => (match slot x env, slot ix env, env y, P.underlying t with
    | some (.mp id), some (.int .i64 n), .val false cs, some (.map kt _) => (match hp id, P.underlying kt with
      | some (.mp k es), some (.int .i64) => bif scalK k then (match rei1 hp k cs with | some v => .ok true .undef [(id, .mp k (mapPut es n v))] | none => .bad) else .bad
      | _, _ => .bad)
    | _, _, _, _ => .bad)
  | .alloc e => (match zeroT P e, fresh hp o.dst with
    | some z, some d => .ok true (.val false [.ptr d 0 0 []]) [(d, .box (z.map ofV))]
    | _, _ => .bad)
  | .box _ x => (match env x, fresh hp o.dst with
    | .val _ cs, some d => .ok true (.val false [.ptr d 0 0 []]) [(d, .box cs)]
    | _, _ => .bad)
  | .build t parts => (match zeroT P t, P.underlying t with
    | some z, some (.struct fs) => bif fs.toList.all (fun f => (sizeT P f.type).isSome) then (match fillP (fieldAt P fs) env parts.toList (z.map ofV) with | some cs => .ok true (.val true cs) [] | none => .bad) else .bad
    | some z, some (.array _ e) => (match sizeT P e with
      | some s => (match fillP (fun i => some (i * s, s)) env parts.toList (z.map ofV) with | some cs => .ok true (.val true cs) [] | none => .bad)
      | none => .bad)
    | _, _ => .bad)
  | .buildSlice t n parts => (match elemT P t, fresh hp o.dst with
    | some e, some d => (match kd P e, zeroT P e, sizeT P e with
      | some k, some z, some s => bif Nat.ble (n * s) 16777216 && Nat.beq z.length s && Nat.beq s k.size then
          (match fillP (fun i => some (i * s, s)) env parts.toList (List.replicate n (z.map ofV)).flatten with
          | some cs => (match reiN hp k n cs, frzU hp (idsOf cs) with
            | some xs, some u => .ok true (.val false [.vw d 0]) ((d, .row k xs 0 [] false) :: u)
            | _, _ => .bad)
          | none => .bad) else .bad
      | _, _, _ => .bad)
    | _, _ => .bad)
  | .load t a => (match slot a env with
    | some s => (match loadAt hp s with
      | some cs => (match valT P t cs with | some v => .ok true v [] | none => .bad)
      | none => .bad)
    | _ => .bad)
  | .store t a x => (match slot a env, env x, sizeT P t with
    | some (.ptr id g i p), .val _ new, some n => bif Nat.beq new.length n then (match hp id with
      | some (.box cs) => bif Nat.beq g 0 && Nat.beq i 0 && !cs.isEmpty then (match setP p new cs with | some cs' => .ok true .undef [(id, .box cs')] | none => .bad) else .bad
      | some (.row k xs gen _ false) => bif Nat.beq g gen && !(idsOf new).contains id then (match setP p new (leaves k (xs.getD i k.dflt)), frzU hp (idsOf new) with
        | some cs', some u => (match rei1 hp k cs' with | some y => .ok true .undef ((id, .row k (xs.set i y) gen [] false) :: u) | none => .bad)
        | _, _ => .bad) else .bad
      | _ => .bad) else .bad
    | _, _, _ => .bad)
  | .binOp op t x y _ => (match env x, env y with
    | .val false [a], .val false [b] => binS P op t x y a b
    | .val true a, .val true b => binA P op t a b
    | _, _ => .bad)
  | .unOp op _ x => (match op, slot x env with
    | .neg, some (.int k n) => okv (.int k (k.wrap (0 - n)))
    | .xor, some (.int k n) => okv (.int k (wrapb k .xor (bif k.signed then -1 else k.max) n))
    | .not, some (.bool b) => okv (.bool (!b))
    | _, _ => .bad)
  | .convert st dt x => (match slot x env, P.underlying st, P.underlying dt with
    | some (.int _ n), some _, some (.int k) => okv (.int k (k.wrap n))
    | some (.str s), some _, some .string => okv (.str s)
    | some (.str s), some _, some (.slice e) => (match P.underlying e, fresh hp o.dst with
      | some (.int .u8), some d => .ok (decide (s.length ≤ lim)) (.val false [.vw d 0]) [(d, .row (.int .u8) s 0 [] false)]
      | _, _ => .bad)
    | some s, some (.slice e), some .string => (match P.underlying e with
      | some (.int .u8) => (match rowOf hp s with
        | .nil => okv (.str [])
        | .some k xs => (match cst k (.int .u8) xs with | some ys => okv (.str ys) | none => .bad)
        | .none => .bad)
      | _ => .bad)
    | some (.vw id g), some (.slice _), some (.slice e) => (match P.underlying e, hp id with
      | some (.int .u8), some (.row k xs gen _ false) => bif Nat.beq g gen && Nat.beq st dt then .ok (!xs.isEmpty) (.val false [.vw id gen]) [(id, .row k xs gen [] false)] else .bad
      | _, _ => .bad)
    | _, _, _ => .bad)
  | .makeInterface t x => (match slot x env, P.underlying t with
    | some (.int .i64 n), some (.int _) => bif Nat.beq t A.te then okv (.err (some n)) else .bad
    | _, _ => .bad)
  | .makeSlice t l c => (match slot l env, slot c env, elemT P t, fresh hp o.dst with
    | some (.int .i64 n), some (.int .i64 m), some e, some d => (match kd P e, zeroT P e with
      | some k, some z => bif zeroOk k z && elemOk P e k then .ok (decide (n = m) && decide (0 ≤ n) && decide (n * bytesT P e ≤ 140737488355328)) (.val false [.vw d 0]) [(d, .row k (List.replicate n.toNat k.dflt) 0 [] false)] else .bad
      | _, _ => .bad)
    | _, _, _, _ => .bad)
  | .slice t x lo hi mx => (match slot x env, P.underlying t, mx with
    | some (.str s), some .string, none => (match intArg env 0 lo, intArg env s.length hi with
      | some l, some h => .ok (decide (0 ≤ l) && decide (l ≤ h) && decide (h ≤ (s.length : Int))) (.val false [.str ((s.drop l.toNat).take (h.toNat - l.toNat))]) []
      | _, _ => .bad)
    | some s, some (.slice e), none => (match sizeT P e with | some sz => sliceS hp sz env lo hi s | none => .bad)
    | _, _, _ => .bad)
  | .fieldAddr s x f => (match P.underlying s with
    | some (.struct fs) => (match fieldAt P fs f, slot x env with
      | some (off, sz), some a => bif Nat.beq sz 0 || !ptrOk hp a then .bad else (match addStep (.fld off) a with | some b => okv b | none => .bad)
      | _, _ => .bad)
    | _ => .bad)
  | .field t x f => (match P.underlying t, env x with
    | some (.struct fs), .val true cs => (match fs[f]? with
      | some fl => (match valT P fl.type (cs.drop fl.offset) with | some v => .ok true v [] | none => .bad)
      | none => .bad)
    | _, _ => .bad)
  | .indexAddr t x ix => (match P.underlying t, slot x env, slot ix env with
    | some (.array n e), some a, some (.int _ i) => (match sizeT P e with
      | some sz => bif !ptrOk hp a then .bad else (match addStep (.idx n sz i) a with | some b => .ok (inb i n) (.val false [b]) [] | none => .bad)
      | none => .bad)
    | some (.slice e), some s, some (.int _ i) => (match sizeT P e with
      | some sz => (match s with
        | .vw id g => (match hp id with
          | some (.row k xs gen _ _) => bif Nat.beq g gen && Nat.beq sz k.size then .ok (inb i xs.length) (.val false [.ptr id g i.toNat []]) [] else .bad
          | _ => .bad)
        | .pv id g off len => (match hp id with
          | some (.row k _ gen _ _) => bif Nat.beq g gen && Nat.beq sz k.size then .ok (inb i len) (.val false [.ptr id g (i.toNat + off) []]) [] else .bad
          | _ => .bad)
        | .sl k xs => bif Nat.beq sz k.size then .ok (inb i xs.length) (.val false [.ipt k (xs.getD i.toNat k.dflt) []]) [] else .bad
        | _ => .bad)
      | none => .bad)
    | _, _, _ => .bad)
  | .index t x ix => (match P.underlying t, env x, slot ix env with
    | some .string, .val false [.str s], some (.int _ i) => .ok (inb i s.length) (.val false [.int .u8 (s.getD i.toNat 0)]) []
    | some (.array n e), .val true cs, some (.int _ i) => (match sizeT P e with
      | some sz => (match getP [.idx n sz i] cs with
        | some l => (match valT P e l with | some v => .ok (inb i n) v [] | none => .bad)
        | none => .bad)
      | none => .bad)
    | _, _, _ => .bad)
  | .extract t ix => (match env t with
    | .tup vs => (match vs[ix]? with | some (g, cs) => .ok true (.val g cs) [] | none => .bad)
    | _ => .bad)
  | _ => .bad

/-! Regions, code, calls. -/
def restr (ids : List Nat) (h : List (Nat × Obj)) (id : Nat) : Option Obj := bif ids.contains id then hget h id else none
def tmpsOf (l : List Operand) : List Nat := l.foldr (fun x r => match x with | .tmp t => t :: r | _ => r) []
/-- An operand's value; of temporaries these alone. -/
def evalR (ts : List Nat) (env : List (Nat × AV)) : Operand → AV
  | .tmp t => bif ts.contains t then look env t else .undef
  | .const v => ofConst v
  | .func f => .val false [.fn (some f)]
  | .global _ => .undef
def evO (env : List (Nat × AV)) (o : Oper) : Operand → AV := evalR (tmpsOf o.op.operands.toList) env
def idsE (o : Oper) (ev : Operand → AV) : List Nat := (match o.dst with | some d => [d] | none => []) ++ o.op.operands.toList.foldr (fun x r => (ev x).ids ++ r) []
abbrev CallF := (sg : Sig) → Nat → List AV → Option sg.R
def okK {R : Type} (K : AV → Upd → Option R) : Out → Option R
  | .ok c v u => bif c then K v u else none
  | _ => none
def callK {R : Type} (C : CallF) (K : AV → Upd → Option R) : Out → Option R
  | .call c sg f args post => bif c then (C sg f args).bind (fun r => K (post r).1 (post r).2) else none
  | _ => none
def stepE {R : Type} (P : Program) (A : Ann) (fid : Nat) (C : CallF) (ev : Operand → AV) (hp : Nat → Option Obj) (o : Oper) (K : AV → Upd → Option R) : Option R :=
  match o.op with
  | .pick c a b => (match slot c ev with
    | some (.bool x) => bif x then K (ev a) [] else K (ev b) []
    | _ => none)
  | .call c => (match c.callee with
    | .builtin b => okK K (builtinS P hp o.dst b c.argTypes.toList (c.args.toList.map ev))
    | .value (.func f) => callK C K (callOut P hp o.dst o.type (A.own f) (A.mv f) true f c.argTypes.toList (c.args.toList.map ev))
    | .value g => (match slot g ev with
      | some (.fn r) => callK C K (callOut P hp o.dst o.type [] [] r.isSome (r.getD 0) c.argTypes.toList (c.args.toList.map ev))
      | some (.clo f k x) => callK C K (callOut P hp o.dst o.type [] [] true f (c.argTypes.toList ++ [0]) (c.args.toList.map ev ++ [.val false [.ipt k x []]]))
      | _ => none)
    | _ => none)
  | _ => okK K (core P A fid ev hp o)
def stepK {R : Type} (P : Program) (A : Ann) (fid : Nat) (C : CallF) (σ : St) (o : Oper) (K : AV → Upd → Option R) : Option R :=
  stepE P A fid C (evO σ.env o) (restr (idsE o (evO σ.env o)) σ.heap) o K
def guardK {R : Type} (all : Array Oper) (σ : St) (o : Oper) (K : Bool → List (Nat × AV) → Option R) : Option R :=
  match o.guard with
  | none => K true σ.env
  | some (j, want) => match (all[j]?).bind (·.dst) with
    | none => none
    | some t => match look σ.env t with
      | .val false [.bool b] => bif b then K want ((t, .val false [.bool true]) :: σ.env) else K (!want) ((t, .val false [.bool false]) :: σ.env)
      | .tup [] => K false σ.env
      | _ => none
def dstOk (n lo : Nat) (o : Oper) : Bool := match o.dst with | some d => Nat.ble (d + 1) n && Nat.ble lo d | none => true
def runOps {R : Type} (P : Program) (A : Ann) (fid n lo : Nat) (C : CallF) (all : Array Oper) : List Oper → St → (St → Option R) → Option R
  | [], σ, K => K σ
  | o :: r, σ, K => bif dstOk n lo o then guardK all σ o (fun want env =>
      bif want then stepK P A fid C ⟨env, σ.heap⟩ o (fun v u => runOps P A fid n lo C all r ⟨put env o.dst v, hput σ.heap u⟩ K)
      else runOps P A fid n lo C all r ⟨put env o.dst (.tup []), σ.heap⟩ K) else none
inductive Ex where
  | normal
  | ret
  | exit (id : Nat)
/-- What a loop's head keeps: each thing's new name is the first kept slot that names it. -/
def nameV : AV → Option Nat
  | .val false [.vw id _] => some id
  | .val false [.pv id _ _ _] => some id
  | .val false [.ptr id _ _ _] => some id
  | .val false [.mp id] => some id
  | _ => none
def lk : List (Nat × Nat) → Nat → Option Nat
  | [], _ => none
  | (o, n) :: r, u => bif Nat.beq o u then some n else lk r u
def lkr : List (Nat × Nat) → Nat → Option Nat
  | [], _ => none
  | (o, n) :: r, u => bif Nat.beq n u then some o else lkr r u
def named (env : List (Nat × AV)) : List Nat → List (Nat × Nat) → List (Nat × Nat)
  | [], l => l
  | t :: r, l => match nameV (look env t) with
    | some id => (match lk l id with | some _ => named env r l | none => named env r (l ++ [(id, t)]))
    | none => named env r l
def named2 (h : List (Nat × Obj)) : List Nat → List (Nat × Nat) → List (Nat × Nat)
  | [], l => l
  | t :: r, l => match lk l t, lkr l t, hget h t with
    | none, none, some (.box (_ :: _)) => named2 h r (l ++ [(t, t)])
    | none, none, some (.row ..) => named2 h r (l ++ [(t, t)])
    | _, _, _ => named2 h r l
def dupF : List Nat → Bool
  | [] => true
  | x :: r => !(r.contains x) && dupF r
/-- Names and generations anew: what is not the row's last one falls away. -/
def renewS (l : List (Nat × Nat)) (h : List (Nat × Obj)) : S → S
  | .vw id g => match hget h id, lk l id with
    | some (.row _ _ gen _ _), some n => bif Nat.beq g gen then .vw n 0 else .undef
    | _, _ => .undef
  | .pv id g off len => match hget h id, lk l id with
    | some (.row _ _ gen _ _), some n => bif Nat.beq g gen then .pv n 0 off len else .undef
    | _, _ => .undef
  | .ptr id g i p => match hget h id, lk l id with
    | some (.row _ _ gen _ _), some n => bif Nat.beq g gen then .ptr n 0 i p else .undef
    | some (.box _), some n => .ptr n g i p
    | _, _ => .undef
  | .mp id => match hget h id, lk l id with
    | some (.mp _ _), some n => .mp n
    | _, _ => .undef
  | s => s
def renewV (l : List (Nat × Nat)) (h : List (Nat × Obj)) : AV → AV
  | .undef => .undef
  | .val g cs => .val g (cs.map (renewS l h))
  | .tup vs => .tup (vs.map fun v => (v.1, v.2.map (renewS l h)))
def renewO (l : List (Nat × Nat)) (h : List (Nat × Obj)) : Obj → Obj
  | .row k xs _ _ frz => .row k xs 0 [] frz
  | .box cs => .box (cs.map (renewS l h))
  | .mp k es => .mp k es
def norm (keep : List Nat) (σ : St) : St :=
  let l := named2 σ.heap keep (named σ.env keep [])
  bif dupF (l.map (·.1)) && dupF (l.map (·.2)) then ⟨keep.map fun t => (t, renewV l σ.heap (look σ.env t)),
    l.filterMap fun p => match hget σ.heap p.1 with | some o => some (p.2, renewO l σ.heap o) | none => none⟩ else ⟨[], []⟩
def loopN {R : Type} (keep : List Nat) (step : St → (Ex → St → Option R) → Option R) : Nat → St → (Ex → St → Option R) → Option R
  | 0, _, _ => none
  | m + 1, σ, K => step σ (fun e σ' => match e with
    | .normal => loopN keep step m (norm keep σ') K
    | .ret => K .ret σ'
    | .exit id => K (.exit id) σ')
/-! Regions that draw their order: each step's names are kept, and looked at in the end. -/
structure Log where
  tch : List Nat
  wr : List Nat
def lookT (all : Array Oper) (o : Oper) : List Nat :=
  tmpsOf o.op.operands.toList ++ (match o.guard with | some (j, _) => (match (all[j]?).bind (·.dst) with | some t => [t] | none => []) | none => [])
def dstL (o : Oper) : List Nat := match o.dst with | some d => [d] | none => []
def pairOk (all : Array Oper) (a b : Oper) (la lb : Log) : Bool :=
  disj la.wr lb.tch && disj lb.wr la.tch && disj la.wr lb.wr && disj (dstL a) (lookT all b ++ dstL b) && disj (dstL b) (lookT all a)
def restOk (all : Array Oper) (bef : Array Nat) (i : Nat) (o : Oper) (l : Log) : Nat → List Oper → List Log → Bool
  | j, p :: ps, m :: ms => (Nat.testBit (bef.getD j 0) i || pairOk all o p l m) && restOk all bef i o l (j + 1) ps ms
  | _, [], [] => true
  | _, _, _ => false
def logOk (all : Array Oper) (bef : Array Nat) : Nat → List Oper → List Log → Bool
  | i, o :: os, l :: ls => restOk all bef i o l (i + 1) os ls && logOk all bef (i + 1) os ls
  | _, [], [] => true
  | _, _, _ => false
def edgesOk : Nat → List Oper → Bool
  | i, o :: os => (o.after.toList.all fun e => !Region.binds .any e || Nat.ble (e.on + 1) i) && edgesOk (i + 1) os
  | _, [] => true
def logOf (σ : St) (o : Oper) (u : Upd) : Log := ⟨idsE o (evO σ.env o), u.map (·.1)⟩
def runOpsD {R : Type} (P : Program) (A : Ann) (fid n lo : Nat) (C : CallF) (all : Array Oper) : List Oper → List Log → St → (List Log → St → Option R) → Option R
  | [], lg, σ, K => K lg σ
  | o :: r, lg, σ, K => bif dstOk n lo o then guardK all σ o (fun want env =>
      bif want then stepK P A fid C ⟨env, σ.heap⟩ o (fun v u => runOpsD P A fid n lo C all r (logOf ⟨env, σ.heap⟩ o u :: lg) ⟨put env o.dst v, hput σ.heap u⟩ K)
      else runOpsD P A fid n lo C all r (⟨[], []⟩ :: lg) ⟨put env o.dst (.tup []), σ.heap⟩ K) else none
/-- A place where ways meet: what is kept, with names anew. -/
def cutN {R : Type} : Nat → St → (St → Option R) → Option R
  | 0, _, _ => none
  | _ + 1, σ, K => K σ
def runReg {R : Type} (P : Program) (A : Ann) (fid n lo : Nat) (C : CallF) (ops : Array Oper) (d : Bool) (σ : St) (K : St → Option R) : Option R :=
  match d with
  | false => runOps P A fid n lo C ops ops.toList σ K
  | true => bif edgesOk 0 ops.toList then runOpsD P A fid n lo C ops ops.toList [] σ (fun lg σ' => bif logOk ops (Region.before ops) 0 ops.toList lg.reverse then K σ' else none) else none
def runCode {R : Type} (P : Program) (A : Ann) (fid n lo fuel : Nat) (C : CallF) : Nat → Code → St → (Ex → St → Option R) → Option R
  | _, .skip, σ, K => K .normal σ
  | _, .region id ops d, σ, K => match A.cut fid id with
    | none => runReg P A fid n lo C ops d σ (K .normal)
    | some keep => cutN fuel (norm keep σ) (fun σ => runReg P A fid n lo C ops d σ (K .normal))
  | b, .seq x y, σ, K => runCode P A fid n lo fuel C b x σ (fun e σ' => match e with
    | .normal => runCode P A fid n lo fuel C b y σ' K
    | .ret => K .ret σ'
    | .exit id => K (.exit id) σ')
  | b, .cond c x y, σ, K => match slot c (evalO σ.env) with
    | some (.bool v) => bif v then runCode P A fid n lo fuel C b x σ K else runCode P A fid n lo fuel C b y σ K
    | _ => none
  | _, .block id x, σ, K => runCode P A fid n lo fuel C id x σ (fun e σ' => match e with
    | .normal => K .normal σ'
    | .ret => K .ret σ'
    | .exit j => bif Nat.beq j id then K .normal σ' else K (.exit j) σ')
  | b, .loop x, σ, K => loopN (A.keep fid b) (fun σ K' => runCode P A fid n lo fuel C b x σ K') fuel (norm (A.keep fid b) σ) K
  | _, .exit id, σ, K => K (.exit id) σ
  | _, .ret, σ, K => K .ret σ
  | _, _, _, _ => none
def initE : Nat → List AV → List (Nat × AV)
  | _, [] => []
  | j, .val false [.mv _ _] :: r => (j, .val false [.vw j 0]) :: initE (j + 1) r
  | j, .val false [.io _ _] :: r => (j, .val false [.ptr j 0 0 []]) :: initE (j + 1) r
  | j, v :: r => (j, v) :: initE (j + 1) r
def initH : Nat → List AV → List (Nat × Obj)
  | _, [] => []
  | j, .val false [.mv k xs] :: r => (j, .row k xs 0 [] false) :: initH (j + 1) r
  | j, .val false [.io k x] :: r => (j, .box (leaves k x)) :: initH (j + 1) r
  | j, _ :: r => initH (j + 1) r
def ioIds : Nat → List AV → List Nat
  | _, [] => []
  | j, .val false [.io _ _] :: r => j :: ioIds (j + 1) r
  | j, _ :: r => ioIds (j + 1) r
def eqKs : List K → List K → Bool
  | [], [] => true
  | a :: r, b :: s => decide (a = b) && eqKs r s
  | _, _ => false
/-- Slots of pointers that are lent: from the last one on, others may be written. -/
def ioKs : List AV → List K
  | [] => []
  | .val false [.io k _] :: r => k :: ioKs r
  | _ :: r => ioKs r
def loOf : List Nat → Nat
  | [] => 0
  | i :: r => bif Nat.ble (loOf r) i then i + 1 else loOf r
def resV (P : Program) (σ : St) : ResultVar → Option (Bool × List S)
  | .tmp t => match look σ.env t with | .val g cs => some (g, cs) | _ => none
  | .cell a t => match look σ.env a with
    | .val false [s] => (match loadAt (hget σ.heap) s with
      | some cs => (match valT P t cs with | some (.val g l) => some (g, l) | _ => none)
      | none => none)
    | _ => none
def ioV (σ : St) (id : Nat) : Option (Bool × List S) :=
  match look σ.env id, hget σ.heap id with
  | .val false [.ptr j 0 0 []], some (.box cs) => bif Nat.beq j id && !cs.isEmpty then some (true, cs) else none
  | _, _ => none
def reiTs (hp : Nat → Option Obj) : (ks : List K) → List (List S) → Option (Ts ks)
  | [], css => bif css.isEmpty then some () else none
  | [k], css => match css with
    | [cs] => rei1 hp k cs
    | _ => none
  | k :: k' :: r, css => match css with
    | [] => none
    | cs :: l => (rei1 hp k cs).bind fun x => (reiTs hp (k' :: r) l).bind fun y => some (x, y)
/-- Results that are rows of their own: the row's last state, named nowhere else. -/
def ownV (h : List (Nat × Obj)) (all : List Nat) : List (Bool × K) → List (Bool × List S) → Bool
  | [], _ => true
  | (own, k) :: r, (g, cs) :: l => (bif own then !g && (match cs with
      | [.nilS] => true
      | [.vw id gg] => (match hget h id with
        | some (.row _ _ gen _ false) => Nat.beq gg gen && Nat.beq (all.count id) 1
        | _ => false)
      | _ => false) else true) && (g == k.isAgg) && ownV h all r l
  | _, _ => false
def finish (P : Program) (sg : Sig) (fn : Func) (ios : List Nat) (σ : St) : Option sg.R :=
  match allSome (fn.results.toList.map (resV P σ)), allSome (ios.map (ioV σ)) with
  | some vs, some ws => bif Nat.beq vs.length sg.res.length && Nat.beq ws.length sg.io.length && ownV σ.heap (idsOf ((vs ++ ws).map (·.2)).flatten) sg.res vs then
      reiTs (hget σ.heap) sg.ks ((vs ++ ws).map (·.2)) else none
  | _, _ => none
abbrev Outer := (sg : Sig) → Nat → List AV → Option (Option sg.R)
def callB (P : Program) (A : Ann) (C : CallF) (k : Nat) : CallF := fun sg f args =>
  match P.funcs[f]? with
  | some fn => (match fn.body with
    | some c => bif Nat.ble args.length fn.ntmps && !(fn.name == "runtime.NumGoroutine") && eqKs sg.io (ioKs args) then
        runCode P A f fn.ntmps (loOf (ioIds 0 args)) k C 0 c ⟨initE 0 args, initH 0 args⟩ (fun e σ => match e with
        | .exit _ => none
        | _ => finish P sg fn (ioIds 0 args) σ) else none
    | none => none)
  | none => none
def callF (P : Program) (A : Ann) (X : Outer) : Nat → CallF
  | 0 => fun _ _ _ => none
  | k + 1 => fun sg f args => match X sg f args with
    | some r => r
    | none => callB P A (callF P A X k) k sg f args
/-! A function at a loop's head. -/
inductive Dir where
  | l | r
  | lp (m : Nat)
def headK {R : Type} (P : Program) (A : Ann) (fid n lo fuel : Nat) (C : CallF) : Nat → List Dir → Code → Nat → St → (Ex → St → Option R) → Option R
  | _, [], .region id ops d, m, σ, K => cutN m σ (fun σ => runReg P A fid n lo C ops d σ (K .normal))
  | b, [], .loop x, m, σ, K => loopN (A.keep fid b) (fun σ K' => runCode P A fid n lo fuel C b x σ K') m σ K
  | b, .l :: p, .seq x y, m, σ, K => headK P A fid n lo fuel C b p x m σ (fun e σ' => match e with
    | .normal => runCode P A fid n lo fuel C b y σ' K
    | .ret => K .ret σ'
    | .exit id => K (.exit id) σ')
  | b, .r :: p, .seq x y, m, σ, K => headK P A fid n lo fuel C b p y m σ K
  | b, .l :: p, .cond c x y, m, σ, K => headK P A fid n lo fuel C b p x m σ K
  | b, .r :: p, .cond c x y, m, σ, K => headK P A fid n lo fuel C b p y m σ K
  | _, .l :: p, .block id x, m, σ, K => headK P A fid n lo fuel C id p x m σ (fun e σ' => match e with
    | .normal => K .normal σ'
    | .ret => K .ret σ'
    | .exit j => bif Nat.beq j id then K .normal σ' else K (.exit j) σ')
  | b, .lp m' :: p, .loop x, m, σ, K => headK P A fid n lo fuel C b p x m σ (fun e σ' => match e with
    | .normal => loopN (A.keep fid b) (fun σ K' => runCode P A fid n lo fuel C b x σ K') m' (norm (A.keep fid b) σ') K
    | .ret => K .ret σ'
    | .exit id => K (.exit id) σ')
  | _, _, _, _, _, _ => none
def headB (P : Program) (A : Ann) (C : CallF) (k : Nat) (sg : Sig) (f : Nat) (ios : List Nat) (p : List Dir) (m : Nat) (σ : St) : Option sg.R :=
  match P.funcs[f]? with
  | some fn => (match fn.body with
    | some c => headK P A f fn.ntmps (loOf ios) k C 0 p c m σ (fun e σ => match e with
      | .exit _ => none
      | _ => finish P sg fn ios σ)
    | none => none)
  | none => none
end Go.Eng
