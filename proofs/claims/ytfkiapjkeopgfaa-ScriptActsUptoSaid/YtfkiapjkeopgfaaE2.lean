/- What a value of the small machine says of the real one's memory; and that it goes on to say it while other memory is written. -/
import Derived.Test.YtfkiapjkeopgfaaE1
import Derived.Calls
import Derived.Below
set_option linter.all false
set_option linter.unusedVariables false
set_option linter.unusedSimpArgs false
set_option linter.deprecated false
namespace Go.Eng
open Go.RowKit
def LR {α β : Type} (R : α → β → Prop) : List α → List β → Prop
  | [], [] => True
  | a :: r, b :: s => R a b ∧ LR R r s
  | _, _ => False
theorem LR.length {α β : Type} {R : α → β → Prop} : ∀ {l : List α} {m : List β}, LR R l m → l.length = m.length
  | [], [], _ => rfl
  | _ :: _, _ :: _, h => by simp [LR.length h.2]
  | [], _ :: _, h => h.elim
  | _ :: _, [], h => h.elim
theorem LR.mono {α β : Type} {R R' : α → β → Prop} : ∀ {l : List α} {m : List β}, LR R l m → (∀ a ∈ l, ∀ b, R a b → R' a b) → LR R' l m
  | [], [], _, _ => trivial
  | a :: _, b :: _, h, k => ⟨k a (by simp) b h.1, LR.mono h.2 fun x hx => k x (by simp [hx])⟩
  | [], _ :: _, h, _ => h.elim
  | _ :: _, [], h, _ => h.elim
theorem LR.append {α β : Type} {R : α → β → Prop} : ∀ {l : List α} {m : List β} {l' : List α} {m' : List β}, LR R l m → LR R l' m' → LR R (l ++ l') (m ++ m')
  | [], [], _, _, _, k => k
  | _ :: _, _ :: _, _, _, h, k => ⟨h.1, LR.append h.2 k⟩
  | [], _ :: _, _, _, h, _ => h.elim
  | _ :: _, [], _, _, h, _ => h.elim
theorem LR.split {α β : Type} {R : α → β → Prop} : ∀ {l l' : List α} {m : List β}, LR R (l ++ l') m → ∃ m1 m2, m = m1 ++ m2 ∧ LR R l m1 ∧ LR R l' m2
  | [], _, m, h => ⟨[], m, rfl, trivial, h⟩
  | a :: r, l', b :: s, h => by
    obtain ⟨m1, m2, e, h1, h2⟩ := LR.split (l := r) h.2
    exact ⟨b :: m1, m2, by rw [e]; rfl, ⟨h.1, h1⟩, h2⟩
  | _ :: _, _, [], h => h.elim
theorem LR.get {α β : Type} {R : α → β → Prop} : ∀ {l : List α} {m : List β}, LR R l m → ∀ (i : Nat) a, l[i]? = some a → ∃ b, m[i]? = some b ∧ R a b
  | a :: _, b :: _, h, 0, x, hx => ⟨b, rfl, by simp at hx; exact hx ▸ h.1⟩
  | _ :: r, _ :: s, h, i + 1, x, hx => by simpa using LR.get (l := r) (m := s) h.2 i x (by simpa using hx)
  | [], _, _, _, _, hx => by simp at hx
  | _ :: _, [], h, _, _, _ => h.elim
theorem LR.of_get {α β : Type} {R : α → β → Prop} : ∀ {l : List α} {m : List β}, l.length = m.length → (∀ (i : Nat) a b, l[i]? = some a → m[i]? = some b → R a b) → LR R l m
  | [], [], _, _ => trivial
  | a :: r, b :: s, hl, h => ⟨h 0 a b rfl rfl, LR.of_get (by simpa using hl) fun i x y hx hy => h (i + 1) x y (by simpa using hx) (by simpa using hy)⟩
  | [], _ :: _, hl, _ => by simp at hl
  | _ :: _, [], hl, _ => by simp at hl
theorem LR.take {α β : Type} {R : α → β → Prop} : ∀ {l : List α} {m : List β} (n : Nat), LR R l m → LR R (l.take n) (m.take n)
  | _, _, 0, _ => by simp [LR]
  | [], [], _ + 1, _ => by simp [LR]
  | _ :: _, _ :: _, n + 1, h => ⟨h.1, LR.take n h.2⟩
  | [], _ :: _, _ + 1, h => h.elim
  | _ :: _, [], _ + 1, h => h.elim
theorem LR.drop {α β : Type} {R : α → β → Prop} : ∀ {l : List α} {m : List β} (n : Nat), LR R l m → LR R (l.drop n) (m.drop n)
  | _, _, 0, h => by simpa using h
  | [], [], _ + 1, _ => by simp [LR]
  | _ :: _, _ :: _, n + 1, h => by simpa using LR.drop n h.2
  | [], _ :: _, _ + 1, h => h.elim
  | _ :: _, [], _ + 1, h => h.elim

def okI (k : IntKind) (n : Int) : Prop := okB k n = true
def errV (te : TypeId) : Option Int → Value
  | none => .nilIface
  | some n => .iface te (.int .i64 n)
def fnV : Option Nat → Value
  | none => .nilFunc
  | some f => .func (.func f) #[] #[]
/-- Cells at a place. -/
def At (w : World) (b o : Nat) (vs : List Value) : Prop := ∀ (j : Nat) (v : Value), vs[j]? = some v → w.cell? ⟨b, o + j, none⟩ = some v
/-- A datum by its cells; rows lie in blocks that stand. -/
def RepT (te : TypeId) (w : World) (Sb : Nat → Prop) : (k : K) → k.T → List Value → Prop
  | .int k, n, cs => cs = [.int k n] ∧ okI k n
  | .bool, b, cs => cs = [.bool b]
  | .str, s, cs => ∃ sb, cs = [.string sb] ∧ bytesOf sb = s
  | .err, e, cs => cs = [errV te e]
  | .fn, f, cs => cs = [fnV f]
  | .slice e, xs, cs => ∃ a cap, cs = [.slice a (xs : List e.T).length cap] ∧ (xs : List e.T).length ≤ cap ∧ ((xs : List e.T) ≠ [] → ∃ ad, a = some ad ∧ ad.spot = none ∧ Sb ad.block ∧
      ∀ (i : Nat) (x : e.T), (xs : List e.T)[i]? = some x → ∃ vs, RepT te w Sb e x vs ∧ At w ad.block (ad.off + i * e.size) vs)
  | .prod a b, x, cs => ∃ c1 c2, cs = c1 ++ c2 ∧ RepT te w Sb a x.1 c1 ∧ RepT te w Sb b x.2 c2
  | .strct a, x, cs => RepT te w Sb a x cs
theorem RepT.len {te : TypeId} {w : World} {Sb : Nat → Prop} : ∀ {k : K} {x : k.T} {cs : List Value}, RepT te w Sb k x cs → cs.length = k.size
  | .int _, _, _, h => by rw [h.1]; rfl
  | .bool, _, _, h => by rw [show _ = _ from h]; rfl
  | .str, _, _, h => by obtain ⟨sb, rfl, _⟩ := h; rfl
  | .err, _, _, h => by rw [show _ = _ from h]; rfl
  | .fn, _, _, h => by rw [show _ = _ from h]; rfl
  | .slice e, _, _, h => by obtain ⟨a, cap, rfl, _⟩ := h; rfl
  | .prod a b, _, _, h => by
    obtain ⟨c1, c2, rfl, h1, h2⟩ := h
    simp [K.size, RepT.len h1, RepT.len h2]
  | .strct a, _, _, h => by simpa [K.size] using RepT.len (k := a) h
theorem At.of {w w' : World} {b o : Nat} {vs : List Value} (hb : w'.heap[b]? = w.heap[b]?) (h : At w b o vs) : At w' b o vs :=
  fun j v hv => (World.cell?_of_block (a := ⟨b, o + j, none⟩) hb).trans (h j v hv)
theorem RepT.mono {te : TypeId} {w w' : World} {Sb Sb' : Nat → Prop} (hb : ∀ b, Sb b → w'.heap[b]? = w.heap[b]?) (hs : ∀ b, Sb b → Sb' b) :
    ∀ {k : K} {x : k.T} {cs : List Value}, RepT te w Sb k x cs → RepT te w' Sb' k x cs
  | .int _, _, _, h => h
  | .bool, _, _, h => h
  | .str, _, _, h => h
  | .err, _, _, h => h
  | .fn, _, _, h => h
  | .slice e, xs, _, h => by
    obtain ⟨a, cap, hc, hl, hx⟩ := h
    refine ⟨a, cap, hc, hl, fun hne => ?_⟩
    obtain ⟨ad, ha, hsp, hS, hel⟩ := hx hne
    refine ⟨ad, ha, hsp, hs _ hS, fun i x hi => ?_⟩
    obtain ⟨vs, h1, h2⟩ := hel i x hi
    exact ⟨vs, RepT.mono hb hs h1, h2.of (hb _ hS)⟩
  | .prod a b, _, _, h => by
    obtain ⟨c1, c2, hc, h1, h2⟩ := h
    exact ⟨c1, c2, hc, RepT.mono hb hs h1, RepT.mono hb hs h2⟩
  | .strct a, x, _, h => RepT.mono (k := a) (x := x) hb hs h
/-- Where no rows are, the blocks don't matter. -/
theorem RepT.any {te : TypeId} {w w' : World} {Sb Sb' : Nat → Prop} : ∀ {k : K} {x : k.T} {cs : List Value}, k.rows = false → RepT te w Sb k x cs → RepT te w' Sb' k x cs
  | .int _, _, _, _, h => h
  | .bool, _, _, _, h => h
  | .str, _, _, _, h => h
  | .err, _, _, _, h => h
  | .fn, _, _, _, h => h
  | .slice e, _, _, hr, _ => by simp [K.rows] at hr
  | .prod a b, _, _, hr, h => by
    obtain ⟨c1, c2, hc, h1, h2⟩ := h
    simp [K.rows] at hr
    exact ⟨c1, c2, hc, RepT.any hr.1 h1, RepT.any hr.2 h2⟩
  | .strct a, x, _, hr, h => RepT.any (k := a) (x := x) hr h

/-- What a frame of the small machine stands in. -/
structure Cx where
  te : TypeId
  w : World
  S : Nat → Prop
  β : Nat → Option Nat
  hp : Nat → Option Obj
def stepOff : PStep → Nat
  | .fld o => o
  | .idx _ sz i => i.toNat * sz
def pathOff (p : List PStep) : Nat := p.foldr (fun s n => stepOff s + n) 0
def stepIn : PStep → Prop
  | .fld _ => True
  | .idx n _ i => 0 ≤ i ∧ i < (n : Int)
def pathIn (p : List PStep) : Prop := ∀ s ∈ p, stepIn s
/-- A block of cells, as many as are told by 'n', none of them frozen. -/
def Blk (w : World) (b : Nat) (arr : Array Value) : Prop := ∃ T fz, w.heap[b]? = some (.cells arr T fz)
def FzOk (n : Nat) (fz : Nat × Nat) : Prop := (∀ o, o < n → ¬ (fz.1 ≤ o ∧ o < fz.2)) ∧ fz.1 ≤ fz.2
def BlkFree (w : World) (b : Nat) (arr : Array Value) : Prop := ∃ T fz, w.heap[b]? = some (.cells arr T fz) ∧ FzOk arr.size fz
theorem BlkFree.blk {w : World} {b : Nat} {arr : Array Value} (h : BlkFree w b arr) : Blk w b arr := by
  obtain ⟨T, fz, h, _⟩ := h; exact ⟨T, fz, h⟩
/-- A slice value at row 'k ys' of id, its last state: the row's own block from its begin. -/
def VwNow (c : Cx) (id : Nat) (k : K) (off len n : Nat) (v : Value) : Prop :=
  match c.β id with
  | none => v = .slice none 0 0 ∧ n = 0 ∧ off = 0 ∧ len = 0
  | some b => ∃ cap arr a, v = .slice (some a) len cap ∧ len ≤ cap ∧ Blk c.w b arr ∧ (off + len ≤ n) ∧ ((0 < cap → a = ⟨b, off * k.size, none⟩ ∧ (off + cap) * k.size ≤ arr.size))
/-- A slice value at an elder state of row id, which is n long now. -/
def VwOld (c : Cx) (id : Nat) (n : Nat) (k : K) (ys : List k.T) (v : Value) : Prop :=
  ∃ a cap, v = .slice a ys.length cap ∧ ys.length ≤ cap ∧ (ys ≠ [] → ∃ ad, a = some ad ∧ ad.spot = none ∧ (c.S ad.block ∨ (c.β id = some ad.block ∧ ad.off + ys.length * k.size ≤ n * k.size)) ∧
    ∀ (i : Nat) (x : k.T), ys[i]? = some x → ∃ vs, RepT c.te c.w c.S k x vs ∧ At c.w ad.block (ad.off + i * k.size) vs)
/-- What a cell of the small machine says of a cell of the real one. -/
def RepS (c : Cx) : S → Value → Prop
  | .undef, v => one v = true
  | .bool b, v => v = .bool b
  | .int k n, v => v = .int k n ∧ okI k n
  | .str s, v => ∃ sb, v = .string sb ∧ bytesOf sb = s
  | .err e, v => v = errV c.te e
  | .fn f, v => v = fnV f
  | .nilS, v => v = .slice none 0 0
  | .sl k xs, v => RepT c.te c.w c.S (.slice k) xs [v]
  | .vw id g, v => one v = true ∧ ∃ o, c.hp id = some o ∧ ∀ k xs gen hist frz, o = .row k xs gen hist frz → g ≤ gen ∧ (g = gen → VwNow c id k 0 xs.length xs.length v) ∧ (g ≠ gen → ∀ ys, hist[gen - 1 - g]? = some ys → VwOld c id xs.length k ys v)
  | .pv id g off len, v => one v = true ∧ ∃ o, c.hp id = some o ∧ ∀ k xs gen hist frz, o = .row k xs gen hist frz → g ≤ gen ∧ (g = gen → VwNow c id k off len xs.length v)
  | .ptr id g i p, v => one v = true ∧ ∃ o, c.hp id = some o ∧ pathIn p ∧ (∀ cs, o = .box cs → cs ≠ [] → ∃ b, c.β id = some b ∧ v = .pointer (some ⟨b, pathOff p, none⟩) ∧ g = 0 ∧ i = 0) ∧
      (∀ k xs gen hist frz, o = .row k xs gen hist frz → g ≤ gen ∧ (g = gen → i < xs.length ∧ ∃ b, c.β id = some b ∧ v = .pointer (some ⟨b, i * k.size + pathOff p, none⟩)))
  | .mp id, v => one v = true ∧ ∃ o, c.hp id = some o ∧ ∀ k es, o = .mp k es → ∃ b, c.β id = some b ∧ v = .map (some b)
  | .clo f k x, v => ∃ b o vs, c.S b ∧ v = .func (.func f) #[] #[.pointer (some ⟨b, o, none⟩)] ∧ RepT c.te c.w c.S k x vs ∧ At c.w b o vs
  | .ipt k x p, v => pathIn p ∧ ∃ b o vs, c.S b ∧ v = .pointer (some ⟨b, o + pathOff p, none⟩) ∧ RepT c.te c.w c.S k x vs ∧ At c.w b o vs
  | .mv .., _ => False
  | .io .., _ => False
/-- A row of the machine's. -/
def RowIn (c : Cx) (b : Nat) (k : K) (xs : List k.T) : Prop :=
  ∃ arr, Blk c.w b arr ∧ xs.length * k.size ≤ arr.size ∧ ∀ (i : Nat) (x : k.T), xs[i]? = some x → ∃ vs, RepT c.te c.w c.S k x vs ∧ ∀ (j : Nat) v, vs[j]? = some v → arr[i * k.size + j]? = some v
/-- A scalar, and its cell. -/
def RepE : (k : K) → k.T → Value → Prop
  | .int k, n, v => v = .int k n ∧ okI k n
  | .bool, b, v => v = .bool b
  | _, _, _ => False
def RepM (k : K) (e : Int × k.T) (m : MapEntry) : Prop := m.key = .int .i64 e.1 ∧ RepE k e.2 m.val
def RepO (c : Cx) (id : Nat) : Obj → Prop
  | .box cs => cs ≠ [] → ∃ b arr, c.β id = some b ∧ BlkFree c.w b arr ∧ LR (RepS c) cs (arr.toList.take cs.length)
  | .row k xs _ _ frz => match c.β id with
    | none => xs = []
    | some b => RowIn c b k xs ∧ (frz = false → ∃ arr, BlkFree c.w b arr) ∧ (frz = true → c.S b)
  | .mp k es => ∃ b ents clock, c.β id = some b ∧ c.w.heap[b]? = some (.map ents clock) ∧ LR (RepM k) es ents.toList
def Obj.live : Obj → Bool
  | .box cs => !cs.isEmpty
  | .row _ _ _ _ frz => !frz
  | .mp _ _ => true
/-- Blocks that may be written. -/
def Live (c : Cx) (id b : Nat) : Prop := c.β id = some b ∧ ∃ o, c.hp id = some o ∧ o.live = true
/-- What was there ahead, and is not handed over, is as it was. -/
structure Fr (w0 : World) (M : Nat → Prop) (w : World) : Prop where
  os : w.os = w0.os
  tape : w.tape = w0.tape
  output : w.output = w0.output
  size : w0.heap.size ≤ w.heap.size
  block : ∀ b, b < w0.heap.size → ¬ M b → w.heap[b]? = w0.heap[b]?
/-- Blocks that may change, and blocks that stood when the frame began. -/
structure MS where
  m : Nat → Prop
  s : Nat → Prop
instance : CoeFun MS (fun _ => Nat → Prop) := ⟨MS.m⟩
structure Mem (w0 : World) (M : MS) (c : Cx) : Prop where
  fr : Fr w0 M.m c.w
  below : ∀ b, c.S b → b < c.w.heap.size
  obj : ∀ id o, c.hp id = some o → RepO c id o
  live : ∀ id b, Live c id b → b < c.w.heap.size ∧ ¬ c.S b ∧ (w0.heap.size ≤ b ∨ M b)
  one : ∀ id id' b, Live c id b → Live c id' b → id = id'
  sup : ∀ b, c.S b → M.s b ∨ w0.heap.size ≤ b ∨ M.m b
  inf : ∀ b, M.s b → c.S b
def RepV (c : Cx) : AV → Value → Prop
  | .undef, _ => True
  | .val true cs, v => ∃ arr, v = .agg arr ∧ LR (RepS c) cs arr.toList
  | .val false cs, v => ∃ s, cs = [s] ∧ RepS c s v
  | .tup vs, v => ∃ arr, v = .tuple arr ∧ LR (fun (p : Bool × List S) u => if p.1 then ∃ a, u = Value.agg a ∧ LR (RepS c) p.2 a.toList else ∃ s, p.2 = [s] ∧ RepS c s u) vs arr.toList
structure Regs (c : Cx) (n : Nat) (env : List (Nat × AV)) (a : Act) : Prop where
  size : a.tmps.size = n
  defers : a.defers = []
  rep : ∀ t, RepV c (look env t) (a.tmps.getD t undef)
end Go.Eng
