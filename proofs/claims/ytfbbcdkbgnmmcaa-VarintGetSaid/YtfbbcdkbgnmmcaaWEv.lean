/- Lemmas of this session: what holds from some number of rounds on (Ev), way by way; bits of unsigned numbers. -/
import Derived.Test.YtfbbcdkbgnmmcaaWWords
namespace Go.Proofs.YtfbbcdkbgnmmcaaW.EvL
set_option linter.unusedVariables false
open Go.RowKit Go.Proofs.YtfbbcdkbgnmmcaaW.PrintWords

theorem evIf {α : Type} {c : Prop} [Decidable c] {f g : Nat → Option α} {r : α} (h : c) (k : Ev f r) : Ev (fun n => if c then f n else g n) r := by
  simp only [if_pos h]; exact k
theorem evElse {α : Type} {c : Prop} [Decidable c] {f g : Nat → Option α} {r : α} (h : ¬ c) (k : Ev g r) : Ev (fun n => if c then f n else g n) r := by
  simp only [if_neg h]; exact k
theorem evConst {α : Type} {o : Option α} {r : α} (h : o = some r) : Ev (fun _ => o) r := ⟨0, fun _ _ => h⟩
theorem evBind1 {α β : Type} {o : Option α} {f : Nat → α → Option β} {a : α} {r : β} (h : o = some a) (k : Ev (fun n => f n a) r) : Ev (fun n => o.bind (f n)) r := by
  subst h; exact k
theorem evOf {α : Type} {g : Nat → Option α} {r : α} (h : Ev g r) : ∃ k, g k = some r := Ev.rounds h
theorem evUniq {α : Type} {g : Nat → Option α} {r q : α} (h : Ev g r) (h' : Ev g q) : r = q := by
  obtain ⟨K, hK⟩ := h; obtain ⟨L, hL⟩ := h'
  have h1 := hK (max K L) (Nat.le_max_left _ _); have h2 := hL (max K L) (Nat.le_max_right _ _)
  rw [h1] at h2; exact Option.some.inj h2

theorem w64 {x : Int} (h0 : -9223372036854775808 ≤ x) (h1 : x ≤ 9223372036854775807) : wrap64 x = x := by unfold wrap64; omega

theorem rd_nat (l : List Int) (i : Nat) (h : i < l.length) : rd l (i : Int) = l[i] := by
  unfold rd; rw [Int.toNat_natCast, List.getD_eq_getElem?_getD, List.getElem?_eq_getElem h]; rfl

theorem xor32 (a b : BitVec 32) : Go.bits .xor .u32 (a.toNat : Int) (b.toNat : Int) = ((a ^^^ b).toNat : Int) := by
  have h1 : BitVec.ofInt 32 (a.toNat : Int) = a := by rw [BitVec.ofInt_natCast, BitVec.ofNat_toNat, BitVec.setWidth_eq]
  have h2 : BitVec.ofInt 32 (b.toNat : Int) = b := by rw [BitVec.ofInt_natCast, BitVec.ofNat_toNat, BitVec.setWidth_eq]
  show IntKind.u32.wrap ((BitVec.ofInt 32 (a.toNat : Int) ^^^ BitVec.ofInt 32 (b.toNat : Int)).toNat : Int) = _
  rw [h1, h2]
  have := (a ^^^ b).isLt
  have hw : IntKind.u32.wrap ((a ^^^ b).toNat : Int) = ((a ^^^ b).toNat : Int) % 4294967296 := by simp [IntKind.wrap, IntKind.bits, IntKind.signed]
  rw [hw]; omega
theorem xor32i (a : BitVec 32) (c : Int) : Go.bits .xor .u32 (a.toNat : Int) (c % 4294967296) = ((a ^^^ BitVec.ofInt 32 c).toNat : Int) := by
  rw [← xor32]
  congr 1
  rw [BitVec.toNat_ofInt]
  omega
theorem and32_1 (a : BitVec 32) : Go.bits .and .u32 (a.toNat : Int) 1 = (a.toNat : Int) % 2 := by
  have h1 : BitVec.ofInt 32 (a.toNat : Int) = a := by rw [BitVec.ofInt_natCast, BitVec.ofNat_toNat, BitVec.setWidth_eq]
  show IntKind.u32.wrap ((BitVec.ofInt 32 (a.toNat : Int) &&& BitVec.ofInt 32 1).toNat : Int) = _
  rw [h1]
  have h2 : (a &&& BitVec.ofInt 32 1).toNat = a.toNat % 2 := by
    rw [BitVec.toNat_and, show (BitVec.ofInt 32 1).toNat = 1 from rfl, Nat.and_one_is_mod]
  rw [h2]
  have hw : ∀ x : Int, IntKind.u32.wrap x = x % 4294967296 := fun x => by simp [IntKind.wrap, IntKind.bits, IntKind.signed]
  rw [hw]; omega
theorem wf_u8 {a : Int} (h : (Lit.int .u8 a).wf = true) : 0 ≤ a ∧ a ≤ 255 := by
  have h1 : IntKind.u8.min ≤ a ∧ a ≤ IntKind.u8.max := by simpa [Lit.wf] using h
  rwa [show IntKind.u8.min = 0 from rfl, show IntKind.u8.max = 255 from rfl] at h1
theorem wf_u16 {a : Int} (h : (Lit.int .u16 a).wf = true) : 0 ≤ a ∧ a ≤ 65535 := by
  have h1 : IntKind.u16.min ≤ a ∧ a ≤ IntKind.u16.max := by simpa [Lit.wf] using h
  rwa [show IntKind.u16.min = 0 from rfl, show IntKind.u16.max = 65535 from rfl] at h1
theorem wf_u32 {a : Int} (h : (Lit.int .u32 a).wf = true) : 0 ≤ a ∧ a ≤ 4294967295 := by
  have h1 : IntKind.u32.min ≤ a ∧ a ≤ IntKind.u32.max := by simpa [Lit.wf] using h
  rwa [show IntKind.u32.min = 0 from rfl, show IntKind.u32.max = 4294967295 from rfl] at h1
theorem wf_u64 {a : Int} (h : (Lit.int .u64 a).wf = true) : 0 ≤ a ∧ a ≤ 18446744073709551615 := by
  have h1 : IntKind.u64.min ≤ a ∧ a ≤ IntKind.u64.max := by simpa [Lit.wf] using h
  rwa [show IntKind.u64.min = 0 from rfl, show IntKind.u64.max = 18446744073709551615 from rfl] at h1
theorem wf_i8 {a : Int} (h : (Lit.int .i8 a).wf = true) : -128 ≤ a ∧ a ≤ 127 := by
  have h1 : IntKind.i8.min ≤ a ∧ a ≤ IntKind.i8.max := by simpa [Lit.wf] using h
  rwa [show IntKind.i8.min = -128 from rfl, show IntKind.i8.max = 127 from rfl] at h1
theorem wf_i16 {a : Int} (h : (Lit.int .i16 a).wf = true) : -32768 ≤ a ∧ a ≤ 32767 := by
  have h1 : IntKind.i16.min ≤ a ∧ a ≤ IntKind.i16.max := by simpa [Lit.wf] using h
  rwa [show IntKind.i16.min = -32768 from rfl, show IntKind.i16.max = 32767 from rfl] at h1
theorem wf_i32 {a : Int} (h : (Lit.int .i32 a).wf = true) : -2147483648 ≤ a ∧ a ≤ 2147483647 := by
  have h1 : IntKind.i32.min ≤ a ∧ a ≤ IntKind.i32.max := by simpa [Lit.wf] using h
  rwa [show IntKind.i32.min = -2147483648 from rfl, show IntKind.i32.max = 2147483647 from rfl] at h1
theorem wf_i64 {a : Int} (h : (Lit.int .i64 a).wf = true) : -9223372036854775808 ≤ a ∧ a ≤ 9223372036854775807 := by
  have h1 : IntKind.i64.min ≤ a ∧ a ≤ IntKind.i64.max := by simpa [Lit.wf] using h
  rwa [show IntKind.i64.min = -9223372036854775808 from rfl, show IntKind.i64.max = 9223372036854775807 from rfl] at h1
end Go.Proofs.YtfbbcdkbgnmmcaaW.EvL
