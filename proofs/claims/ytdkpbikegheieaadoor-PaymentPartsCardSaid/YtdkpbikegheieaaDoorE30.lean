/- Small laws for pure proofs: wraps by name, binds, loops by rounds. -/
import Derived.Test.YtdkpbikegheieaaDoorE29
set_option linter.all false
set_option linter.unusedVariables false
set_option linter.unusedSimpArgs false
set_option linter.deprecated false
namespace Go.Eng
abbrev w8 (n : Int) : Int := IntKind.u8.wrap n
abbrev w16 (n : Int) : Int := IntKind.u16.wrap n
abbrev w32 (n : Int) : Int := IntKind.u32.wrap n
abbrev wu64 (n : Int) : Int := IntKind.u64.wrap n
abbrev wi8 (n : Int) : Int := IntKind.i8.wrap n
abbrev wi16 (n : Int) : Int := IntKind.i16.wrap n
abbrev wi32 (n : Int) : Int := IntKind.i32.wrap n
theorem w16_eq {n : Int} (h1 : 0 ≤ n) (h2 : n < 65536) : w16 n = n := by
  unfold w16 IntKind.wrap
  simp only [IntKind.bits, IntKind.signed, Bool.false_and, Bool.false_eq_true, if_false]
  omega
theorem w32_eq {n : Int} (h1 : 0 ≤ n) (h2 : n < 4294967296) : w32 n = n := by
  unfold w32 IntKind.wrap
  simp only [IntKind.bits, IntKind.signed, Bool.false_and, Bool.false_eq_true, if_false]
  omega
theorem wu64_eq {n : Int} (h1 : 0 ≤ n) (h2 : n < 18446744073709551616) : wu64 n = n := by
  unfold wu64 IntKind.wrap
  simp only [IntKind.bits, IntKind.signed, Bool.false_and, Bool.false_eq_true, if_false]
  omega
theorem w8_mod (n : Int) : w8 n = n % 256 := by
  unfold w8 IntKind.wrap
  simp only [IntKind.bits, IntKind.signed, Bool.false_and, Bool.false_eq_true, if_false]
  rfl
theorem w32_mod (n : Int) : w32 n = n % 4294967296 := by
  unfold w32 IntKind.wrap
  simp only [IntKind.bits, IntKind.signed, Bool.false_and, Bool.false_eq_true, if_false]
  rfl
theorem wu64_mod (n : Int) : wu64 n = n % 18446744073709551616 := by
  unfold wu64 IntKind.wrap
  simp only [IntKind.bits, IntKind.signed, Bool.false_and, Bool.false_eq_true, if_false]
  rfl
theorem bindE {α β : Type} {o : Option α} {v : α} {F : α → Option β} {r : Option β} (h : o = some v) (h2 : F v = r) : o.bind F = r := by subst h; exact h2
end Go.Eng
