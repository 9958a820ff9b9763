/- api.Number, told from without (by what its contract says); small laws of whole numbers. -/
import Derived.Test.YtfkiapjkeopgfaaE28
set_option linter.all false
set_option linter.unusedVariables false
set_option linter.unusedSimpArgs false
set_option linter.deprecated false
namespace Go.Eng
open Go.RowKit
/-- 64-bit whole numbers. -/
abbrev w64 (n : Int) : Int := IntKind.i64.wrap n
theorem w64_spec (n : Int) : ∃ q : Int, w64 n = n - 18446744073709551616 * q ∧ -9223372036854775808 ≤ w64 n ∧ w64 n < 9223372036854775808 := by
  have h : w64 n = if 9223372036854775808 ≤ n % 18446744073709551616 then n % 18446744073709551616 - 18446744073709551616 else n % 18446744073709551616 := by
    unfold w64 IntKind.wrap
    simp [IntKind.bits, IntKind.signed]
  by_cases hc : 9223372036854775808 ≤ n % 18446744073709551616
  · rw [if_pos hc] at h
    exact ⟨n / 18446744073709551616 + 1, by omega, by omega, by omega⟩
  · rw [if_neg hc] at h
    exact ⟨n / 18446744073709551616, by omega, by omega, by omega⟩
theorem w64_eq {n : Int} (h1 : -9223372036854775808 ≤ n) (h2 : n < 9223372036854775808) : w64 n = n := by
  obtain ⟨q, h3, h4, h5⟩ := w64_spec n
  omega
theorem w8_eq {n : Int} (h1 : 0 ≤ n) (h2 : n < 256) : IntKind.u8.wrap n = n := by
  unfold IntKind.wrap
  simp only [IntKind.bits, IntKind.signed, Bool.false_and, Bool.false_eq_true, if_false]
  omega
theorem okU_of {n : Int} (h : (Lit.int .u8 n).wf = true) : 0 ≤ n ∧ n < 256 := by
  simp [Lit.wf, IntKind.min, IntKind.max, IntKind.signed, IntKind.bits] at h
  omega
theorem okI_of {n : Int} (h : (Lit.int .i64 n).wf = true) : -9223372036854775808 ≤ n ∧ n < 9223372036854775808 := by
  simp [Lit.wf, IntKind.min, IntKind.max, IntKind.signed, IntKind.bits] at h
  omega
theorem tmod_facts {a b : Int} (ha : 0 ≤ a) (hb : 0 < b) : 0 ≤ a.tmod b ∧ a.tmod b < b ∧ a.tmod b ≤ a := by
  rw [Int.tmod_eq_emod_of_nonneg ha]
  have h1 := Int.emod_add_mul_ediv a b
  have h2 := Int.ediv_nonneg ha (Int.le_of_lt hb)
  have h3 := Int.mul_nonneg (Int.le_of_lt hb) h2
  exact ⟨Int.emod_nonneg _ (by omega), Int.emod_lt_of_pos _ hb, by omega⟩
/-- A number that is told of an error, by its own number. -/
def XNum (num : Nat) : Outer := fun sg f args => match sg, args with
  | ⟨[(false, .int .i64)], []⟩, [.val false [.err e]] => bif Nat.beq f num then some (some (e.getD 0)) else none
  | _, _ => none
def GlOf (w : World) : Nat → Option Go.Obj := fun b => if b = 0 then w.heap[0]? else none
theorem xnum_ok {P : Program} {te : TypeId} {Gl : Nat → Option Go.Obj} {num : Nat} (hf : ∃ fn, P.funcs[num]? = some fn ∧ (fn.name == "runtime.NumGoroutine") = false ∧ fn.body.isNone = false)
    (h : ∀ (w : World) (Sb : Nat → Prop) (e : Option Int), Glob Gl Sb w → Calls P num #[errV te e] w fun x w' => x = .returned (.int .i64 (e.getD 0)) ∧ Below w.heap.size w w') : SoundX P te Gl (XNum num) := by
  intro sg f args rr hr
  replace hr : (XNum num sg f args).join = some rr := hr
  unfold XNum at hr
  split at hr
  · rename_i e
    cases hn : Nat.beq f num with
    | false => rw [hn] at hr; cases hr
    | true =>
      have := Nat.eq_of_beq_eq_true hn
      subst this
      rw [hn] at hr
      have hr : some (e.getD 0) = some rr := hr
      cases hr
      refine ⟨hf, fun w Sb vs bs hG hbel hA hbs hinj => ?_⟩
      obtain ⟨l1, l2⟩ := hA.length
      match hvs : vs.toList, bs, l1, l2, hA with
      | [], _, l1, _, _ => cases l1
      | _ :: _ :: _, _, l1, _, _ => cases l1
      | [_], [], _, l2, _ => cases l2
      | [_], _ :: _ :: _, _, l2, _ => cases l2
      | [v], [b], _, _, hA =>
        obtain ⟨⟨rfl, hv⟩, _⟩ := hA
        have hv : v = errV te e := repV_inv hv
        subst hv
        have : vs = #[errV te e] := by apply Array.ext'; simp [hvs]
        subst this
        refine (h w Sb e hG).mono ?_
        rintro x w' ⟨rfl, hb⟩
        refine ⟨_, rfl, Sb, #[.int .i64 (e.getD 0)], rfl, ⟨hb.os, hb.tape, hb.output, hb.size, fun b hlt _ => hb.block b hlt⟩, fun b hb => hb, fun b hs => ⟨Nat.lt_of_lt_of_le (hbel b hs) hb.size, .inl hs⟩, ?_, rfl⟩
        exact ⟨⟨_, rfl, rfl, rfl⟩, trivial⟩
  · cases hr
end Go.Eng
