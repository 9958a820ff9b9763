/- Lemmas of this session: a number's bytes by the law's own text are the same; the example. -/
import Derived.Test.YtfbbcdkbgnmmcaaVar
import Derived.Test.YtfbbcdkbgnmmcaaPAllx5
import Derived.Test.YtfbbcdkbgnmmcaaPAllx2
namespace Go.Proofs.Ytfbbcdkbgnmmcaa.VarL
set_option linter.unusedVariables false
set_option linter.unusedSimpArgs false
open Go.RowKit Go.Proofs.Ytfbbcdkbgnmmcaa.PAll Go.Proofs.YtfbbcdkbgnmmcaaW.PrintWords Go.Proofs.YtfbbcdkbgnmmcaaW.PrintMore Go.Proofs.YtfbbcdkbgnmmcaaW.EvL Go.Proofs.YtfbbcdkbgnmmcaaW.Bs

theorem awake_ev : Ev (fun k => hawalalaw02_awake.f k) true := by
  unfold hawalalaw02_awake.f
  refine Ev.bind (all_ev [-1, 64] (by intro x hx; simp at hx; omega) (by simp)) (evConst ?_)
  have e : encs [-1, 64] = [1, 128, 1] := by
    have z1 : zig (-1) = 1 := by decide
    have z2 : zig 64 = 128 := by decide
    simp only [encs, z1, z2]
    rw [enc_small (show 1 < 128 by omega), enc_big (show 128 ≤ 128 by omega), enc_small (show 128 / 128 < 128 by omega)]
    rfl
  rw [e, so_toList]; rfl

theorem bytes_l0 (d : Nat) : ∀ (u : Nat) (acc : List Int), u < d → u < 18446744073709551616 → acc.length + (enc u).length ≤ 9223372036854775807 → Ev (fun k => hawalalaw02_bytes.l0 k (u : Int) (strOfNums acc)) (strOfNums (acc ++ enc u)) := by
  induction d with
  | zero => intro u x h; omega
  | succ d ih =>
    intro u acc h hu hx
    refine Ev.step (fun k => rfl) ?_
    simp only [hawalalaw02_bytes.l0]
    by_cases hb : 128 ≤ u
    · rw [enc_big hb] at hx ⊢
      simp only [List.length_cons] at hx
      have e1 : (Int.tmod (u : Int) 128 % 256 + 128) % 256 = ((u % 128 + 128 : Nat) : Int) := by rw [Int.tmod_eq_emod_of_nonneg (by omega)]; omega
      have e2 : IntKind.u64.wrap (Int.tdiv (u : Int) 128) = ((u / 128 : Nat) : Int) := by rw [wrapu64, Int.tdiv_eq_ediv_of_nonneg (by omega)]; omega
      rw [e1, e2]
      refine evIf (by omega) (evBind1 rfl (evIf (by rw [so_size, so_size]; simp; omega) ?_))
      rw [so_app, show (acc ++ ((u % 128 + 128 : Nat) : Int) :: enc (u / 128)) = (acc ++ [((u % 128 + 128 : Nat) : Int)]) ++ enc (u / 128) by simp]
      exact ih (u / 128) _ (by omega) (by omega) (by simp; omega)
    · rw [enc_small (by omega)] at hx ⊢
      simp only [List.length_singleton] at hx
      refine evElse (by omega) (evBind1 rfl (evIf (by rw [so_size, so_size]; simp; omega) (evConst ?_)))
      rw [so_app, show (u : Int) % 256 = (u : Int) by omega]
theorem bytes_ev (n : Int) (hn : -9223372036854775808 ≤ n ∧ n ≤ 9223372036854775807) : Ev (fun k => hawalalaw02_bytes.f k n) (strOfNums (enc (zig n))) := by
  have hz := zig_lt hn
  have hl := enc_len10 hz
  have main : Ev (fun k => hawalalaw02_bytes.j0 k (zig n : Int)) (strOfNums (enc (zig n))) := by
    refine Ev.step (fun k => rfl) ?_
    simp only [hawalalaw02_bytes.j0]
    rw [so_nil]
    simpa using bytes_l0 (zig n + 1) (zig n) [] (by omega) hz (by simp; omega)
  unfold hawalalaw02_bytes.f
  by_cases h : n < 0
  · refine evIf h ?_
    have e : IntKind.u64.wrap (IntKind.u64.wrap (2 * IntKind.u64.wrap (wrap64 (-1 - n))) + 1) = (zig n : Int) := by
      rw [w64 (by omega) (by omega), wrapu64, wrapu64, wrapu64]; unfold zig; rw [if_pos h]; omega
    rw [e]; exact main
  · refine evElse h ?_
    have e : IntKind.u64.wrap (2 * IntKind.u64.wrap n) = (zig n : Int) := by
      rw [wrapu64, wrapu64]; unfold zig; rw [if_neg h]; omega
    rw [e]; exact main
end Go.Proofs.Ytfbbcdkbgnmmcaa.VarL
