/- A number's bytes are what the document says, and it is read of them; for all numbers, behind all bytes. Conditions: none beyond the statement's own. -/
import Derived.Test.YtfbbcdkbgnmmcaaVar2
import Derived.Test.YtfbbcdkbgnmmcaaPAllx6
namespace Go.Proofs.Ytfbbcdkbgnmmcaa.Pure
set_option linter.unusedVariables false
set_option linter.unusedSimpArgs false
open Go.RowKit Go.Proofs.Ytfbbcdkbgnmmcaa.PAll Go.Proofs.YtfbbcdkbgnmmcaaW.PrintWords Go.Proofs.YtfbbcdkbgnmmcaaW.EvL Go.Proofs.YtfbbcdkbgnmmcaaW.Bs Go.Proofs.Ytfbbcdkbgnmmcaa.VarL

theorem VarintPut : hawalalaw02_VarintPut.Pure := by
  intro b n hb hn
  have hn := wf_i64 hn
  have hl : b.length ≤ 140737488351232 := by have := hb.2.1; omega
  have hbb : Byt b := fun x hx => wf_u8 (hb.2.2 x hx)
  have hz := zig_lt hn
  have hlen := enc_len10 hz
  apply evOf
  unfold hawalalaw02_VarintPut.f
  refine Ev.bind awake_ev (evIf rfl (evIf (by simp; omega) (Ev.bind (put_ev _ n hn (by simp; omega)) (Ev.bind (all_ev [n, 5] (by intro x hx; simp at hx; omega) (by simp)) ?_))))
  have e5 : VarL.encs [n, 5] = enc (zig n) ++ [10] := by
    have z5 : zig 5 = 10 := by decide
    simp only [VarL.encs, z5]
    rw [enc_small (show 10 < 128 by omega)]; simp
  rw [e5]
  refine Ev.bind (get_ev _ (Byt.append (enc_byt _) (Byt.cons (by omega) Byt.nil)) (by simp; omega)) ?_
  rw [get_enc _ _ hz]
  refine Ev.bind (bytes_ev n hn) ?_
  rw [so_app]
  refine evIf (by rw [so_size, so_size]; omega) (evIf (by simp) (evIf rfl (evIf (unzig_zig n) (evConst ?_))))
  simp only [ans]
  rw [so_toList]; rfl
end Go.Proofs.Ytfbbcdkbgnmmcaa.Pure
