/- A clone is the same, and changes apart; what is free is what is not held; of any accounts. Conditions: none beyond the statement's own. -/
import Derived.Test.YtajeobncbcpllaaChart7
import Derived.Test.YtajeobncbcpllaaPAllx9
import Derived.Test.YtajeobncbcpllaaPAllx10
namespace Go.Proofs.Ytajeobncbcpllaa.Pure
set_option linter.unusedVariables false
set_option linter.unusedSimpArgs false
open Go.RowKit Go.Proofs.Ytajeobncbcpllaa.PAll Go.Proofs.YtajeobncbcpllaaW.PrintWords Go.Proofs.YtajeobncbcpllaaW.PrintMore Go.Proofs.YtajeobncbcpllaaW.EvL Go.Proofs.Ytajeobncbcpllaa.ChartL

theorem ChartClone : hawalalaw07_ChartClone.Pure := by
  intro l y n hl hy hn
  have hn := wf_u8 hn
  have hm : l.length ≤ 9223372036854775000 := by have := hl.2.1; omega
  apply evOf
  unfold hawalalaw07_ChartClone.f
  refine Ev.bind awake7_ev (evIf rfl (evBind1 (clone_ev l hl.2.1) (Ev.bind (same_self l hm) (evIf rfl (evBind1 (a := wrap64 (y.f1 - y.f2)) rfl ?_)))))
  refine Ev.step (fun k => rfl) ?_
  simp only [hawalalaw07_ChartClone.j0]
  refine evElse (by simp) ?_
  by_cases h0 : (l.length : Int) = 0
  · exact evIf h0 (Ev.now _)
  · refine evElse h0 ?_
    obtain ⟨k, hk, hkl⟩ : ∃ k : Nat, Int.tmod (wrap64 n) (l.length : Int) = (k : Int) ∧ k < l.length := by
      have h1 : 0 ≤ n % (l.length : Int) := Int.emod_nonneg _ (by omega)
      have h2 : n % (l.length : Int) < (l.length : Int) := Int.emod_lt_of_pos _ (by omega)
      refine ⟨(n % (l.length : Int)).toNat, ?_, by omega⟩
      rw [w64 (by omega) (by omega), Int.tmod_eq_emod_of_nonneg (by omega)]; omega
    rw [hk, Int.toNat_natCast]
    refine evIf (by omega) (evIf (by omega) (evIf (by omega) (evBind1 rfl (evConst ?_))))
    rw [rdT l k hkl, rdT _ k (by simpa using hkl), List.getElem_set_self]
    have hx := wf_i64 (hl.2.2 l[k] (List.getElem_mem hkl)).2.1
    have hne : ¬ wrap64 (l[k].f1 + 1) = l[k].f1 := by unfold wrap64; omega
    simp [hne]
end Go.Proofs.Ytajeobncbcpllaa.Pure
