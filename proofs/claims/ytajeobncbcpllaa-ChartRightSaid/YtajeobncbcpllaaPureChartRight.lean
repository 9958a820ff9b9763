/- Which accounts are right is what the document says: of a book, of one that is spoilt, and of any. Conditions: none beyond the statement's own. -/
import Derived.Test.YtajeobncbcpllaaChart7
import Derived.Test.YtajeobncbcpllaaPAllx7
namespace Go.Proofs.Ytajeobncbcpllaa.Pure
set_option linter.unusedVariables false
set_option linter.unusedSimpArgs false
open Go.RowKit Go.Proofs.Ytajeobncbcpllaa.PAll Go.Proofs.YtajeobncbcpllaaW.PrintWords Go.Proofs.YtajeobncbcpllaaW.PrintMore Go.Proofs.YtajeobncbcpllaaW.EvL Go.Proofs.Ytajeobncbcpllaa.ChartL

theorem ChartRight : hawalalaw07_ChartRight.Pure := by
  intro y at_ t raw hy hat ht hraw
  have hat := wf_u8 hat
  have hm : raw.length ≤ 9223372036854775000 := by have := hraw.2.1; omega
  obtain ⟨ac, n, hac, hB, hn⟩ := book_ev y hy
  have hl := hB.len
  apply evOf
  unfold hawalalaw07_ChartRight.f
  refine Ev.bind awake7_ev (evIf rfl (Ev.bind hac (Ev.bind (right_ev ac (by omega)) ?_)))
  rw [hB.right hn]
  obtain ⟨k, hk, hkl⟩ : ∃ k : Nat, Int.tmod (wrap64 at_) (ac.length : Int) = (k : Int) ∧ k < ac.length := by
    have h1 : 0 ≤ at_ % (ac.length : Int) := Int.emod_nonneg _ (by omega)
    have h2 : at_ % (ac.length : Int) < (ac.length : Int) := Int.emod_lt_of_pos _ (by omega)
    refine ⟨(at_ % (ac.length : Int)).toNat, ?_, by omega⟩
    rw [w64 (by omega) (by omega), Int.tmod_eq_emod_of_nonneg (by omega)]; omega
  rw [hk, Int.toNat_natCast]
  refine evIf (by first | rfl | trivial) (evElse (by omega) (evIf (by omega) (evIf (by omega) (evBind1 rfl (Ev.bind (right_ev _ (by simp; omega)) (Ev.bind (lawright_ev _ (by simp; omega)) (evIf (by simp) (Ev.bind (right_ev raw hm) (Ev.bind (lawright_ev raw hm) (evIf (by simp) (evIf (by omega) (Ev.bind (right_ev _ (by simp; omega)) (evConst ?_)))))))))))))
  have : rightB ((ac.set k (⟨t.f0, t.f1, t.f2⟩ : Acc)).take 8) = false := by
    unfold rightB
    rw [decide_eq_false (by simp; omega)]; rfl
  rw [this]; rfl
end Go.Proofs.Ytajeobncbcpllaa.Pure
