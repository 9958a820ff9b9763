/- As many accounts as may be are right, and no more; one whose balance goes over is not; of any book. Conditions: none beyond the statement's own. -/
import Derived.Test.YtajeobncbcpllaaChart7
import Derived.Test.YtajeobncbcpllaaPAllx8
namespace Go.Proofs.Ytajeobncbcpllaa.Pure
set_option linter.unusedVariables false
set_option linter.unusedSimpArgs false
open Go.RowKit Go.Proofs.Ytajeobncbcpllaa.PAll Go.Proofs.YtajeobncbcpllaaW.PrintWords Go.Proofs.YtajeobncbcpllaaW.PrintMore Go.Proofs.YtajeobncbcpllaaW.EvL Go.Proofs.Ytajeobncbcpllaa.ChartL

theorem okat_new (c : Int) (hc : 0 ≤ c ∧ c ≤ 2) (k : Nat) (hk : 9 ≤ k) : OkAt k (⟨c, 0, 0⟩ : Acc) :=
  ⟨hc.1, hc.2, by show (-1125899906842624 : Int) ≤ 0; omega, by show (0 : Int) ≤ 1125899906842624; omega, fun q => by omega, fun _ => ⟨by show (0 : Int) ≤ 0; omega, by show (0 : Int) ≤ 0; omega⟩⟩
theorem limit_l0 (n : Int) (hn : 0 ≤ n ∧ n ≤ 255) : ∀ (d : Nat) (ac : List Acc), (60 + n % 8).toNat = ac.length + d → 9 ≤ ac.length → (∀ (k : Nat) (h : k < ac.length), OkAt k ac[k]) → Ev (fun k => hawalalaw07_ChartLimit.l0 k n ac) true
  | 0, ac, h, h9, hok => by
    have e1 : wrap64 (Int.tmod n 8) = n % 8 := by rw [Int.tmod_eq_emod_of_nonneg hn.1, w64 (by omega) (by omega)]
    refine Ev.step (fun k => rfl) ?_
    simp only [hawalalaw07_ChartLimit.l0]
    rw [e1, w64 (show -9223372036854775808 ≤ 60 + n % 8 by omega) (by omega)]
    refine evElse (by omega) (Ev.bind (right_ev ac (by omega)) (evElse ?_ (evIf (by omega) (evBind1 rfl ?_))))
    · have : rightB ac = decide ((ac.length : Int) ≤ 64) := by
        by_cases h64 : ac.length ≤ 64
        · rw [decide_eq_true (by omega)]; exact (rightB_iff ac).2 ⟨h9, h64, hok⟩
        · rw [decide_eq_false (by omega)]
          unfold rightB
          rw [decide_eq_false h64]; simp
      rw [this]; simp
    · have hl60 : (ac.take 60).length = 60 := by simp; omega
      have h0 : 0 < (ac.take 60).length := by omega
      have g0 : (ac.take 60)[0] = ac[0] := by rw [List.getElem_take]
      have b0 := hok 0 (by omega)
      rw [show (60 : Int).toNat = 60 from rfl, show (0 : Int).toNat = 0 from rfl]
      have r0 := rdT (ac.take 60) 0 h0
      rw [show ((0 : Nat) : Int) = 0 from rfl] at r0
      rw [r0, g0]
      refine evIf (by omega) (evBind1 rfl (Ev.bind (right_ev _ (by simp; omega)) ?_))
      have hbad : rightB ((ac.take 60).set 0 (⟨ac[0].f0, -1125899906842625, ac[0].f2⟩ : Acc)) = false := by
        apply Bool.eq_false_iff.2
        intro q
        have := ((rightB_iff _).1 q).2.2 0 (by simp; omega)
        rw [List.getElem_set_self] at this
        have := this.2.2.1
        simp only at this
        omega
      rw [hbad]
      have r1 := rdT ((ac.take 60).set 0 (⟨ac[0].f0, -1125899906842625, ac[0].f2⟩ : Acc)) 0 (by simp; omega)
      rw [show ((0 : Nat) : Int) = 0 from rfl, List.getElem_set_self] at r1
      rw [r1]
      refine evElse (by decide) (Ev.bind (right_ev _ (by simp; omega)) (evConst ?_))
      congr 1
      rw [List.set_set]
      refine (rightB_iff _).2 ⟨by simp; omega, by simp; omega, fun k hk => ?_⟩
      simp only [List.length_set, hl60] at hk
      by_cases hk0 : 0 = k
      · subst hk0
        rw [List.getElem_set_self]
        exact ⟨b0.1, b0.2.1, by show (-1125899906842624 : Int) ≤ -1125899906842624; omega, by show (-1125899906842624 : Int) ≤ 1125899906842624; omega, fun _ => b0.2.2.2.2.1 (by omega), fun q => by omega⟩
      · rw [List.getElem_set_ne hk0, List.getElem_take]
        exact hok k (by omega)
  | d + 1, ac, h, h9, hok => by
    have e1 : wrap64 (Int.tmod n 8) = n % 8 := by rw [Int.tmod_eq_emod_of_nonneg hn.1, w64 (by omega) (by omega)]
    have e2 : wrap64 (Int.tmod n 3) = n % 3 := by rw [Int.tmod_eq_emod_of_nonneg hn.1, w64 (by omega) (by omega)]
    refine Ev.step (fun k => rfl) ?_
    simp only [hawalalaw07_ChartLimit.l0]
    rw [e1, e2, w64 (show -9223372036854775808 ≤ 60 + n % 8 by omega) (by omega)]
    refine evIf (by omega) (evIf (by omega) (limit_l0 n hn d _ (by simp; omega) (by simp; omega) (fun k hk => ?_)))
    by_cases hlt : k < ac.length
    · rw [List.getElem_append_left hlt]; exact hok k hlt
    · rw [List.getElem_append_right (by omega)]
      have e : k - ac.length = 0 := by simp at hk; omega
      simp only [e, List.getElem_cons_zero]
      exact okat_new _ (by omega) k (by omega)
theorem ChartLimit : hawalalaw07_ChartLimit.Pure := by
  intro y n hy hn
  have hn := wf_u8 hn
  obtain ⟨ac, m, hac, hB, hm⟩ := book_ev y hy
  have hl := hB.len
  apply evOf
  unfold hawalalaw07_ChartLimit.f
  refine Ev.bind awake7_ev (evIf rfl (Ev.bind hac ?_))
  exact limit_l0 n hn ((60 + n % 8).toNat - ac.length) ac (by omega) (by omega) hB.ok
end Go.Proofs.Ytajeobncbcpllaa.Pure
