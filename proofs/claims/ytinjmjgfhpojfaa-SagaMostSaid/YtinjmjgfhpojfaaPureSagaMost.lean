/- Each step that is waited for leaves fewer steps at most; of any saga that begins with up to four legs, any answers. Conditions: none beyond the statement's own. -/
import Derived.Test.YtinjmjgfhpojfaaSaga
import Derived.Test.YtinjmjgfhpojfaaPAllx13
namespace Go.Proofs.Ytinjmjgfhpojfaa.Pure
set_option linter.unusedVariables false
set_option linter.unusedSimpArgs false
open Go.RowKit Go.Proofs.Ytinjmjgfhpojfaa.PAll Go.Proofs.YtinjmjgfhpojfaaW.PrintWords Go.Proofs.YtinjmjgfhpojfaaW.PrintMore Go.Proofs.YtinjmjgfhpojfaaW.EvL Go.Proofs.Ytinjmjgfhpojfaa.SagaL

theorem make_l0 {L : Int} (hL : 0 ≤ L ∧ L ≤ 4) (l : List Bool) (hl : l.length ≤ 9223372036854775000) : ∀ (d i : Nat) (a0 a1 a2 a3 a4 a5 a6 a7 a8 a9 a10 : Int), i + d = l.length → Fit L (a0, a1, a2, a3, a4, a5, a6, a7, a8, a9, a10) → ∃ s, Ev (fun k => hawalalaw14_Make.l0 k l (l.length : Int) (i : Int) a0 a1 a2 a3 a4 a5 a6 a7 a8 a9 a10) s ∧ Fit L s
  | 0, i, a0, a1, a2, a3, a4, a5, a6, a7, a8, a9, a10, h, hf => by
    refine ⟨(a0, a1, a2, a3, a4, a5, a6, a7, a8, a9, a10), ?_, hf⟩
    refine Ev.step (fun k => rfl) ?_
    simp only [hawalalaw14_Make.l0]
    exact evElse (by omega) (Ev.now _)
  | d + 1, i, a0, a1, a2, a3, a4, a5, a6, a7, a8, a9, a10, h, hf => by
    have hb := fit_leg hL a0 a1 a2 a3 a4 a5 a6 a7 a8 a9 a10 (rdOf false l (i : Int)) hf
    obtain ⟨s, hs, hsf⟩ := make_l0 hL l hl d (i + 1) (legB a0 a1 a2 a3 a4 a5 a6 a7 a8 a9 a10 (rdOf false l (i : Int))).1 (legB a0 a1 a2 a3 a4 a5 a6 a7 a8 a9 a10 (rdOf false l (i : Int))).2.1 (legB a0 a1 a2 a3 a4 a5 a6 a7 a8 a9 a10 (rdOf false l (i : Int))).2.2.1 (legB a0 a1 a2 a3 a4 a5 a6 a7 a8 a9 a10 (rdOf false l (i : Int))).2.2.2.1 (legB a0 a1 a2 a3 a4 a5 a6 a7 a8 a9 a10 (rdOf false l (i : Int))).2.2.2.2.1 (legB a0 a1 a2 a3 a4 a5 a6 a7 a8 a9 a10 (rdOf false l (i : Int))).2.2.2.2.2.1 (legB a0 a1 a2 a3 a4 a5 a6 a7 a8 a9 a10 (rdOf false l (i : Int))).2.2.2.2.2.2.1 (legB a0 a1 a2 a3 a4 a5 a6 a7 a8 a9 a10 (rdOf false l (i : Int))).2.2.2.2.2.2.2.1 (legB a0 a1 a2 a3 a4 a5 a6 a7 a8 a9 a10 (rdOf false l (i : Int))).2.2.2.2.2.2.2.2.1 (legB a0 a1 a2 a3 a4 a5 a6 a7 a8 a9 a10 (rdOf false l (i : Int))).2.2.2.2.2.2.2.2.2.1 (legB a0 a1 a2 a3 a4 a5 a6 a7 a8 a9 a10 (rdOf false l (i : Int))).2.2.2.2.2.2.2.2.2.2 (by omega) hb
    refine ⟨s, ?_, hsf⟩
    refine Ev.step (fun k => rfl) ?_
    simp only [hawalalaw14_Make.l0]
    refine evIf (by omega) (evIf (by omega) (evIf (by omega) (Ev.bind (lawleg_ev a0 a1 a2 a3 a4 a5 a6 a7 a8 a9 a10 _) ?_)))
    rw [w64 (by omega) (by omega)]; exact hs
theorem end_j2 {L : Int} (hL : 0 ≤ L ∧ L ≤ 4) (a0 a1 a2 a3 a4 a5 a6 a7 a8 a9 a10 : Int) (hf : Fit L (a0, a1, a2, a3, a4, a5, a6, a7, a8, a9, a10)) : Ev (fun k => hawalalaw14_SagaMost.j2 k a0 a1 a2 a3 a4 a5 a6 a7 a8 a9 a10) true := by
  refine Ev.step (fun k => rfl) ?_
  simp only [hawalalaw14_SagaMost.j2]
  refine evBind1 rfl (evBind1 (a := 0) (by unfold saga_Most.f; rw [if_neg (show ¬ (2 : Int) = 0 by decide), if_neg (show ¬ (2 : Int) = 1 by decide)]) (evIf (by first | rfl | trivial) ?_))
  by_cases h7 : a7 = 0
  · exact evBind1 (by unfold saga_Turn.f; rw [if_pos h7]) (evBind1 (a := 1) (by unfold saga_Most.f; rw [if_neg (show ¬ (1 : Int) = 0 by decide), if_pos (show (1 : Int) = 1 from rfl)]) (evConst rfl))
  · have h1 : a7 = 1 := by rcases hf.2 with h | h; exact absurd h.1 h7; exact h
    exact evBind1 (by unfold saga_Turn.f; rw [if_neg h7]) (evBind1 (a := 1) (by unfold saga_Most.f; rw [if_neg h7, if_pos h1]) (evConst rfl))
theorem most_l0 {L : Int} (hL : 0 ≤ L ∧ L ≤ 4) (l : List Bool) (hl : l.length ≤ 9223372036854775000) : ∀ (d i : Nat) (a0 a1 a2 a3 a4 a5 a6 a7 a8 a9 a10 : Int), i + d = l.length → Fit L (a0, a1, a2, a3, a4, a5, a6, a7, a8, a9, a10) → Ev (fun k => hawalalaw14_SagaMost.l0 k l (l.length : Int) (i : Int) a0 a1 a2 a3 a4 a5 a6 a7 a8 a9 a10) true
  | 0, i, a0, a1, a2, a3, a4, a5, a6, a7, a8, a9, a10, h, hf => by
    refine Ev.step (fun k => rfl) ?_
    simp only [hawalalaw14_SagaMost.l0]
    exact evElse (by omega) (end_j2 hL a0 a1 a2 a3 a4 a5 a6 a7 a8 a9 a10 hf)
  | d + 1, i, a0, a1, a2, a3, a4, a5, a6, a7, a8, a9, a10, h, hf => by
    have j : ∀ (ok z : Bool), (z = true ↔ ¬ (a7 = 0 ∧ ¬ a8 ≥ a5)) → Ev (fun k => hawalalaw14_SagaMost.j1 k ok l (l.length : Int) (i : Int) z a0 a1 a2 a3 a4 a5 a6 a7 a8 a9 a10) true := by
      intro ok z hz
      refine Ev.step (fun k => rfl) ?_
      simp only [hawalalaw14_SagaMost.j1]
      by_cases hc : a7 = 0 ∧ ¬ a8 ≥ a5
      · obtain rfl : z = false := by
          cases z with
          | false => rfl
          | true => exact absurd hc (hz.1 rfl)
        have hb := fit_leg hL a0 a1 a2 a3 a4 a5 a6 a7 a8 a9 a10 ok hf
        have hm := most_less hL a0 a1 a2 a3 a4 a5 a6 a7 a8 a9 a10 ok hf hc.1 hc.2
        have next := most_l0 hL l hl d (i + 1) (legB a0 a1 a2 a3 a4 a5 a6 a7 a8 a9 a10 ok).1 (legB a0 a1 a2 a3 a4 a5 a6 a7 a8 a9 a10 ok).2.1 (legB a0 a1 a2 a3 a4 a5 a6 a7 a8 a9 a10 ok).2.2.1 (legB a0 a1 a2 a3 a4 a5 a6 a7 a8 a9 a10 ok).2.2.2.1 (legB a0 a1 a2 a3 a4 a5 a6 a7 a8 a9 a10 ok).2.2.2.2.1 (legB a0 a1 a2 a3 a4 a5 a6 a7 a8 a9 a10 ok).2.2.2.2.2.1 (legB a0 a1 a2 a3 a4 a5 a6 a7 a8 a9 a10 ok).2.2.2.2.2.2.1 (legB a0 a1 a2 a3 a4 a5 a6 a7 a8 a9 a10 ok).2.2.2.2.2.2.2.1 (legB a0 a1 a2 a3 a4 a5 a6 a7 a8 a9 a10 ok).2.2.2.2.2.2.2.2.1 (legB a0 a1 a2 a3 a4 a5 a6 a7 a8 a9 a10 ok).2.2.2.2.2.2.2.2.2.1 (legB a0 a1 a2 a3 a4 a5 a6 a7 a8 a9 a10 ok).2.2.2.2.2.2.2.2.2.2 (by omega) hb
        have me := most_ev hL (legB a0 a1 a2 a3 a4 a5 a6 a7 a8 a9 a10 ok).1 (legB a0 a1 a2 a3 a4 a5 a6 a7 a8 a9 a10 ok).2.1 (legB a0 a1 a2 a3 a4 a5 a6 a7 a8 a9 a10 ok).2.2.1 (legB a0 a1 a2 a3 a4 a5 a6 a7 a8 a9 a10 ok).2.2.2.1 (legB a0 a1 a2 a3 a4 a5 a6 a7 a8 a9 a10 ok).2.2.2.2.1 (legB a0 a1 a2 a3 a4 a5 a6 a7 a8 a9 a10 ok).2.2.2.2.2.1 (legB a0 a1 a2 a3 a4 a5 a6 a7 a8 a9 a10 ok).2.2.2.2.2.2.1 (legB a0 a1 a2 a3 a4 a5 a6 a7 a8 a9 a10 ok).2.2.2.2.2.2.2.1 (legB a0 a1 a2 a3 a4 a5 a6 a7 a8 a9 a10 ok).2.2.2.2.2.2.2.2.1 (legB a0 a1 a2 a3 a4 a5 a6 a7 a8 a9 a10 ok).2.2.2.2.2.2.2.2.2.1 (legB a0 a1 a2 a3 a4 a5 a6 a7 a8 a9 a10 ok).2.2.2.2.2.2.2.2.2.2 hb
        refine evElse (by decide) (Ev.bind (leg_ev a0 a1 a2 a3 a4 a5 a6 a7 a8 a9 a10 ok) (evBind1 me (evBind1 (most_ev hL a0 a1 a2 a3 a4 a5 a6 a7 a8 a9 a10 hf) (evElse ?_ (evBind1 me (evElse ?_ ?_))))))
        · have := hm.1; show ¬ mostB L (legB a0 a1 a2 a3 a4 a5 a6 a7 a8 a9 a10 ok) ≥ mostB L (a0, a1, a2, a3, a4, a5, a6, a7, a8, a9, a10); omega
        · have := hm.2; show ¬ mostB L (legB a0 a1 a2 a3 a4 a5 a6 a7 a8 a9 a10 ok) < 1; omega
        · rw [w64 (by omega) (by omega)]; exact next
      · obtain rfl : z = true := hz.2 hc
        exact evIf (by first | rfl | trivial) (end_j2 hL a0 a1 a2 a3 a4 a5 a6 a7 a8 a9 a10 hf)
    refine Ev.step (fun k => rfl) ?_
    simp only [hawalalaw14_SagaMost.l0]
    refine evIf (by omega) (evIf (by omega) (evIf (by omega) ?_))
    by_cases h7 : a7 = 0
    · refine evIf h7 (evBind1 (a := decide (a8 ≥ a5)) (by unfold saga_Ready.f; rw [if_pos h7]) (j _ _ ?_))
      rw [decide_eq_true_eq]
      exact ⟨fun q q2 => q2.2 q, fun q => Classical.byContradiction fun q2 => q ⟨h7, q2⟩⟩
    · exact evElse h7 (j _ true ⟨fun _ q => h7 q.1, fun _ => rfl⟩)
theorem SagaMost : hawalalaw14_SagaMost.Pure := by
  intro n l1 l2 hn h1 h2
  have hn := wf_u8 hn
  have e5 : wrap64 (Int.tmod n 5) = n % 5 := by rw [Int.tmod_eq_emod_of_nonneg hn.1, w64 (by omega) (by omega)]
  have hL : 0 ≤ n % 5 ∧ n % 5 ≤ 4 := by omega
  obtain ⟨s, hs, hsf⟩ := make_l0 hL l1 (by have := h1.2.1; omega) l1.length 0 0 0 0 0 0 (n % 5) 0 0 0 0 0 (by omega) ⟨rfl, .inl ⟨rfl, by show (0 : Int) ≤ 0; omega, hL.1, by show (0 : Int) ≤ 0; omega, by show (0 : Int) ≤ 3; omega⟩⟩
  apply evOf
  unfold hawalalaw14_SagaMost.f
  refine Ev.bind awake_ev (evIf rfl (Ev.bind (a := s) (by unfold hawalalaw14_Make.f; rw [e5]; exact hs) ?_))
  exact most_l0 hL l2 (by have := h2.2.1; omega) l2.length 0 s.1 s.2.1 s.2.2.1 s.2.2.2.1 s.2.2.2.2.1 s.2.2.2.2.2.1 s.2.2.2.2.2.2.1 s.2.2.2.2.2.2.2.1 s.2.2.2.2.2.2.2.2.1 s.2.2.2.2.2.2.2.2.2.1 s.2.2.2.2.2.2.2.2.2.2 (by omega) hsf
end Go.Proofs.Ytinjmjgfhpojfaa.Pure
