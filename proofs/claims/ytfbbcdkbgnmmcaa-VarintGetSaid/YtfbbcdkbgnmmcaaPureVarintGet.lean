/- Bytes that are read are those of what is read of them, and what is behind; and bytes of which nothing is read are those of no number; for all bytes. Conditions: none beyond the statement's own. -/
import Derived.Test.YtfbbcdkbgnmmcaaVar2
import Derived.Test.YtfbbcdkbgnmmcaaPAllx7
namespace Go.Proofs.Ytfbbcdkbgnmmcaa.Pure
set_option linter.unusedVariables false
set_option linter.unusedSimpArgs false
open Go.RowKit Go.Proofs.Ytfbbcdkbgnmmcaa.PAll Go.Proofs.YtfbbcdkbgnmmcaaW.PrintWords Go.Proofs.YtfbbcdkbgnmmcaaW.EvL Go.Proofs.YtfbbcdkbgnmmcaaW.Bs Go.Proofs.Ytfbbcdkbgnmmcaa.VarL

theorem none_l0 (b : List Int) (hb : Byt b) (hl : b.length ≤ 9223372036854775000) : ∀ (d i p u : Nat) (q : Int), i + d = 10 → i ≤ 9 → i ≤ b.length → scan i p (b.drop i) u = none → Ev (fun k => hawalalaw02_VarintGet.l0 k b q (i : Int)) true
  | 0, i, p, u, q, h, hh, hi, hs => by
    exfalso; omega
  | d + 1, i, p, u, q, h, hh, hi, hs => by
    have hw : wrap64 (7 * (i : Int)) = 7 * i := w64 (by omega) (by omega)
    refine Ev.step (fun k => rfl) ?_
    simp only [hawalalaw02_VarintGet.l0]
    by_cases hil : i < b.length
    · refine evIf (by omega) ?_
      rw [List.drop_eq_getElem_cons hil] at hs
      have hc := hb b[i] (List.getElem_mem hil)
      have hr := rd_nat b i hil
      rw [hr]
      generalize b[i] = c at hc hr hs ⊢
      obtain ⟨c, rfl⟩ := Int.eq_ofNat_of_zero_le hc.1
      simp only [scan] at hs
      have last : ∀ z : Bool, z = false → ((c : Int) > 127 ∨ (0 < i ∧ (c : Int) = 0) ∨ (i = 9 ∧ (c : Int) > 1)) → Ev (fun k => hawalalaw02_VarintGet.j2 k b q (i : Int) z) true := by
        rintro z rfl hq
        refine Ev.step (fun k => rfl) ?_
        simp only [hawalalaw02_VarintGet.j2]
        rw [hr]
        refine evElse (by decide) (evElse (by omega) (evIf (by omega) (evIf (by omega) ?_)))
        by_cases h127 : (c : Int) > 127
        · exact evIf h127 (Ev.now _)
        · refine evElse h127 ?_
          by_cases hi0 : (i : Int) > 0
          · refine evIf hi0 ?_
            by_cases hc0 : (c : Int) = 0
            · exact evIf hc0 (Ev.now _)
            · refine evElse hc0 (evIf (by omega) (evConst (by rw [decide_eq_true (by omega)])))
          · exact evElse hi0 (evIf (by omega) (evConst (by rw [decide_eq_true (by omega)])))
      by_cases h9 : i < 9
      · refine evIf (by omega) (evIf (by omega) ?_)
        rw [if_neg (by omega)] at hs
        by_cases h128 : (128 : Int) ≤ (c : Int)
        · rw [if_pos h128] at hs
          rw [decide_eq_true (show (c : Int) > 127 by omega)]
          refine Ev.step (fun k => rfl) ?_
          simp only [hawalalaw02_VarintGet.j2]
          rw [hw, w64 (by omega) (by omega)]
          refine evIf (by first | rfl | trivial) (evIf (by omega) (evIf (by omega) (evIf (by omega) ?_)))
          exact none_l0 b hb hl d (i + 1) _ _ _ (by omega) (by omega) (by omega) hs
        · rw [if_neg h128] at hs
          rw [decide_eq_false (show ¬ (c : Int) > 127 by omega)]
          refine last _ rfl ?_
          by_cases hz : 0 < i ∧ (c : Int) = 0
          · exact .inr (.inl hz)
          · rw [if_neg hz] at hs; cases hs
      · obtain rfl : i = 9 := by omega
        refine evElse (by omega) (last _ rfl ?_)
        by_cases h1 : (1 : Int) < (c : Int)
        · exact .inr (.inr ⟨rfl, h1⟩)
        · rw [if_neg (by omega), if_neg (by omega)] at hs
          by_cases hz : 0 < 9 ∧ (c : Int) = 0
          · exact .inr (.inl hz)
          · rw [if_neg hz] at hs; cases hs
    · refine evElse (by omega) ?_
      refine Ev.step (fun k => rfl) ?_
      simp only [hawalalaw02_VarintGet.j2]
      exact evElse (by decide) (evIf (by omega) (Ev.now _))

theorem VarintGet : hawalalaw02_VarintGet.Pure := by
  intro b hb
  have hl : b.length ≤ 140737488351232 := by have := hb.2.1; omega
  have hbb : Byt b := fun x hx => wf_u8 (hb.2.2 x hx)
  apply evOf
  unfold hawalalaw02_VarintGet.f
  refine Ev.bind awake_ev (evIf rfl (Ev.bind (get_ev b hbb (by omega)) ?_))
  cases hg : get b with
  | none =>
    refine evElse (by simp [ans]) (evIf rfl ?_)
    refine Ev.step (fun k => rfl) ?_
    simp only [hawalalaw02_VarintGet.j0]
    refine evElse (by simp [ans]) ?_
    exact none_l0 b hbb (by omega) 10 0 1 0 0 (by omega) (by omega) (by omega) (by simpa [VarL.get] using hg)
  | some ur =>
    obtain ⟨u, r⟩ := ur
    obtain ⟨he, hu⟩ := get_some hbb hg
    have hle := enc_len10 hu
    have hb2 := bytes_ev _ (unzig_range hu)
    first | rw [zig_unzig hu] at hb2 | rw [zig_unzig] at hb2
    have hlen : (enc u).length + r.length = b.length := by rw [he]; simp
    refine evIf rfl (Ev.bind hb2 (evIf (by show (strOfNums (enc u)).size + (strOfNums r).size ≤ _; rw [so_size, so_size]; omega) (evConst ?_)))
    show some ((strOfNums (enc u) ++ strOfNums r).toList == (strOfNums b).toList) = some true
    rw [so_app, ← he]; simp
end Go.Proofs.Ytfbbcdkbgnmmcaa.Pure
