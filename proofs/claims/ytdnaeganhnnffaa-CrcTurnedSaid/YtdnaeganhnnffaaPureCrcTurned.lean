/- A byte that is turned is seen by the sum, for all bytes. Conditions: none beyond the statement's own. -/
import Derived.Test.YtdnaeganhnnffaaCrc3
import Derived.Test.YtdnaeganhnnffaaPAllx3
namespace Go.Proofs.Ytdnaeganhnnffaa.Pure
set_option linter.unusedVariables false
set_option linter.unusedSimpArgs false
open Go.RowKit Go.Proofs.Ytdnaeganhnnffaa.PAll Go.Proofs.YtdnaeganhnnffaaW.PrintWords Go.Proofs.YtdnaeganhnnffaaW.EvL Go.Proofs.Ytdnaeganhnnffaa.CrcL

theorem xor8 {a b : Int} (ha : 0 ≤ a ∧ a ≤ 255) (hb : 0 ≤ b ∧ b ≤ 255) : Go.bits .xor .u8 a b = ((BitVec.ofInt 8 a ^^^ BitVec.ofInt 8 b).toNat : Int) := by
  show IntKind.u8.wrap ((BitVec.ofInt 8 a ^^^ BitVec.ofInt 8 b).toNat : Int) = _
  have := (BitVec.ofInt 8 a ^^^ BitVec.ofInt 8 b).isLt
  have hw : ∀ x : Int, IntKind.u8.wrap x = x % 256 := fun x => by simp [IntKind.wrap, IntKind.bits, IntKind.signed]
  rw [hw]; omega
theorem ofInt8 {a : Int} (ha : 0 ≤ a ∧ a ≤ 255) : ((BitVec.ofInt 8 a).toNat : Int) = a := by
  rw [BitVec.toNat_ofInt]; omega
theorem xor8_range {a b : Int} (ha : 0 ≤ a ∧ a ≤ 255) (hb : 0 ≤ b ∧ b ≤ 255) : 0 ≤ Go.bits .xor .u8 a b ∧ Go.bits .xor .u8 a b ≤ 255 := by
  rw [xor8 ha hb]; have := (BitVec.ofInt 8 a ^^^ BitVec.ofInt 8 b).isLt; omega
theorem xor8_self {a b : Int} (ha : 0 ≤ a ∧ a ≤ 255) (hb : 0 ≤ b ∧ b ≤ 255) : Go.bits .xor .u8 a b = a ↔ b = 0 := by
  rw [xor8 ha hb]
  have e : (BitVec.ofInt 8 a ^^^ BitVec.ofInt 8 b = BitVec.ofInt 8 a) ↔ BitVec.ofInt 8 b = 0#8 := by
    constructor
    · intro h
      have := congrArg (fun z => BitVec.ofInt 8 a ^^^ z) h
      simpa [← BitVec.xor_assoc] using this
    · intro h; rw [h]; simp
  constructor
  · intro h
    have h1 : BitVec.ofInt 8 a ^^^ BitVec.ofInt 8 b = BitVec.ofInt 8 a := BitVec.eq_of_toNat_eq (by have := ofInt8 ha; omega)
    have := congrArg BitVec.toNat (e.1 h1)
    have h2 := ofInt8 hb
    rw [this] at h2; simpa using h2.symm
  · rintro rfl
    have h3 : BitVec.ofInt 8 (0 : Int) = 0#8 := by decide
    rw [e.2 h3]; exact ofInt8 ha
theorem CrcTurned : hawalalaw03_CrcTurned.Pure := by
  intro l at_ by_ hl hat hby
  have hl1 : l.length ≤ 140737488351232 := by have := hl.2.1; omega
  have hat' := wf_u16 hat
  apply evOf
  unfold hawalalaw03_CrcTurned.f
  refine Ev.bind awake_ev (evIf rfl ?_)
  by_cases h0 : l = []
  · subst h0
    refine evIf rfl (Ev.bind (sum_ev _ (by simp)) (evConst (by decide +kernel)))
  · have hlen : 0 < l.length := List.length_pos_iff.2 h0
    refine evElse (by omega) (evIf (by simp; omega) (evBind1 (a := l) (by simp) ?_))
    rw [w64 (by omega) (by omega), Int.tmod_eq_emod_of_nonneg (by omega)]
    have hk0 : 0 ≤ at_ % (l.length : Int) := Int.emod_nonneg _ (by omega)
    have hk1 : at_ % (l.length : Int) < (l.length : Int) := Int.emod_lt_of_pos _ (by omega)
    refine evElse (by omega) (evIf hk0 (evIf hk1 ?_))
    obtain ⟨k, hk⟩ : ∃ k : Nat, at_ % (l.length : Int) = (k : Int) := ⟨(at_ % (l.length : Int)).toNat, by omega⟩
    rw [hk] at hk1 ⊢
    have hkl : k < l.length := by omega
    refine Ev.bind (sum_ev l (by omega)) (Ev.bind (sum_ev _ (by simp; omega)) (evConst ?_))
    rw [rd_nat l k hkl, Int.toNat_natCast]
    have hc := wf_u8 (hl.2.2 l[k] (List.getElem_mem hkl))
    have hb := wf_u8 hby
    congr 1
    have hsplit : l = l.take k ++ l[k] :: l.drop (k + 1) := by rw [← List.drop_eq_getElem_cons hkl, List.take_append_drop]
    have hset : l.set k (Go.bits .xor .u8 l[k] by_) = l.take k ++ Go.bits .xor .u8 l[k] by_ :: l.drop (k + 1) := List.set_eq_take_append_cons_drop .. |>.trans (by rw [if_pos hkl])
    by_cases hb0 : by_ = 0
    · have : Go.bits .xor .u8 l[k] by_ = l[k] := (xor8_self hc hb).2 hb0
      rw [hset, this, ← hsplit]; simp [hb0]
    · have hne : ¬ sumOf l = sumOf (l.set k (Go.bits .xor .u8 l[k] by_)) := by
        intro hs
        rw [hset] at hs
        have hs2 : sumOf (l.take k ++ l[k] :: l.drop (k + 1)) = sumOf (l.take k ++ Go.bits .xor .u8 l[k] by_ :: l.drop (k + 1)) := by rw [← hsplit]; exact hs
        exact hb0 ((xor8_self hc hb).1 (sum_turned _ _ _ _ hc (xor8_range hc hb) hs2).symm)
      rw [beq_eq_false_iff_ne.2 hne, beq_eq_false_iff_ne.2 hb0]; rfl
end Go.Proofs.Ytdnaeganhnnffaa.Pure
