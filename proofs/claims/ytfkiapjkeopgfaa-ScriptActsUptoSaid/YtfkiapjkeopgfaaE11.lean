/- Indices, slices of slices, conversions, lengths. -/
import Derived.Test.YtfkiapjkeopgfaaE10
set_option linter.all false
set_option linter.unusedVariables false
set_option linter.unusedSimpArgs false
set_option linter.deprecated false
namespace Go.Eng
open Go.RowKit
theorem run_sliceBound {P : Program} {w : World} {k : IntKind} {i : Int} {y : Nat} {code : BoundsCode} (h0 : 0 ≤ i) (h1 : i ≤ (y : Int)) : (Instr.sliceBound (.int k i) y code).run P w = .ok i.toNat w := by
  unfold Instr.sliceBound
  rw [run_ok (show (asIntOf (.int k i)).run P w = .ok (k, i) w from rfl)]
  simp only []
  rw [if_pos ⟨h0, h1⟩]; rfl
theorem intArg_rep {c : Cx} {ρ : Operand → AV} {r : Operand → Value} (hr : ∀ x, RepV c (ρ x) (r x)) {d l : Int} {x : Option Operand} (h : intArg ρ d x = some l) : (x = none ∧ l = d) ∨ ∃ y k, x = some y ∧ r y = .int k l := by
  cases x with
  | none => simp [intArg] at h; exact .inl ⟨rfl, h.symm⟩
  | some y =>
    simp only [intArg] at h
    split at h
    · rename_i k n hs
      simp only [Option.some.injEq] at h; subst h
      exact .inr ⟨y, k, rfl, (slot_rep hr hs).1⟩
    · cases h
theorem run_sliceBounds {P : Program} {c : Cx} {ρ : Operand → AV} {r : Operand → Value} (hr : ∀ x, RepV c (ρ x) (r x)) {isS : Bool} {len cap : Nat} {l h : Int} {lo hi : Option Operand} (e1 : intArg ρ 0 lo = some l) (e2 : intArg ρ len hi = some h)
    (h0 : 0 ≤ l) (h1 : l ≤ h) (h2 : h ≤ (len : Int)) (h3 : len ≤ cap) : (Instr.sliceBounds isS len cap (lo.map r) (hi.map r) none).run P c.w = .ok (l.toNat, h.toNat, cap) c.w := by
  unfold Instr.sliceBounds
  rw [run_pb]
  rcases intArg_rep hr e2 with ⟨rfl, rfl⟩ | ⟨y, k, rfl, hy⟩
  · simp only [Option.map_none]
    rw [run_pb]
    rcases intArg_rep hr e1 with ⟨rfl, rfl⟩ | ⟨y, k, rfl, hy⟩
    · simp only [Option.map_none]
      rw [run_pb]; rfl
    · simp only [Option.map_some, hy]
      rw [run_ok (run_sliceBound h0 (by omega))]; rfl
  · simp only [Option.map_some, hy]
    rw [run_ok (run_sliceBound (by omega) (by omega))]
    rcases intArg_rep hr e1 with ⟨rfl, rfl⟩ | ⟨y', k', rfl, hy'⟩
    · simp only [Option.map_none]
      rw [run_pb]; rfl
    · simp only [Option.map_some, hy']
      rw [run_ok (run_sliceBound h0 (by omega))]; rfl
section
variable {P : Program} {A : Ann} {fid : Nat} {w0 : World} {M : MS} {c : Cx} {ρ : Operand → AV} {r : Operand → Value} {hp : Nat → Option Obj} {o : Oper} {v : AV} {u : Upd}
/-- The real machine's slice expression. -/
theorem run_slice (hr : ∀ x, RepV c (ρ x) (r x)) {t e : TypeId} {sz : Nat} (hu : P.underlying t = some (.slice e)) (hsz : sizeT P e = some sz) {a : Option Addr} {len cap : Nat} {l h : Int} {lo hi : Option Operand} (e1 : intArg ρ 0 lo = some l) (e2 : intArg ρ len hi = some h)
    (h0 : 0 ≤ l) (h1 : l ≤ h) (h2 : h ≤ (len : Int)) (h3 : len ≤ cap) :
    (Instr.sliceAt t (.slice a len cap) (lo.map r) (hi.map r) none).run P c.w = .ok (.slice (if cap = l.toNat then a else a.map (·.add (l.toNat * sz))) (h.toNat - l.toNat) (cap - l.toNat)) c.w := by
  unfold Instr.sliceAt
  rw [run_ok (run_underlying hu c.w)]
  simp only []
  unfold Instr.slice
  rw [run_ok (run_underlying hu c.w)]
  simp only []
  rw [run_ok (run_sliceBounds hr e1 e2 h0 h1 h2 h3)]
  simp only []
  rw [run_ok (run_sizeOf hsz c.w)]; rfl
theorem slice_same {a : Option Addr} {len cap sz : Nat} : Value.slice (if cap = 0 then a else a.map (·.add (0 * sz))) (len - 0) (cap - 0) = .slice a len cap := by
  simp only [Nat.sub_zero, Nat.zero_mul]
  split
  · rfl
  · cases a <;> simp [Addr.add]
theorem core_slice (hm : Mem w0 M c) (hh : ∀ id o, hp id = some o → c.hp id = some o) (hr : ∀ x, RepV c (ρ x) (r x)) {t : TypeId} {x : Operand} {lo hi mx : Option Operand} (ho : o.op = .slice t x lo hi mx) (h : core P A fid ρ hp o = .ok true v u) :
    StepOk w0 M c ((execOp r o).run P c.w) v u := by
  simp only [core, ho] at h
  simp only [execOp, ho]
  split at h
  · -- a string
    rename_i s hs hu
    obtain ⟨sb, es, rfl⟩ := slot_rep hr hs
    split at h
    · rename_i l hh' e1 e2
      simp only [Out.ok.injEq, Bool.and_eq_true, decide_eq_true_eq] at h
      obtain ⟨⟨⟨h0, h1⟩, h2⟩, rfl, rfl⟩ := h
      rw [bytesOf_length] at e2 h2
      rw [es]
      refine .quiet hm (run_val (v := .string (sb.extract l.toNat hh'.toNat)) ?_) (repV_one ⟨_, rfl, ?_⟩)
      · unfold Instr.sliceAt
        rw [run_ok (run_underlying hu c.w)]
        simp only []
        unfold Instr.slice
        rw [run_ok (run_underlying hu c.w)]
        simp only [Option.map_none, Option.isSome_none, Bool.false_eq_true, if_false]
        rw [run_ok (run_sliceBounds hr e1 e2 h0 h1 h2 (Nat.le_refl _))]; rfl
      · simp only [bytesOf, ByteArray.data_extract, Array.toList_extract, List.map_take, List.map_drop, List.extract]
    · cases h
  · -- a slice
    rename_i s e hs hu
    have hrs := slot_rep hr hs
    split at h
    · rename_i sz hsz
      -- what the real machine does
      have go : ∀ {a : Option Addr} {len cap : Nat} {l h' : Int}, r x = .slice a len cap → intArg ρ 0 lo = some l → intArg ρ len hi = some h' → 0 ≤ l → l ≤ h' → h' ≤ (len : Int) → len ≤ cap →
          (do pure (Next.value (← Instr.sliceAt t (r x) (lo.map r) (hi.map r) (Option.map r none))) : Sem Next).run P c.w = .ok (.value (.slice (if cap = l.toNat then a else a.map (·.add (l.toNat * sz))) (h'.toNat - l.toNat) (cap - l.toNat))) c.w := by
        intro a len cap l h' hx e1 e2 h0 h1 h2 h3
        refine run_val ?_
        rw [hx]
        exact run_slice hr hu hsz e1 e2 h0 h1 h2 h3
      by_cases hall : lo = none ∧ hi = none
      · -- all of it
        obtain ⟨rfl, rfl⟩ := hall
        simp only [sliceS] at h
        split at h
        · cases h
        · rename_i hne
          simp only [okv, Out.ok.injEq, true_and] at h
          obtain ⟨rfl, rfl⟩ := h
          have : ∃ a len cap, r x = .slice a len cap ∧ len ≤ cap := by
            cases hro : rowOf hp s with
            | none => exact (hne hro).elim
            | nil => exact ⟨none, 0, 0, view_nil hro hrs, Nat.le_refl _⟩
            | some k ys =>
              obtain ⟨a, cap, q1, q2, _⟩ := view_vis hm hh hro hrs
              exact ⟨a, _, cap, q1, q2⟩
          obtain ⟨a, len, cap, hx, hle⟩ := this
          refine .quiet hm (v' := r x) ?_ (repV_one hrs)
          have := go (l := 0) (h' := (len : Int)) hx rfl rfl (by omega) (by omega) (by omega) hle
          simp only [Int.toNat_zero, Int.toNat_natCast] at this
          rw [slice_same, ← hx] at this; exact this
      cases s with
      | nilS =>
        have h : (match intArg ρ 0 lo, intArg ρ 0 hi with
          | some l, some h => Out.ok (decide (l = 0) && decide (h = 0)) (.val false [.nilS]) []
          | _, _ => .bad) = .ok true v u := by
          cases lo <;> cases hi <;> first | exact h | exact (hall ⟨rfl, rfl⟩).elim
        split at h
        · rename_i l h' e1 e2
          simp only [Out.ok.injEq, Bool.and_eq_true, decide_eq_true_eq] at h
          obtain ⟨⟨rfl, rfl⟩, rfl, rfl⟩ := h
          have hx : r x = .slice none 0 0 := hrs
          have := go (l := 0) (h' := 0) hx e1 e2 (by omega) (by omega) (by omega) (Nat.le_refl _)
          exact .quiet hm this (repV_one rfl)
        · cases h
      | sl k xs =>
       cases lo with
       | none =>
        cases hi with
        | none => exact (hall ⟨rfl, rfl⟩).elim
        | some y =>
        simp only [sliceS] at h
        split at h
        · rename_i h' e2
          cases hb : Nat.beq sz k.size with
          | false => rw [hb] at h; cases h
          | true =>
            rw [hb] at h
            simp only [Bool.not_true, cond_false, Out.ok.injEq, Bool.and_eq_true, decide_eq_true_eq] at h
            obtain ⟨⟨h1, h2⟩, rfl, rfl⟩ := h
            have hk := Nat.eq_of_beq_eq_true hb
            have hrs' : RepT c.te c.w c.S (.slice k) xs [r x] := hrs
            obtain ⟨a, cap, q1, q2, q3⟩ := hrs'
            have hx : r x = .slice a xs.length cap := by simpa using q1
            have e2' : intArg ρ xs.length (some y) = some h' := by simpa [intArg] using e2
            have := go (l := 0) (h' := h') hx rfl e2' (by omega) h1 h2 q2
            refine .quiet hm this (repV_one ?_)
            rw [hx] at hrs
            have := slice_sl (k := k) (xs := xs) hrs (l := 0) (hi := h'.toNat) (by omega) (by omega)
            rw [List.drop_zero] at this
            rw [hk]; simp only [RepS]; simpa using this
        · cases h
       | some y =>
        cases hi with
        | none =>
         simp only [sliceS] at h
         split at h
         · rename_i l e1
           cases hb : Nat.beq sz k.size with
           | false => rw [hb] at h; cases h
           | true =>
             rw [hb] at h
             simp only [Bool.not_true, cond_false, Out.ok.injEq, Bool.and_eq_true, decide_eq_true_eq] at h
             obtain ⟨⟨h1, h2⟩, rfl, rfl⟩ := h
             have hk := Nat.eq_of_beq_eq_true hb
             have hrs' : RepT c.te c.w c.S (.slice k) xs [r x] := hrs
             obtain ⟨a, cap, q1, q2, q3⟩ := hrs'
             have hx : r x = .slice a xs.length cap := by simpa using q1
             have := go (l := l) (h' := (xs.length : Int)) hx e1 rfl (by omega) (by omega) (by omega) q2
             refine .quiet hm this (repV_one ?_)
             rw [hx] at hrs
             have := slice_sl (k := k) (xs := xs) hrs (l := l.toNat) (hi := xs.length) (by omega) (by omega)
             rw [List.take_of_length_le (by simp)] at this
             rw [hk]; simp only [RepS]; simpa using this
         · cases h
        | some z =>
         simp only [sliceS] at h
         split at h
         · rename_i l h' e1 e2
           cases hb : Nat.beq sz k.size with
           | false => rw [hb] at h; cases h
           | true =>
             rw [hb] at h
             simp only [Bool.not_true, cond_false, Out.ok.injEq, Bool.and_eq_true, decide_eq_true_eq] at h
             obtain ⟨⟨⟨h0, h1⟩, h2⟩, rfl, rfl⟩ := h
             have hk := Nat.eq_of_beq_eq_true hb
             have hrs' : RepT c.te c.w c.S (.slice k) xs [r x] := hrs
             obtain ⟨a, cap, q1, q2, q3⟩ := hrs'
             have hx : r x = .slice a xs.length cap := by simpa using q1
             have e2' : intArg ρ xs.length (some z) = some h' := by simpa [intArg] using e2
             have := go (l := l) (h' := h') hx e1 e2' h0 h1 h2 q2
             refine .quiet hm this (repV_one ?_)
             rw [hx] at hrs
             have := slice_sl (k := k) (xs := xs) hrs (l := l.toNat) (hi := h'.toNat) (by omega) (by omega)
             rw [hk]; exact this
         · cases h
      | vw id g =>
        have h : (match rowOf hp (.vw id g) with
          | .some k xs => (match intArg ρ 0 lo, intArg ρ xs.length hi with
            | some l, some h => bif !Nat.beq sz k.size then Out.bad else .ok (decide (0 ≤ l) && decide (l ≤ h) && decide (h ≤ (xs.length : Int))) (.val false [.pv id g l.toNat (h.toNat - l.toNat)]) []
            | _, _ => .bad)
          | _ => .bad) = .ok true v u := by
          cases lo <;> cases hi <;> first | exact h | exact (hall ⟨rfl, rfl⟩).elim
        split at h
        · rename_i k xs hro
          split at h
          · rename_i l h' e1 e2
            cases hb : Nat.beq sz k.size with
            | false => rw [hb] at h; cases h
            | true =>
              rw [hb] at h
              simp only [Bool.not_true, cond_false, Out.ok.injEq, Bool.and_eq_true, decide_eq_true_eq] at h
              obtain ⟨⟨⟨h0, h1⟩, h2⟩, rfl, rfl⟩ := h
              have hk := Nat.eq_of_beq_eq_true hb
              obtain ⟨a, cap, q1, q2, q3⟩ := view_vis hm hh hro hrs
              have := go (l := l) (h' := h') q1 e1 e2 h0 h1 h2 q2
              refine .quiet hm this (repV_one ⟨rfl, ?_⟩)
              obtain ⟨_, ob, t1, t2⟩ := hrs
              refine ⟨ob, t1, fun k' xs' gen hist frz e' => ?_⟩
              obtain ⟨p1, p2, _⟩ := t2 _ _ _ _ _ e'
              refine ⟨p1, fun hg => ?_⟩
              have hvn := p2 hg
              have hro2 : rowOf hp (.vw id g) = .some k' xs' := by
                subst e'
                simp only [rowOf] at hro ⊢
                split at hro
                · rename_i k2 xs2 gen2 hist2 frz2 hid
                  have := hh id _ hid
                  rw [t1] at this; cases this
                  subst hg
                  simp [contAt]
                · cases hro
              rw [hro] at hro2
              simp only [RowV.some.injEq] at hro2
              obtain ⟨rfl, hro3⟩ := hro2
              cases hro3
              simp only [VwNow] at hvn ⊢
              cases hbb : c.β id with
              | none =>
                rw [hbb] at hvn
                obtain ⟨z1, z2, _⟩ := hvn
                rw [q1] at z1
                have hz : a = none ∧ xs.length = 0 ∧ cap = 0 := by simpa using z1
                obtain ⟨rfl, hz1, rfl⟩ := hz
                have : h' = 0 ∧ l = 0 := by omega
                obtain ⟨rfl, rfl⟩ := this
                simp [hz1]
              | some b =>
                rw [hbb] at hvn
                obtain ⟨cap', arr, a', z1, z2, z3, z4, z5⟩ := hvn
                rw [q1] at z1
                cases z1
                refine ⟨cap - l.toNat, arr, if cap = l.toNat then a' else a'.add (l.toNat * sz), by split <;> rfl, by omega, z3, by omega, fun hc => ?_⟩
                obtain ⟨rfl, z6⟩ := z5 (by omega)
                rw [if_neg (by omega), add_mk, hk]
                exact ⟨by simp, by rw [show l.toNat + (cap - l.toNat) = 0 + cap by omega]; exact z6⟩
          · cases h
        · cases h
      | pv id g off len =>
        have h : (match rowOf hp (.pv id g off len) with
          | .some k _ => (match intArg ρ 0 lo, intArg ρ len hi with
            | some l, some h => bif !Nat.beq sz k.size then Out.bad else .ok (decide (0 ≤ l) && decide (l ≤ h) && decide (h ≤ (len : Int))) (.val false [.pv id g (l.toNat + off) (h.toNat - l.toNat)]) []
            | _, _ => .bad)
          | _ => .bad) = .ok true v u := by
          cases lo <;> cases hi <;> first | exact h | exact (hall ⟨rfl, rfl⟩).elim
        split at h
        · rename_i k ys hro
          split at h
          · rename_i l h' e1 e2
            cases hb : Nat.beq sz k.size with
            | false => rw [hb] at h; cases h
            | true =>
              rw [hb] at h
              simp only [Bool.not_true, cond_false, Out.ok.injEq, Bool.and_eq_true, decide_eq_true_eq] at h
              obtain ⟨⟨⟨h0, h1⟩, h2⟩, rfl, rfl⟩ := h
              have hk := Nat.eq_of_beq_eq_true hb
              simp only [rowOf] at hro
              split at hro
              · rename_i k2 xs gen hist frz hid
                cases hg : Nat.beq g gen with
                | false => rw [hg] at hro; cases hro
                | true =>
                  rw [hg] at hro
                  simp only [cond_true, RowV.some.injEq] at hro
                  obtain ⟨rfl, _⟩ := hro
                  obtain ⟨_, ob, t1, t2⟩ := hrs
                  have e1' := hh id _ hid
                  rw [e1'] at t1; cases t1
                  obtain ⟨p1, p2⟩ := t2 _ _ _ _ _ rfl
                  have hvn := p2 (Nat.eq_of_beq_eq_true hg)
                  simp only [VwNow] at hvn
                  cases hbb : c.β id with
                  | none =>
                    rw [hbb] at hvn
                    obtain ⟨z1, z2, z3, z4⟩ := hvn
                    subst z3; subst z4
                    have := go (l := l) (h' := h') z1 e1 e2 h0 h1 h2 (Nat.le_refl _)
                    have hl0 : h' = 0 ∧ l = 0 := by omega
                    obtain ⟨rfl, rfl⟩ := hl0
                    refine .quiet hm this (repV_one ⟨rfl, _, e1', fun k' xs' gen' hist' frz' e' => ?_⟩)
                    cases e'
                    refine ⟨p1, fun _ => ?_⟩
                    simp only [VwNow, hbb]
                    simp [z2]
                  | some b =>
                    rw [hbb] at hvn
                    obtain ⟨cap, arr, a', z1, z2, z3, z4, z5⟩ := hvn
                    have := go (l := l) (h' := h') z1 e1 e2 h0 h1 h2 z2
                    refine .quiet hm this (repV_one ⟨rfl, _, e1', fun k' xs' gen' hist' frz' e' => ?_⟩)
                    cases e'
                    refine ⟨p1, fun _ => ?_⟩
                    simp only [VwNow, hbb]
                    refine ⟨cap - l.toNat, arr, if cap = l.toNat then a' else a'.add (l.toNat * sz), by split <;> rfl, by omega, z3, by omega, fun hc => ?_⟩
                    obtain ⟨rfl, z6⟩ := z5 (by omega)
                    rw [if_neg (by omega), add_mk, hk]
                    refine ⟨by rw [Nat.add_mul, Nat.add_comm], ?_⟩
                    rw [show l.toNat + off + (cap - l.toNat) = off + cap by omega]; exact z6
              · cases hro
          · cases h
        · cases h
      | _ => cases lo <;> cases hi <;> first | (simp only [sliceS] at h; cases h) | exact (hall ⟨rfl, rfl⟩).elim
    · cases h
  · cases h
end
end Go.Eng
