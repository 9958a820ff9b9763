/- The laws of layer 12: what the functions come to, and why each law says true. Conditions: the statements' own. -/
import Derived.Test.YtdkpbikegheieaaDoorPPayQ
set_option linter.all false
set_option linter.unusedVariables false
set_option linter.unusedSimpArgs false
set_option linter.deprecated false
namespace Go.Eng.Pay
open Go.Proofs Go.Eng
abbrev I := K.int .i64
abbrev U := K.int .u8
abbrev KP : K := KPayment
abbrev KQ : K := KPaid
abbrev sB : Sig := ⟨[(false, .bool)], []⟩
abbrev sI : Sig := ⟨[(false, I)], []⟩
abbrev sP : Sig := ⟨[(false, KP)], []⟩
abbrev sPB : Sig := ⟨[(false, KP), (false, .bool)], []⟩
abbrev sPE : Sig := ⟨[(false, KP), (false, .err)], []⟩
set_option maxRecDepth 100000
theorem awake : CF 5 sB 9 [] = some true := by kernel_rfl
abbrev mkP (f t a c r g u s : Int) : KP.T := (f, t, a, c, r, g, u, s)
abbrev mkQ (q1 q2 q3 q4 q5 q6 q7 : Int) (b : Bool) : KQ.T := (q1, q2, q3, q4, q5, q6, q7, b)
section
variable (k : Nat) (f t a c r g u s : Int)
theorem gave : CF (k + 1) sI 15 [inj KP (mkP f t a c r g u s)] = some (w64 (w64 (c - r) - g)) := by kernel_rfl
def L14 (a c s : Int) : Int := bif !decide (s = 0) then 0 else w64 (a - c)
theorem left : CF (k + 1) sI 14 [inj KP (mkP f t a c r g u s)] = (bif !decide (s = 0) then some (0 : Int) else some (w64 (a - c)) : Option Int) := by kernel_rfl
def R17 (a c r g u s : Int) : Option Bool :=
  bif decide (a < 1) then some false else bif decide (1099511627776 < a) then some false else bif decide (c < 0) then some false else bif decide (a < c) then some false else
      bif decide (u < 0) then some false else bif decide (1073741824 < u) then some false else
      bif !decide (s = 0) then (bif !decide (s = 1) then some false else
        bif decide (0 ≤ r) then bif decide (0 ≤ g) then bif decide (r ≤ c) then some (decide (g ≤ w64 (c - r))) else some false else some false else some false)
      else bif decide (0 ≤ r) then bif decide (0 ≤ g) then bif decide (r ≤ c) then some (decide (g ≤ w64 (c - r))) else some false else some false else some false
theorem right17 : CF (k + 1) sB 17 [inj KP (mkP f t a c r g u s)] = R17 a c r g u s := by kernel_rfl
def R16 (a c r g u s : Int) : Option Bool :=
  bif decide (1 ≤ a) then bif decide (a ≤ 1099511627776) then bif decide (0 ≤ c) then bif decide (c ≤ a) then bif decide (0 ≤ r) then bif decide (0 ≤ g) then
      bif decide (r ≤ c) then bif decide (g ≤ c) then bif decide (0 ≤ w64 (w64 (c - r) - g)) then bif decide (0 ≤ u) then bif decide (u ≤ 1073741824) then
        bif decide (s = 0) then some true else some (decide (s = 1)) else some false else some false else some false
      else some false else some false else some false else some false else some false else some false else some false else some false
theorem right16 : CF (k + 2) sB 16 [inj KP (mkP f t a c r g u s)] = R16 a c r g u s := by kernel_rfl
def RP (a c r g u s : Int) : Prop := 1 ≤ a ∧ a ≤ 1099511627776 ∧ 0 ≤ c ∧ c ≤ a ∧ 0 ≤ u ∧ u ≤ 1073741824 ∧ (s = 0 ∨ s = 1) ∧ 0 ≤ r ∧ 0 ≤ g ∧ r ≤ c ∧ g ≤ c - r
instance : Decidable (RP a c r g u s) := by unfold RP; exact inferInstance
theorem some_dec {p : Prop} [Decidable p] : ∀ b : Bool, (b = true ↔ p) → some b = some (decide p) := by
  intro b hb
  congr 1
  cases b with
  | true => exact (decide_eq_true (hb.1 rfl)).symm
  | false => exact (decide_eq_false (fun h => by cases hb.2 h)).symm
set_option maxHeartbeats 4000000 in
theorem r16 : R16 a c r g u s = some (decide (RP a c r g u s)) := by
  unfold R16
  obtain ⟨q1, h1, h2, h3⟩ := w64_spec (c - r)
  obtain ⟨q2, h4, h5, h6⟩ := w64_spec (w64 (c - r) - g)
  simp only [Bool.cond_decide]
  repeat' split
  all_goals
    refine some_dec _ ?_
    unfold RP
    simp only [decide_eq_true_eq, Bool.false_eq_true, true_iff, false_iff]
    omega
theorem r17 : R17 a c r g u s = some (decide (RP a c r g u s)) := by
  unfold R17
  obtain ⟨q1, h1, h2, h3⟩ := w64_spec (c - r)
  simp only [Bool.cond_decide, Bool.cond_not]
  repeat' split
  all_goals
    refine some_dec _ ?_
    unfold RP
    simp only [decide_eq_true_eq, Bool.false_eq_true, true_iff, false_iff]
    omega
end
theorem okI8_of {n : Int} (h : (Lit.int .i8 n).wf = true) : -128 ≤ n ∧ n < 128 := by
  simp [Lit.wf, IntKind.min, IntKind.max, IntKind.signed, IntKind.bits] at h
  omega
def payF (q1 q2 q3 q4 q5 q6 q7 : Int) (b : Bool) : Option KP.T :=
  bif !decide (w64 (w64 (1 + w64 q3) + 1) = 0) then
    bif !decide (w64 ((w64 q4).tmod (w64 (w64 (1 + w64 q3) + 1)) + 1) = 0) then
      bif !decide (w64 (w64 ((w64 q4).tmod (w64 (w64 (1 + w64 q3) + 1)) - (w64 q5).tmod (w64 ((w64 q4).tmod (w64 (w64 (1 + w64 q3) + 1)) + 1))) + 1) = 0) then
        let a := w64 (1 + w64 q3)
        let c := (w64 q4).tmod (w64 (a + 1))
        let r := (w64 q5).tmod (w64 (c + 1))
        let g := (w64 q6).tmod (w64 (w64 (c - r) + 1))
        let u := w64 (Int.tmod q7 20)
        let f := w64 (9 + w64 (Int.tmod q1 6))
        let t := w64 (9 + w64 (Int.tmod q2 6))
        bif b then some (mkP f t a c r g u 1) else bif decide (c = a) then some (mkP f t a c r g u 1) else some (mkP f t a c r g u 0)
      else none
    else none
  else none
theorem pay10 (k : Nat) (q1 q2 q3 q4 q5 q6 q7 : Int) (b : Bool) : CF (k + 1) sP 10 [inj KQ (mkQ q1 q2 q3 q4 q5 q6 q7 b)] = payF q1 q2 q3 q4 q5 q6 q7 b := by kernel_rfl
def okU (n : Int) : Prop := 0 ≤ n ∧ n < 256
/-- A paid's payment is right; its numbers are small. -/
def Good (f t a c r g u s : Int) : Prop := 9 ≤ f ∧ f ≤ 14 ∧ 9 ≤ t ∧ t ≤ 14 ∧ 1 ≤ a ∧ a ≤ 256 ∧ 0 ≤ c ∧ c ≤ a ∧ 0 ≤ r ∧ r ≤ c ∧ 0 ≤ g ∧ g ≤ c - r ∧ 0 ≤ u ∧ u < 20 ∧ (s = 0 ∧ c < a ∨ s = 1)
theorem payG (q1 q2 q3 q4 q5 q6 q7 : Int) (b : Bool) (h1 : okU q1) (h2 : okU q2) (h3 : okU q3) (h4 : okU q4) (h5 : okU q5) (h6 : okU q6) (h7 : okU q7) :
    ∃ f t a c r g u s, payF q1 q2 q3 q4 q5 q6 q7 b = some (mkP f t a c r g u s) ∧ Good f t a c r g u s := by
  unfold okU at h1 h2 h3 h4 h5 h6 h7
  unfold payF
  simp only []
  rw [show w64 q3 = q3 from w64_eq (by omega) (by omega), show w64 q4 = q4 from w64_eq (by omega) (by omega), show w64 q5 = q5 from w64_eq (by omega) (by omega), show w64 q6 = q6 from w64_eq (by omega) (by omega)]
  rw [show w64 (1 + q3) = 1 + q3 from w64_eq (by omega) (by omega)]
  rw [show w64 (1 + q3 + 1) = 1 + q3 + 1 from w64_eq (by omega) (by omega)]
  obtain ⟨c1, c2, c3⟩ := tmod_facts (a := q4) (b := 1 + q3 + 1) h4.1 (by omega)
  generalize q4.tmod (1 + q3 + 1) = c at *
  rw [show w64 (c + 1) = c + 1 from w64_eq (by omega) (by omega)]
  obtain ⟨d1, d2, d3⟩ := tmod_facts (a := q5) (b := c + 1) h5.1 (by omega)
  generalize q5.tmod (c + 1) = r at *
  rw [show w64 (c - r) = c - r from w64_eq (by omega) (by omega)]
  rw [show w64 (c - r + 1) = c - r + 1 from w64_eq (by omega) (by omega)]
  obtain ⟨e1, e2, e3⟩ := tmod_facts (a := q6) (b := c - r + 1) h6.1 (by omega)
  generalize q6.tmod (c - r + 1) = g at *
  obtain ⟨f1, f2, f3⟩ := tmod_facts (a := q7) (b := 20) h7.1 (by omega)
  generalize q7.tmod 20 = u at *
  rw [show w64 u = u from w64_eq (by omega) (by omega)]
  obtain ⟨g1, g2, g3⟩ := tmod_facts (a := q1) (b := 6) h1.1 (by omega)
  generalize q1.tmod 6 = fr at *
  rw [show w64 fr = fr from w64_eq (by omega) (by omega), show w64 (9 + fr) = 9 + fr from w64_eq (by omega) (by omega)]
  obtain ⟨i1, i2, i3⟩ := tmod_facts (a := q2) (b := 6) h2.1 (by omega)
  generalize q2.tmod 6 = to at *
  rw [show w64 to = to from w64_eq (by omega) (by omega), show w64 (9 + to) = 9 + to from w64_eq (by omega) (by omega)]
  rw [decide_eq_false (show ¬ (1 + q3 + 1 = 0) by omega), decide_eq_false (show ¬ (c + 1 = 0) by omega), decide_eq_false (show ¬ (c - r + 1 = 0) by omega)]
  simp only [Bool.not_false, cond_true]
  cases b with
  | true => exact ⟨_, _, _, _, _, _, _, _, rfl, by unfold Good; omega⟩
  | false =>
    simp only [cond_false]
    by_cases hc : c = 1 + q3
    · rw [decide_eq_true hc]; exact ⟨_, _, _, _, _, _, _, _, rfl, by unfold Good; omega⟩
    · rw [decide_eq_false hc]; exact ⟨_, _, _, _, _, _, _, _, rfl, by unfold Good; omega⟩
theorem good_RP {f t a c r g u s : Int} (h : Good f t a c r g u s) : RP a c r g u s := by unfold Good at h; unfold RP; omega
theorem law7 (k : Nat) (f t a c r g u s q1 q2 q3 q4 q5 q6 q7 : Int) (b : Bool) : CF (k + 1) sB 7 [inj KP (mkP f t a c r g u s), inj KQ (mkQ q1 q2 q3 q4 q5 q6 q7 b)] =
    (CF k sB 9 []).bind fun (z : Bool) => bif !z then some false else (CF k sP 10 [inj KQ (mkQ q1 q2 q3 q4 q5 q6 q7 b)]).bind fun (x : KP.T) => (CF k sB 16 [inj KP (mkP f t a c r g u s)]).bind fun (r1 : Bool) => (CF k sB 17 [inj KP (mkP f t a c r g u s)]).bind fun (r2 : Bool) =>
      bif !r1 == r2 then some false else (CF k sB 16 [inj KP x]).bind fun (r3 : Bool) => bif !r3 then some false else
        bif decide (x.2.2.2.2.2.2.2 = (0 : Int)) then (CF k sI 14 [inj KP x]).bind fun (r4 : Int) => bif decide (r4 = w64 (x.2.2.1 - x.2.2.2.1)) then (CF k sI 15 [inj KP x]).bind fun (r5 : Int) => some (decide (r5 = w64 (w64 (x.2.2.2.1 - x.2.2.2.2.1) - x.2.2.2.2.2.1))) else some false
        else (CF k sI 14 [inj KP x]).bind fun (r4 : Int) => bif decide (r4 = 0) then (CF k sI 15 [inj KP x]).bind fun (r5 : Int) => some (decide (r5 = w64 (w64 (x.2.2.2.1 - x.2.2.2.2.1) - x.2.2.2.2.2.1))) else some false := by kernel_rfl
theorem PaymentRight (f t a c r g u s q1 q2 q3 q4 q5 q6 q7 : Int) (b : Bool) (h1 : okU q1) (h2 : okU q2) (h3 : okU q3) (h4 : okU q4) (h5 : okU q5) (h6 : okU q6) (h7 : okU q7) :
    CF 6 sB 7 [inj KP (mkP f t a c r g u s), inj KQ (mkQ q1 q2 q3 q4 q5 q6 q7 b)] = some true := by
  obtain ⟨f', t', a', c', r', g', u', s', hx, hg⟩ := payG q1 q2 q3 q4 q5 q6 q7 b h1 h2 h3 h4 h5 h6 h7
  have hR := good_RP hg
  have e1 := right16 3 f t a c r g u s
  have e2 := right17 4 f t a c r g u s
  have e3 := right16 3 f' t' a' c' r' g' u' s'
  have e4 := left 4 f' t' a' c' r' g' u' s'
  have e5 := gave 4 f' t' a' c' r' g' u' s'
  rw [r16] at e1 e3
  rw [r17] at e2
  rw [decide_eq_true hR] at e3
  refine (law7 5 f t a c r g u s q1 q2 q3 q4 q5 q6 q7 b).trans ?_
  rw [awake]
  show (CF 5 sP 10 [inj KQ (mkQ q1 q2 q3 q4 q5 q6 q7 b)]).bind _ = _
  rw [pay10, hx]
  show (CF 5 sB 16 [inj KP (mkP f t a c r g u s)]).bind _ = _
  rw [e1]
  show (CF 5 sB 17 [inj KP (mkP f t a c r g u s)]).bind _ = _
  rw [e2]
  show (bif !(decide (RP a c r g u s)) == decide (RP a c r g u s) then some false else (CF 5 sB 16 [inj KP (mkP f' t' a' c' r' g' u' s')]).bind _ : Option Bool) = _
  rw [show (!(decide (RP a c r g u s)) == decide (RP a c r g u s)) = false by cases decide (RP a c r g u s) <;> rfl, cond_false, e3]
  show (bif decide (s' = 0) then (CF 5 sI 14 [inj KP (mkP f' t' a' c' r' g' u' s')]).bind _ else (CF 5 sI 14 [inj KP (mkP f' t' a' c' r' g' u' s')]).bind _ : Option Bool) = _
  rw [e4]
  by_cases hs : s' = 0
  · rw [decide_eq_true hs]
    show (bif decide (w64 (a' - c') = w64 (a' - c')) then (CF 5 sI 15 [inj KP (mkP f' t' a' c' r' g' u' s')]).bind _ else some false : Option Bool) = _
    rw [decide_eq_true rfl, cond_true, e5]
    exact congrArg some (decide_eq_true rfl)
  · rw [decide_eq_false hs, cond_false]
    refine Eq.trans (b := (CF 5 sI 15 [inj KP (mkP f' t' a' c' r' g' u' s')]).bind (fun (r5 : Int) => some (decide (r5 = w64 (w64 (c' - r') - g'))))) rfl ?_
    rw [e5]
    exact congrArg some (decide_eq_true rfl)
abbrev sF : Sig := ⟨[(false, .fn)], []⟩
abbrev z8 : KP.T := mkP 0 0 0 0 0 0 0 0
section
variable (k : Nat) (f t a c r g u s op n : Int)
theorem left' : CF (k + 1) sI 14 [inj KP (mkP f t a c r g u s)] = some (L14 a c s) := by
  refine (left k f t a c r g u s).trans ?_
  unfold L14
  cases decide (s = 0) <;> rfl
theorem by18 : CF (k + 1) sF 18 [inj I op] = (bif decide (op = 4) then some (some 20) else bif decide (op = 6) then some (some 21) else bif decide (op = 7) then some (some 22) else bif decide (op = 5) then some (some 23) else some none : Option (Option Nat)) := by kernel_rfl
theorem cap20 : CF (k + 1) sPB 20 [inj KP (mkP f t a c r g u s), inj I n] = (CF k sI 14 [inj KP (mkP f t a c r g u s)]).bind fun (l : Int) =>
    bif decide (w64 (c + n) = a) then some (mkP f t a (w64 (c + n)) r g u 1, decide (n ≤ l)) else some (mkP f t a (w64 (c + n)) r g u s, decide (n ≤ l)) := by kernel_rfl
theorem ref21 : CF (k + 2) sPB 21 [inj KP (mkP f t a c r g u s), inj I n] = some (mkP f t a c (w64 (r + n)) g u s, decide (n ≤ w64 (w64 (c - r) - g))) := by kernel_rfl
theorem chg22 : CF (k + 2) sPB 22 [inj KP (mkP f t a c r g u s), inj I n] = some (mkP f t a c r (w64 (g + n)) u s, decide (n ≤ w64 (w64 (c - r) - g))) := by kernel_rfl
theorem shut23 : CF (k + 1) sPB 23 [inj KP (mkP f t a c r g u s), inj I n] = some (mkP f t a c r g u 1, decide (s = 0)) := by kernel_rfl
theorem do11 : CF (k + 1) sPE 11 [inj KP (mkP f t a c r g u s), inj I op, inj I n] = (CF k sF 18 [inj I op]).bind fun (d : Option Nat) =>
    bif !d.isSome then some (z8, some 13) else bif !decide (op = 5) then (bif decide (n < 1) then some (z8, some 1) else
      bif d.isSome then (CF k sPB (d.getD 0) [inj KP (mkP f t a c r g u s), inj I n]).bind fun (x : KP.T × Bool) => bif !x.2 then some (z8, some 6) else some (x.1, none) else none)
    else bif d.isSome then (CF k sPB (d.getD 0) [inj KP (mkP f t a c r g u s), inj I n]).bind fun (x : KP.T × Bool) => bif !x.2 then some (z8, some 6) else some (x.1, none) else none := by kernel_rfl
end
/-- What an op makes of a payment; is it right? -/
def callV (f t a c r g u s op n : Int) : KP.T × Bool :=
  if op = 4 then (mkP f t a (w64 (c + n)) r g u (if w64 (c + n) = a then 1 else s), decide (n ≤ L14 a c s))
  else if op = 6 then (mkP f t a c (w64 (r + n)) g u s, decide (n ≤ w64 (w64 (c - r) - g)))
  else if op = 7 then (mkP f t a c r (w64 (g + n)) u s, decide (n ≤ w64 (w64 (c - r) - g)))
  else (mkP f t a c r g u 1, decide (s = 0))
def doV (f t a c r g u s op n : Int) : KP.T × Option Int :=
  if op = 4 ∨ op = 5 ∨ op = 6 ∨ op = 7 then (if op ≠ 5 ∧ n < 1 then (z8, some 1) else if (callV f t a c r g u s op n).2 = true then ((callV f t a c r g u s op n).1, none) else (z8, some 6)) else (z8, some 13)
theorem do_v (k : Nat) (f t a c r g u s op n : Int) : CF (k + 3) sPE 11 [inj KP (mkP f t a c r g u s), inj I op, inj I n] = some (doV f t a c r g u s op n) := by
  refine (do11 (k + 2) f t a c r g u s op n).trans ?_
  have fin : ∀ (m : Nat) (F : Option Nat → Option (KP.T × Option Int)) (x : KP.T × Bool), CF (k + 2) sPB m [inj KP (mkP f t a c r g u s), inj I n] = some x → callV f t a c r g u s op n = x →
      (CF (k + 2) sPB m [inj KP (mkP f t a c r g u s), inj I n]).bind (fun (x : KP.T × Bool) => bif !x.2 then some (z8, some (6 : Int)) else some (x.1, none)) = some (if (callV f t a c r g u s op n).2 = true then ((callV f t a c r g u s op n).1, none) else (z8, some 6)) := by
    intro m F x h1 h2
    rw [h2]
    refine bindE h1 ?_
    obtain ⟨y, b⟩ := x
    cases b <;> rfl
  by_cases h4 : op = 4
  · subst h4
    refine bindE (v := some 20) ((by18 (k + 1) 4).trans rfl) ?_
    unfold doV
    rw [if_pos (Or.inl rfl)]
    by_cases hn : n < 1
    · rw [if_pos ⟨by omega, hn⟩]; simp only [decide_eq_true hn]; rfl
    · rw [if_neg (fun h => hn h.2)]; simp only [Option.isSome_some, Bool.not_true, cond_false, cond_true, Option.getD_some, decide_eq_false hn, show decide ((4 : Int) = 5) = false by decide, Bool.not_false]
      refine fin 20 (fun _ => none) _ ?_ rfl
      refine (cap20 (k + 1) f t a c r g u s n).trans (bindE (left' k f t a c r g u s) ?_)
      by_cases hc : w64 (c + n) = a
      · unfold callV; rw [if_pos rfl, if_pos hc]; simp only [decide_eq_true hc]; rfl
      · unfold callV; rw [if_pos rfl, if_neg hc]; simp only [decide_eq_false hc]; rfl
  · by_cases h6 : op = 6
    · subst h6
      refine bindE (v := some 21) ((by18 (k + 1) 6).trans rfl) ?_
      unfold doV
      rw [if_pos (Or.inr (Or.inr (Or.inl rfl)))]
      by_cases hn : n < 1
      · rw [if_pos ⟨by omega, hn⟩]; simp only [decide_eq_true hn]; rfl
      · rw [if_neg (fun h => hn h.2)]; simp only [Option.isSome_some, Bool.not_true, cond_false, cond_true, Option.getD_some, decide_eq_false hn, show decide ((6 : Int) = 5) = false by decide, Bool.not_false]
        exact fin 21 (fun _ => none) _ (ref21 k f t a c r g u s n) rfl
    · by_cases h7 : op = 7
      · subst h7
        refine bindE (v := some 22) ((by18 (k + 1) 7).trans rfl) ?_
        unfold doV
        rw [if_pos (Or.inr (Or.inr (Or.inr rfl)))]
        by_cases hn : n < 1
        · rw [if_pos ⟨by omega, hn⟩]; simp only [decide_eq_true hn]; rfl
        · rw [if_neg (fun h => hn h.2)]; simp only [Option.isSome_some, Bool.not_true, cond_false, cond_true, Option.getD_some, decide_eq_false hn, show decide ((7 : Int) = 5) = false by decide, Bool.not_false]
          exact fin 22 (fun _ => none) _ (chg22 k f t a c r g u s n) rfl
      · by_cases h5 : op = 5
        · subst h5
          refine bindE (v := some 23) ((by18 (k + 1) 5).trans rfl) ?_
          unfold doV
          rw [if_pos (Or.inr (Or.inl rfl)), if_neg (fun h => h.1 rfl)]
          simp only [Option.isSome_some, Bool.not_true, cond_false, cond_true, Option.getD_some, show decide ((5 : Int) = 5) = true by decide]
          exact fin 23 (fun _ => none) _ (shut23 (k + 1) f t a c r g u s n) rfl
        · refine bindE (v := none) ((by18 (k + 1) op).trans (by rw [decide_eq_false h4, decide_eq_false h6, decide_eq_false h7, decide_eq_false h5]; rfl)) ?_
          unfold doV
          rw [if_neg (by omega)]
          rfl
abbrev zB (x : KP.T) : Bool := decide ((x.1 : Int) = 0) && (decide ((x.2.1 : Int) = 0) && (decide ((x.2.2.1 : Int) = 0) && (decide ((x.2.2.2.1 : Int) = 0) && (decide ((x.2.2.2.2.1 : Int) = 0) && (decide ((x.2.2.2.2.2.1 : Int) = 0) && (decide ((x.2.2.2.2.2.2.1 : Int) = 0) && (decide ((x.2.2.2.2.2.2.2 : Int) = 0) && true)))))))
theorem num (k : Nat) (e : Option Int) : CF (k + 1) sI 13 [inj .err e] = some (e.getD 0) := rfl
theorem law5 (k : Nat) (f t a c r g u s op n : Int) : CF (k + 1) sB 5 [inj KP (mkP f t a c r g u s), inj (.int .i8) op, inj I n] =
    (CF k sB 9 []).bind fun (z : Bool) => bif !z then some false else (CF k sPE 11 [inj KP (mkP f t a c r g u s), inj I (w64 op), inj I n]).bind fun (x : KP.T × Option Int) =>
      bif decide (op < 4) then (bif zB x.1 then (CF k sI 13 [inj .err x.2]).bind fun (m : Int) => some (decide (m = 13)) else some false)
      else bif decide (7 < op) then (bif zB x.1 then (CF k sI 13 [inj .err x.2]).bind fun (m : Int) => some (decide (m = 13)) else some false)
      else bif !x.2.isSome then some true else bif zB x.1 then (CF k sI 13 [inj .err x.2]).bind fun (m : Int) => bif decide (m = 1) then some true else (CF k sI 13 [inj .err x.2]).bind fun (m : Int) => some (decide (m = 6)) else some false := by kernel_rfl
theorem PaymentAny (f t a c r g u s op n : Int) (h : -128 ≤ op ∧ op < 128) : CF 6 sB 5 [inj KP (mkP f t a c r g u s), inj (.int .i8) op, inj I n] = some true := by
  refine (law5 5 f t a c r g u s op n).trans (bindE awake ?_)
  have hw : w64 op = op := w64_eq (by omega) (by omega)
  have hd := do_v 2 f t a c r g u s op n
  rw [← hw] at hd
  rw [hw] at hd
  show ((CF 5 sPE 11 [inj KP (mkP f t a c r g u s), inj I (w64 op), inj I n]).bind _ : Option Bool) = some true
  rw [hw]
  refine bindE hd ?_
  unfold doV
  by_cases hr : op = 4 ∨ op = 5 ∨ op = 6 ∨ op = 7
  · rw [if_pos hr]
    simp only [decide_eq_false (show ¬ op < 4 by omega), decide_eq_false (show ¬ 7 < op by omega), cond_false]
    split
    · rfl
    · split
      · rfl
      · rfl
  · rw [if_neg hr]
    by_cases h4 : op < 4
    · simp only [decide_eq_true h4]; rfl
    · simp only [decide_eq_false h4, decide_eq_true (show 7 < op by omega)]; rfl
theorem law6 (k : Nat) (n q1 q2 q3 q4 q5 q6 q7 : Int) (b : Bool) : CF (k + 1) sB 6 [inj KQ (mkQ q1 q2 q3 q4 q5 q6 q7 b), inj I n] =
    (CF k sB 9 []).bind fun (z : Bool) => bif !z then some false else (CF k sP 10 [inj KQ (mkQ q1 q2 q3 q4 q5 q6 q7 b)]).bind fun (x : KP.T) => (CF k sPE 11 [inj KP x, inj I 5, inj I n]).bind fun (y : KP.T × Option Int) =>
      bif decide ((x.2.2.2.2.2.2.2 : Int) = 1) then (bif zB y.1 then (CF k sI 13 [inj .err y.2]).bind fun (m : Int) => some (decide (m = 6)) else some false)
      else (CF k sPE 11 [inj KP y.1, inj I 5, inj I 1]).bind fun (v : KP.T × Option Int) => (CF k sPE 11 [inj KP y.1, inj I 4, inj I 1]).bind fun (w : KP.T × Option Int) =>
        bif !y.2.isSome then (CF k sI 14 [inj KP y.1]).bind fun (l : Int) => bif decide (l = 0) then (CF k sI 15 [inj KP y.1]).bind fun (g1 : Int) => (CF k sI 15 [inj KP x]).bind fun (g2 : Int) => bif decide (g1 = g2) then
          (CF k sI 13 [inj .err v.2]).bind fun (m : Int) => bif decide (m = 6) then (CF k sI 13 [inj .err w.2]).bind fun (m : Int) => some (decide (m = 6)) else some false
          else some false else some false else some false := by kernel_rfl
theorem do_void (k : Nat) (f t a c r g u s n : Int) : CF (k + 3) sPE 11 [inj KP (mkP f t a c r g u s), inj I 5, inj I n] = some (if s = 0 then (mkP f t a c r g u 1, none) else (z8, some 6)) := by
  refine (do_v k f t a c r g u s 5 n).trans ?_
  unfold doV
  rw [if_pos (Or.inr (Or.inl rfl)), if_neg (fun h => h.1 rfl)]
  have hc : callV f t a c r g u s 5 n = (mkP f t a c r g u 1, decide (s = 0)) := rfl
  rw [hc]
  by_cases hs : s = 0
  · simp only [decide_eq_true hs, if_pos hs, if_true]; rfl
  · simp only [decide_eq_false hs, if_neg hs, Bool.false_eq_true, if_false]; rfl
theorem do_cap1 (k : Nat) (f t a c r g u : Int) : CF (k + 3) sPE 11 [inj KP (mkP f t a c r g u 1), inj I 4, inj I 1] = some (z8, some 6) := by
  refine (do_v k f t a c r g u 1 4 1).trans ?_
  unfold doV
  rw [if_pos (Or.inl rfl), if_neg (fun h => absurd h.2 (by decide))]
  have hc : (callV f t a c r g u 1 4 1).2 = false := rfl
  rw [hc]
  rfl
theorem PaymentVoid (n q1 q2 q3 q4 q5 q6 q7 : Int) (b : Bool) (h1 : okU q1) (h2 : okU q2) (h3 : okU q3) (h4 : okU q4) (h5 : okU q5) (h6 : okU q6) (h7 : okU q7) :
    CF 6 sB 6 [inj KQ (mkQ q1 q2 q3 q4 q5 q6 q7 b), inj I n] = some true := by
  obtain ⟨f, t, a, c, r, g, u, s, hx, hg⟩ := payG q1 q2 q3 q4 q5 q6 q7 b h1 h2 h3 h4 h5 h6 h7
  refine (law6 5 n q1 q2 q3 q4 q5 q6 q7 b).trans (bindE awake ?_)
  refine bindE ((pay10 4 q1 q2 q3 q4 q5 q6 q7 b).trans hx) ?_
  refine bindE (do_void 2 f t a c r g u s n) ?_
  by_cases hs : s = 0
  · subst hs
    simp only [if_true, show decide ((0 : Int) = 1) = false by decide, cond_false]
    refine bindE (do_void 2 f t a c r g u 1 1) ?_
    refine bindE (do_cap1 2 f t a c r g u) ?_
    simp only [Option.isSome_none, Bool.not_false, cond_true]
    refine bindE (left' 4 f t a c r g u 1) ?_
    simp only [show L14 a c 1 = 0 from rfl, decide_true, cond_true]
    refine bindE (gave 4 f t a c r g u 1) ?_
    refine bindE (gave 4 f t a c r g u 0) ?_
    simp only [decide_true, cond_true]
    rfl
  · have hs1 : s = 1 := by unfold Good at hg; omega
    subst hs1
    rfl
abbrev eB (x y : KP.T) : Bool := decide ((x.1 : Int) = y.1) && (decide ((x.2.1 : Int) = y.2.1) && (decide ((x.2.2.1 : Int) = y.2.2.1) && (decide ((x.2.2.2.1 : Int) = y.2.2.2.1) && (decide ((x.2.2.2.2.1 : Int) = y.2.2.2.2.1) && (decide ((x.2.2.2.2.2.1 : Int) = y.2.2.2.2.2.1) && (decide ((x.2.2.2.2.2.2.1 : Int) = y.2.2.2.2.2.2.1) && (decide ((x.2.2.2.2.2.2.2 : Int) = y.2.2.2.2.2.2.2) && true)))))))
theorem law4 (k : Nat) (x y op q1 q2 q3 q4 q5 q6 q7 : Int) (b : Bool) : CF (k + 1) sB 4 [inj KQ (mkQ q1 q2 q3 q4 q5 q6 q7 b), inj U x, inj U y, inj U op] =
    (CF k sB 9 []).bind fun (z : Bool) => bif !z then some false else (CF k sP 10 [inj KQ (mkQ q1 q2 q3 q4 q5 q6 q7 b)]).bind fun (p : KP.T) => bif inb (op.tmod 3) 3 then
      (CF k sPE 11 [inj KP p, inj I (([4, 6, 7] : List Int).getD (op.tmod 3).toNat 0), inj I (w64 (w64 (1 + w64 x) + w64 (1 + w64 y)))]).bind fun (v : KP.T × Option Int) =>
      (CF k sPE 11 [inj KP p, inj I (([4, 6, 7] : List Int).getD (op.tmod 3).toNat 0), inj I (w64 (1 + w64 x))]).bind fun (w : KP.T × Option Int) =>
      bif w.2.isSome then some v.2.isSome else (CF k sPE 11 [inj KP w.1, inj I (([4, 6, 7] : List Int).getD (op.tmod 3).toNat 0), inj I (w64 (1 + w64 y))]).bind fun (m : KP.T × Option Int) =>
        bif (!v.2.isSome) == !m.2.isSome then some (eB v.1 m.1) else some false
      else none := by kernel_rfl
theorem eB_self (x : KP.T) : eB x x = true := by simp [eB]
theorem do_ok (k : Nat) (f t a c r g u s op n : Int) (ho : op = 4 ∨ op = 6 ∨ op = 7) (hn : 1 ≤ n) : CF (k + 3) sPE 11 [inj KP (mkP f t a c r g u s), inj I op, inj I n] = some (if (callV f t a c r g u s op n).2 = true then ((callV f t a c r g u s op n).1, none) else (z8, some 6)) := by
  refine (do_v k f t a c r g u s op n).trans ?_
  unfold doV
  rw [if_pos (by omega), if_neg (by omega)]
theorem three (op : Int) (h : okU op) : inb (op.tmod 3) 3 = true ∧ ∃ o, ([4, 6, 7] : List Int).getD (op.tmod 3).toNat 0 = o ∧ (o = 4 ∨ o = 6 ∨ o = 7) := by
  obtain ⟨h1, h2, _⟩ := tmod_facts (a := op) (b := 3) h.1 (by omega)
  refine ⟨by simp only [inb, Bool.and_eq_true, decide_eq_true_eq]; omega, _, rfl, ?_⟩
  generalize hz : op.tmod 3 = z at *
  have : z = 0 ∨ z = 1 ∨ z = 2 := by omega
  rcases this with rfl | rfl | rfl
  · exact .inl rfl
  · exact .inr (.inl rfl)
  · exact .inr (.inr rfl)
/-- In two parts as at once. -/
def PartsP (f t a c r g u s o n m : Int) : Prop :=
    ((callV f t a c r g u s o n).2 = false → (callV f t a c r g u s o (n + m)).2 = false) ∧
    ((callV f t a c r g u s o n).2 = true → ∃ c' r' g' s', (callV f t a c r g u s o n).1 = mkP f t a c' r' g' u s' ∧ (callV f t a c' r' g' u s' o m).2 = (callV f t a c r g u s o (n + m)).2 ∧
      ((callV f t a c r g u s o (n + m)).2 = true → (callV f t a c' r' g' u s' o m).1 = (callV f t a c r g u s o (n + m)).1))
theorem call4 (f t a c r g u s n : Int) (h1 : w64 (c + n) = c + n) : callV f t a c r g u s 4 n = (mkP f t a (c + n) r g u (if c + n = a then 1 else s), decide (n ≤ L14 a c s)) := by
  unfold callV
  rw [if_pos rfl, h1]
theorem call6 (f t a c r g u s n : Int) (h1 : w64 (r + n) = r + n) (h2 : w64 (w64 (c - r) - g) = c - r - g) : callV f t a c r g u s 6 n = (mkP f t a c (r + n) g u s, decide (n ≤ c - r - g)) := by
  unfold callV
  rw [if_neg (by decide), if_pos rfl, h1, h2]
theorem call7 (f t a c r g u s n : Int) (h1 : w64 (g + n) = g + n) (h2 : w64 (w64 (c - r) - g) = c - r - g) : callV f t a c r g u s 7 n = (mkP f t a c r (g + n) u s, decide (n ≤ c - r - g)) := by
  unfold callV
  rw [if_neg (by decide), if_neg (by decide), if_pos rfl, h1, h2]
theorem L14_0 {a c : Int} (h : w64 (a - c) = a - c) : L14 a c 0 = a - c := by unfold L14; simpa using h
theorem L14_1 {a c : Int} : L14 a c 1 = 0 := rfl
theorem ww {a b c : Int} (h1 : -1000000 ≤ a - b) (h2 : a - b ≤ 1000000) (h3 : -1000000 ≤ a - b - c) (h4 : a - b - c ≤ 1000000) : w64 (w64 (a - b) - c) = a - b - c := by
  rw [w64_eq (n := a - b) (by omega) (by omega)]; exact w64_eq (by omega) (by omega)
theorem parts4 {f t a c r g u s n m : Int} (h1 : 1 ≤ a ∧ a ≤ 256) (h2 : 0 ≤ c ∧ c ≤ a) (hs : s = 0 ∧ c < a ∨ s = 1) (hn : 1 ≤ n ∧ n ≤ 256) (hm : 1 ≤ m ∧ m ≤ 256) : PartsP f t a c r g u s 4 n m := by
  unfold PartsP
  have e1 := call4 f t a c r g u s n (w64_eq (by omega) (by omega))
  have e2 := call4 f t a c r g u s (n + m) (w64_eq (by omega) (by omega))
  rw [e1, e2]
  dsimp only
  simp only [decide_eq_false_iff_not, decide_eq_true_eq]
  rcases hs with ⟨rfl, hc⟩ | rfl
  · rw [L14_0 (w64_eq (by omega) (by omega))]
    refine ⟨by omega, fun h => ⟨c + n, r, g, _, rfl, ?_⟩⟩
    rw [call4 _ _ _ _ _ _ _ _ m (w64_eq (by omega) (by omega))]
    dsimp only
    by_cases hc : c + n = a
    · rw [if_pos hc, L14_1]
      exact ⟨decide_eq_decide.2 (by omega), fun h => by omega⟩
    · rw [if_neg hc, L14_0 (w64_eq (by omega) (by omega))]
      exact ⟨decide_eq_decide.2 (by omega), fun h => by rw [Int.add_assoc]⟩
  · rw [L14_1]
    exact ⟨by omega, fun h => by omega⟩
theorem parts6 {f t a c r g u s n m : Int} (h1 : 1 ≤ a ∧ a ≤ 256) (h2 : 0 ≤ c ∧ c ≤ a) (h3 : 0 ≤ r ∧ r ≤ c) (h4 : 0 ≤ g ∧ g ≤ c - r) (hn : 1 ≤ n ∧ n ≤ 256) (hm : 1 ≤ m ∧ m ≤ 256) : PartsP f t a c r g u s 6 n m := by
  unfold PartsP
  rw [call6 f t a c r g u s n (w64_eq (by omega) (by omega)) (ww (by omega) (by omega) (by omega) (by omega)), call6 f t a c r g u s (n + m) (w64_eq (by omega) (by omega)) (ww (by omega) (by omega) (by omega) (by omega))]
  dsimp only
  simp only [decide_eq_false_iff_not, decide_eq_true_eq]
  refine ⟨by omega, fun h => ⟨c, r + n, g, s, rfl, ?_⟩⟩
  rw [call6 _ _ _ _ _ _ _ _ m (w64_eq (by omega) (by omega)) (ww (by omega) (by omega) (by omega) (by omega))]
  exact ⟨decide_eq_decide.2 (by omega), fun h => by rw [Int.add_assoc]⟩
theorem parts7 {f t a c r g u s n m : Int} (h1 : 1 ≤ a ∧ a ≤ 256) (h2 : 0 ≤ c ∧ c ≤ a) (h3 : 0 ≤ r ∧ r ≤ c) (h4 : 0 ≤ g ∧ g ≤ c - r) (hn : 1 ≤ n ∧ n ≤ 256) (hm : 1 ≤ m ∧ m ≤ 256) : PartsP f t a c r g u s 7 n m := by
  unfold PartsP
  rw [call7 f t a c r g u s n (w64_eq (by omega) (by omega)) (ww (by omega) (by omega) (by omega) (by omega)), call7 f t a c r g u s (n + m) (w64_eq (by omega) (by omega)) (ww (by omega) (by omega) (by omega) (by omega))]
  dsimp only
  simp only [decide_eq_false_iff_not, decide_eq_true_eq]
  refine ⟨by omega, fun h => ⟨c, r, g + n, s, rfl, ?_⟩⟩
  rw [call7 _ _ _ _ _ _ _ _ m (w64_eq (by omega) (by omega)) (ww (by omega) (by omega) (by omega) (by omega))]
  exact ⟨decide_eq_decide.2 (by omega), fun h => by rw [Int.add_assoc]⟩
theorem parts {f t a c r g u s o n m : Int} (hg : Good f t a c r g u s) (ho : o = 4 ∨ o = 6 ∨ o = 7) (hn : 1 ≤ n ∧ n ≤ 256) (hm : 1 ≤ m ∧ m ≤ 256) : PartsP f t a c r g u s o n m := by
  obtain ⟨_, _, _, _, a1, a2, c1, c2, r1, r2, g1, g2, _, _, hs⟩ := hg
  rcases ho with rfl | rfl | rfl
  · exact parts4 ⟨a1, a2⟩ ⟨c1, c2⟩ hs hn hm
  · exact parts6 ⟨a1, a2⟩ ⟨c1, c2⟩ ⟨r1, r2⟩ ⟨g1, g2⟩ hn hm
  · exact parts7 ⟨a1, a2⟩ ⟨c1, c2⟩ ⟨r1, r2⟩ ⟨g1, g2⟩ hn hm
theorem eB_some (x : KP.T) : (some (eB x x) : Option Bool) = some true := by rw [eB_self]
theorem PaymentParts (x y op q1 q2 q3 q4 q5 q6 q7 : Int) (b : Bool) (h1 : okU q1) (h2 : okU q2) (h3 : okU q3) (h4 : okU q4) (h5 : okU q5) (h6 : okU q6) (h7 : okU q7) (hx : okU x) (hy : okU y) (ho : okU op) :
    CF 6 sB 4 [inj KQ (mkQ q1 q2 q3 q4 q5 q6 q7 b), inj U x, inj U y, inj U op] = some true := by
  obtain ⟨f, t, a, c, r, g, u, s, hp, hg⟩ := payG q1 q2 q3 q4 q5 q6 q7 b h1 h2 h3 h4 h5 h6 h7
  obtain ⟨t1, o, t2, t3⟩ := three op ho
  unfold okU at hx hy
  have e1 : w64 (1 + w64 x) = 1 + x := by rw [w64_eq (n := x) (by omega) (by omega)]; exact w64_eq (by omega) (by omega)
  have e2 : w64 (1 + w64 y) = 1 + y := by rw [w64_eq (n := y) (by omega) (by omega)]; exact w64_eq (by omega) (by omega)
  have e3 : w64 (1 + x + (1 + y)) = 1 + x + (1 + y) := w64_eq (by omega) (by omega)
  obtain ⟨p1, p2⟩ := parts hg t3 (n := 1 + x) (m := 1 + y) (by omega) (by omega)
  refine (law4 5 x y op q1 q2 q3 q4 q5 q6 q7 b).trans (bindE awake (bindE ((pay10 4 q1 q2 q3 q4 q5 q6 q7 b).trans hp) ?_))
  rw [t1, t2, e1, e2, e3, cond_true]
  refine bindE (do_ok 2 f t a c r g u s o (1 + x + (1 + y)) t3 (by omega)) (bindE (do_ok 2 f t a c r g u s o (1 + x) t3 (by omega)) ?_)
  cases hb : (callV f t a c r g u s o (1 + x)).2 with
  | false => rw [p1 hb]; rfl
  | true =>
    obtain ⟨c', r', g', s', q1, q2, q3⟩ := p2 hb
    rw [if_pos rfl, q1]
    refine bindE (do_ok 2 f t a c' r' g' u s' o (1 + y) t3 (by omega)) ?_
    rw [q2]
    cases hc : (callV f t a c r g u s o (1 + x + (1 + y))).2 with
    | false => exact eB_some _
    | true => rw [if_pos rfl, if_pos rfl, q3 hc]; exact eB_some _
theorem bif_pos {α : Type} {b : Bool} {x y r : α} (h : b = true) (h2 : x = r) : (bif b then x else y) = r := by subst h; exact h2
theorem bif_neg {α : Type} {b : Bool} {x y r : α} (h : b = false) (h2 : y = r) : (bif b then x else y) = r := by subst h; exact h2
abbrev sPI : Sig := ⟨[(false, KPayment), (false, .int .i64)], []⟩
set_option maxHeartbeats 4000000 in
/-- What the law's own text makes of an op is what the program makes of it. -/
theorem do12 (k : Nat) (f t a c r g u s op n : Int) : CF (k + 1) sPI 12 [inj KP (mkP f t a c r g u s), inj I op, inj I n] = some ((doV f t a c r g u s op n).1, (doV f t a c r g u s op n).2.getD 0) := by
  refine (f12 k (mkP f t a c r g u s) op n).trans ?_
  dsimp only [mkP]
  unfold doV callV L14
  have hlt : ∀ a b : Int, (a < b) = ¬ (b ≤ a) := fun a b => propext Int.not_le.symm
  simp only [Bool.cond_decide, Bool.cond_not, hlt]
  by_cases h4 : op = 4
  · subst h4
    by_cases h0 : s = 0 <;> by_cases h1 : 1 ≤ n <;> by_cases h2 : w64 (c + n) = a <;> by_cases h3 : n ≤ w64 (a - c) <;> by_cases h5 : n ≤ 0 <;> simp [h0, h1, h2, h3, h5] <;> first | rfl | omega
  · by_cases h6 : op = 6
    · subst h6
      by_cases h0 : s = 0 <;> by_cases h1 : 1 ≤ n <;> by_cases h3 : n ≤ w64 (w64 (c - r) - g) <;> simp [h0, h1, h3] <;> rfl
    · by_cases h7 : op = 7
      · subst h7
        by_cases h0 : s = 0 <;> by_cases h1 : 1 ≤ n <;> by_cases h3 : n ≤ w64 (w64 (c - r) - g) <;> simp [h0, h1, h3] <;> rfl
      · by_cases h5 : op = 5
        · subst h5
          by_cases h0 : s = 0 <;> simp [h0] <;> rfl
        · by_cases h0 : s = 0 <;> simp [h0, h4, h5, h6, h7] <;> rfl
theorem do_round (m : Nat) (f t a c r g u s op i x y : Int) (hi : i = 0 ∨ i = 1) (ho : -128 ≤ op ∧ op < 128) : h3_0 5 (m + 1) op 2 i f t a c r g u s [x, y] = h3_0 5 m op 2 (i + 1) f t a c r g u s [x, y] := by
  have hw : w64 op = op := w64_eq (by omega) (by omega)
  have hi1 : w64 (i + 1) = i + 1 := w64_eq (by omega) (by omega)
  refine (h3_0_s 5 m op 2 i f t a c r g u s [x, y]).trans ?_
  rw [decide_eq_true (show i < 2 by omega), show inb i [x, y].length = true by simp only [inb, List.length_cons, List.length_nil, Bool.and_eq_true, decide_eq_true_eq]; omega, hw, hi1]
  generalize List.getD [x, y] (Int.toNat i) 0 = n
  refine bindE (do_v 2 f t a c r g u s op n) (bindE (do12 4 f t a c r g u s op n) ?_)
  show (bif !(eB (doV f t a c r g u s op n).1 (doV f t a c r g u s op n).1) then _ else _ : Option Bool) = _
  rw [eB_self, Bool.not_true, cond_false]
  refine bindE (num 4 _) ?_
  rw [decide_eq_true (p := (doV f t a c r g u s op n).2.getD 0 = _) rfl]
  rfl
theorem PaymentDo (op n x q1 q2 q3 q4 q5 q6 q7 : Int) (b : Bool) (h1 : okU q1) (h2 : okU q2) (h3 : okU q3) (h4 : okU q4) (h5 : okU q5) (h6 : okU q6) (h7 : okU q7) (ho : -128 ≤ op ∧ op < 128) :
    CF 6 sB 3 [inj KQ (mkQ q1 q2 q3 q4 q5 q6 q7 b), inj (.int .i8) op, inj I n, inj U x] = some true := by
  obtain ⟨f, t, a, c, r, g, u, s, hp, hg⟩ := payG q1 q2 q3 q4 q5 q6 q7 b h1 h2 h3 h4 h5 h6 h7
  refine (f3 5 (mkQ q1 q2 q3 q4 q5 q6 q7 b) op n x).trans (bindE awake (bindE ((pay10 4 q1 q2 q3 q4 q5 q6 q7 b).trans hp) ?_))
  show h3_0 5 5 op 2 0 f t a c r g u s [n, w64 x] = some true
  rw [do_round 4 f t a c r g u s op 0 n (w64 x) (.inl rfl) ho, do_round 3 f t a c r g u s op (0 + 1) n (w64 x) (.inr rfl) ho]
  exact (h3_0_s 5 2 op 2 2 f t a c r g u s [n, w64 x]).trans rfl
theorem getD_U (l : List Int) (h : ∀ x ∈ l, okU x) (i : Nat) : okU (l.getD i 0) := by
  rw [List.getD_eq_getElem?_getD]
  cases hq : l[i]? with
  | none => simp [okU]
  | some x => exact h x (List.mem_of_getElem? hq)
theorem four (o : Int) (h : okU o) : w64 (4 + w64 (Int.tmod o 4)) = 4 + Int.tmod o 4 ∧ 0 ≤ Int.tmod o 4 ∧ Int.tmod o 4 < 4 := by
  obtain ⟨h1, h2, _⟩ := tmod_facts (a := o) (b := 4) h.1 (by omega)
  refine ⟨?_, h1, h2⟩
  rw [w64_eq (n := Int.tmod o 4) (by omega) (by omega)]; exact w64_eq (by omega) (by omega)
/-- A right payment stays so. -/
theorem stays {f t a c r g u s op n : Int} (h : RP a c r g u s) (ho : 4 ≤ op ∧ op < 8) (hn : 0 ≤ n ∧ n < 256) : doV f t a c r g u s op n = (z8, some 1) ∨ doV f t a c r g u s op n = (z8, some 6) ∨
    ∃ c' r' g' s', doV f t a c r g u s op n = (mkP f t a c' r' g' u s', none) ∧ RP a c' r' g' u s' ∧ c ≤ c' ∧ r ≤ r' ∧ g ≤ g' ∧ (s = 1 → s' = 1) := by
  obtain ⟨a1, a2, c1, c2, u1, u2, hs, r1, g1, r2, g2⟩ := h
  unfold doV
  rw [if_pos (by omega)]
  by_cases hb : op ≠ 5 ∧ n < 1
  · rw [if_pos hb]; exact .inl rfl
  · rw [if_neg hb]
    right
    have hww : w64 (w64 (c - r) - g) = c - r - g := by rw [w64_eq (n := c - r) (by omega) (by omega)]; exact w64_eq (by omega) (by omega)
    rcases (by omega : op = 4 ∨ op = 6 ∨ op = 7 ∨ op = 5) with rfl | rfl | rfl | rfl
    · rw [call4 f t a c r g u s n (w64_eq (by omega) (by omega))]
      dsimp only
      by_cases hk : n ≤ L14 a c s
      · right
        rw [if_pos (decide_eq_true hk)]
        rcases hs with rfl | rfl
        · rw [L14_0 (w64_eq (by omega) (by omega))] at hk
          refine ⟨_, _, _, _, rfl, ⟨a1, a2, by omega, by omega, u1, u2, ?_, r1, g1, by omega, by omega⟩, by omega, by omega, by omega, by omega⟩
          split
          · exact .inr rfl
          · exact .inl rfl
        · rw [L14_1] at hk; omega
      · left; rw [if_neg (by rw [decide_eq_false hk]; decide)]
    · rw [call6 f t a c r g u s n (w64_eq (by omega) (by omega)) hww]
      dsimp only
      by_cases hk : n ≤ c - r - g
      · right
        rw [if_pos (decide_eq_true hk)]
        exact ⟨_, _, _, _, rfl, ⟨a1, a2, c1, c2, u1, u2, hs, by omega, by omega, by omega, by omega⟩, by omega, by omega, by omega, id⟩
      · left; rw [if_neg (by rw [decide_eq_false hk]; decide)]
    · rw [call7 f t a c r g u s n (w64_eq (by omega) (by omega)) hww]
      dsimp only
      by_cases hk : n ≤ c - r - g
      · right
        rw [if_pos (decide_eq_true hk)]
        exact ⟨_, _, _, _, rfl, ⟨a1, a2, c1, c2, u1, u2, hs, by omega, by omega, by omega, by omega⟩, by omega, by omega, by omega, id⟩
      · left; rw [if_neg (by rw [decide_eq_false hk]; decide)]
    · have hc : callV f t a c r g u s 5 n = (mkP f t a c r g u 1, decide (s = 0)) := rfl
      rw [hc]
      dsimp only
      by_cases hk : s = 0
      · right
        rw [if_pos (decide_eq_true hk)]
        exact ⟨_, _, _, _, rfl, ⟨a1, a2, c1, c2, u1, u2, .inr rfl, r1, g1, r2, g2⟩, by omega, by omega, by omega, fun _ => rfl⟩
      · left; rw [if_neg (by rw [decide_eq_false hk]; decide)]
/-- A round of the law, behind what is asked. -/
theorem stay_round {k m : Nat} {ns ops : List Int} {l i f t a c r g u s op n : Int} {R : Option Bool} (hR : RP a c r g u s) (ho : 4 ≤ op ∧ op < 8) (hn : 0 ≤ n ∧ n < 256)
    (hgo : ∀ c' r' g' s', RP a c' r' g' u s' → h8_0 (k + 3) m ns ops l (w64 (i + 1)) f t a c' r' g' u s' = R) :
    ((CF (k + 3) sPE 11 [inj KP (mkP f t a c r g u s), inj I op, inj I n]).bind fun (x : KPayment.T × (Option Int)) =>
     (bif x.2.isSome then (bif (!(decide (x.1.1 = (0 : Int)) && (decide (x.1.2.1 = (0 : Int)) && (decide (x.1.2.2.1 = (0 : Int)) && (decide (x.1.2.2.2.1 = (0 : Int)) && (decide (x.1.2.2.2.2.1 = (0 : Int)) && (decide (x.1.2.2.2.2.2.1 = (0 : Int)) && (decide (x.1.2.2.2.2.2.2.1 = (0 : Int)) && (decide (x.1.2.2.2.2.2.2.2 = (0 : Int)) && true))))))))) then some false
       else (h8_0 (k + 3) m ns ops l (w64 (i + (1 : Int))) f t a c r g u s))
      else ((CF (k + 3) sB 16 [inj KPayment x.1]).bind fun (r_1 : Bool) =>
     (bif (!r_1) then some false
     else (bif decide (x.1.2.2.2.1 < c) then some false
     else (bif decide (x.1.2.2.2.2.1 < r) then some false
     else (bif decide (x.1.2.2.2.2.2.1 < g) then some false
     else (bif (!decide (x.1.2.2.1 = a)) then some false
     else (bif decide (s = (1 : Int)) then (bif decide (x.1.2.2.2.2.2.2.2 = (0 : Int)) then some false
     else (h8_0 (k + 3) m ns ops l (w64 (i + (1 : Int))) x.1.1 x.1.2.1 x.1.2.2.1 x.1.2.2.2.1 x.1.2.2.2.2.1 x.1.2.2.2.2.2.1 x.1.2.2.2.2.2.2.1 x.1.2.2.2.2.2.2.2))
     else (h8_0 (k + 3) m ns ops l (w64 (i + (1 : Int))) x.1.1 x.1.2.1 x.1.2.2.1 x.1.2.2.2.1 x.1.2.2.2.2.1 x.1.2.2.2.2.2.1 x.1.2.2.2.2.2.2.1 x.1.2.2.2.2.2.2.2)))))))))) = R := by
  refine bindE (do_v k f t a c r g u s op n) ?_
  rcases stays (f := f) (t := t) hR ho hn with h | h | ⟨c', r', g', s', h, hR', h1, h2, h3, h4⟩
  · rw [h]; exact hgo c r g s hR
  · rw [h]; exact hgo c r g s hR
  · rw [h]
    refine bindE ((right16 (k + 1) f t a c' r' g' u s').trans ((r16 a c' r' g' u s').trans (congrArg some (decide_eq_true hR')))) ?_
    show (bif decide (c' < c) then some false else bif decide (r' < r) then some false else bif decide (g' < g) then some false else bif !decide (a = a) then some false else
      bif decide (s = 1) then (bif decide (s' = 0) then some false else h8_0 (k + 3) m ns ops l (w64 (i + 1)) f t a c' r' g' u s') else h8_0 (k + 3) m ns ops l (w64 (i + 1)) f t a c' r' g' u s' : Option Bool) = R
    rw [decide_eq_false (show ¬ c' < c by omega), decide_eq_false (show ¬ r' < r by omega), decide_eq_false (show ¬ g' < g by omega), decide_eq_true (show a = a from rfl), hgo c' r' g' s' hR']
    simp only [cond_false, Bool.not_true]
    by_cases hs : s = 1
    · rw [decide_eq_true hs, decide_eq_false (show ¬ s' = 0 by rw [h4 hs]; decide)]; rfl
    · rw [decide_eq_false hs]; rfl
theorem stay_loop (k : Nat) (ns ops : List Int) (hns : ∀ x ∈ ns, okU x) (hops : ∀ x ∈ ops, okU x) (hl : ops.length ≤ 140737488351232) (f t a u : Int) :
    ∀ (m i : Nat), ops.length < i + m → i ≤ ops.length → ∀ c r g s, RP a c r g u s → h8_0 (k + 3) m ns ops ops.length i f t a c r g u s = some true := by
  intro m
  induction m with
  | zero => intro i h1 h2; omega
  | succ m ih =>
    intro i h1 h2 c r g s hR
    refine (h8_0_s (k + 3) m ns ops ops.length i f t a c r g u s).trans ?_
    by_cases hi : i < ops.length
    · rw [decide_eq_true (show (i : Int) < ops.length by omega), show inb i ops.length = true by simp only [inb, Bool.and_eq_true, decide_eq_true_eq]; omega, cond_true, cond_true]
      have hw : w64 ((i : Int) + 1) = ((i + 1 : Nat) : Int) := by rw [w64_eq (by omega) (by omega)]; omega
      have hgo : ∀ c' r' g' s', RP a c' r' g' u s' → h8_0 (k + 3) m ns ops ops.length (w64 ((i : Int) + 1)) f t a c' r' g' u s' = some true := by
        intro c' r' g' s' hR'
        rw [hw]
        exact ih (i + 1) (by omega) (by omega) c' r' g' s' hR'
      have hop := four _ (getD_U ops hops (Int.toNat i))
      rw [hop.1]
      by_cases hj : (i : Int) < ns.length
      · rw [decide_eq_true hj, show inb i ns.length = true by simp only [inb, Bool.and_eq_true, decide_eq_true_eq]; omega, cond_true, cond_true]
        have hn := getD_U ns hns (Int.toNat i)
        rw [show w64 (ns.getD (Int.toNat i) 0) = ns.getD (Int.toNat i) 0 from w64_eq (by unfold okU at hn; omega) (by unfold okU at hn; omega)]
        exact stay_round hR (by omega) hn hgo
      · rw [decide_eq_false hj]
        exact stay_round hR (by omega) (by omega) hgo
    · rw [decide_eq_false (show ¬ (i : Int) < ops.length by omega), cond_false]
      refine bindE (left' (k + 2) f t a c r g u s) (bif_pos ?_ (bindE (gave (k + 2) f t a c r g u s) (congrArg some (decide_eq_true ?_))))
      · obtain ⟨a1, a2, c1, c2, u1, u2, hs, r1, g1, r2, g2⟩ := hR
        refine decide_eq_true ?_
        rcases hs with rfl | rfl
        · rw [L14_0 (w64_eq (by omega) (by omega))]; omega
        · rw [L14_1]; omega
      · obtain ⟨a1, a2, c1, c2, u1, u2, hs, r1, g1, r2, g2⟩ := hR
        rw [w64_eq (n := c - r) (by omega) (by omega), w64_eq (by omega) (by omega)]
        omega
theorem PaymentStays (ops ns : List Int) (q1 q2 q3 q4 q5 q6 q7 : Int) (b : Bool) (h1 : okU q1) (h2 : okU q2) (h3 : okU q3) (h4 : okU q4) (h5 : okU q5) (h6 : okU q6) (h7 : okU q7) (ho : ops.length ≤ 140737488351232 ∧ ∀ x ∈ ops, okU x) (hn : ∀ x ∈ ns, okU x) :
    CF (ops.length + 6) sB 8 [inj KQ (mkQ q1 q2 q3 q4 q5 q6 q7 b), inj (.slice U) ops, inj (.slice U) ns] = some true := by
  obtain ⟨f, t, a, c, r, g, u, s, hp, hg⟩ := payG q1 q2 q3 q4 q5 q6 q7 b h1 h2 h3 h4 h5 h6 h7
  have haw : CF (ops.length + 5) sB 9 [] = some true := by kernel_rfl
  refine (f8 (ops.length + 5) (mkQ q1 q2 q3 q4 q5 q6 q7 b) ops ns).trans (bindE haw (bindE ((pay10 (ops.length + 4) q1 q2 q3 q4 q5 q6 q7 b).trans hp) ?_))
  exact stay_loop (ops.length + 2) ns ops hn ho.2 ho.1 f t a u (ops.length + 5) 0 (by omega) (by omega) c r g s (good_RP hg)
end Go.Eng.Pay
