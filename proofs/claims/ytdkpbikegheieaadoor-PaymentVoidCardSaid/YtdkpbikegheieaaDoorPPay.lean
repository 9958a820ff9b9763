import Derived.Test.YtdkpbikegheieaaDoorE29
import Derived.Test.YtdkpbikegheieaaDoorProg
set_option linter.all false
set_option linter.unusedVariables false
set_option linter.unusedSimpArgs false
set_option linter.deprecated false
namespace Go.Eng.Pay
open Go.Proofs Go.Eng
def A : Ann := ⟨36, fun _ => [], fun _ => [], fun _ => [], fun _ _ => []⟩
abbrev I := K.int .i64
abbrev U := K.int .u8
abbrev KP : K := .strct (.prod I (.prod I (.prod I (.prod I (.prod I (.prod I (.prod I I)))))))
abbrev KQ : K := .strct (.prod U (.prod U (.prod U (.prod U (.prod U (.prod U (.prod U .bool)))))))
noncomputable abbrev CF : Nat → CallF := callF Tryd.prog A (XNum 13)
abbrev sB : Sig := ⟨[(false, .bool)], []⟩
abbrev sI : Sig := ⟨[(false, I)], []⟩
abbrev sP : Sig := ⟨[(false, KP)], []⟩
abbrev sPB : Sig := ⟨[(false, KP), (false, .bool)], []⟩
abbrev sPE : Sig := ⟨[(false, KP), (false, .err)], []⟩
set_option maxRecDepth 100000
theorem awake : CF 5 sB 9 [] = some true := by kernel_rfl
abbrev mkP (f t a c r g u s : Int) : KP.T := (f, t, a, c, r, g, u, s)
abbrev mkQ (q1 q2 q3 q4 q5 q6 q7 : Int) (b : Bool) : KQ.T := (q1, q2, q3, q4, q5, q6, q7, b)
section
variable (k : Nat) (f t a c r g u s : Int)
theorem gave : CF (k + 1) sI 15 [inj KP (mkP f t a c r g u s)] = some (w64 (w64 (c - r) - g)) := by kernel_rfl
def L14 (a c s : Int) : Int := bif !decide (s = 0) then 0 else w64 (a - c)
theorem left : CF (k + 1) sI 14 [inj KP (mkP f t a c r g u s)] = (bif !decide (s = 0) then some (0 : Int) else some (w64 (a - c)) : Option Int) := by kernel_rfl
def R17 (a c r g u s : Int) : Option Bool :=
  bif decide (a < 1) then some false else bif decide (1099511627776 < a) then some false else bif decide (c < 0) then some false else bif decide (a < c) then some false else
      bif decide (u < 0) then some false else bif decide (1073741824 < u) then some false else
      bif !decide (s = 0) then (bif !decide (s = 1) then some false else
        bif decide (0 ≤ r) then bif decide (0 ≤ g) then bif decide (r ≤ c) then some (decide (g ≤ w64 (c - r))) else some false else some false else some false)
      else bif decide (0 ≤ r) then bif decide (0 ≤ g) then bif decide (r ≤ c) then some (decide (g ≤ w64 (c - r))) else some false else some false else some false
theorem right17 : CF (k + 1) sB 17 [inj KP (mkP f t a c r g u s)] = R17 a c r g u s := by kernel_rfl
def R16 (a c r g u s : Int) : Option Bool :=
  bif decide (1 ≤ a) then bif decide (a ≤ 1099511627776) then bif decide (0 ≤ c) then bif decide (c ≤ a) then bif decide (0 ≤ r) then bif decide (0 ≤ g) then
      bif decide (r ≤ c) then bif decide (g ≤ c) then bif decide (0 ≤ w64 (w64 (c - r) - g)) then bif decide (0 ≤ u) then bif decide (u ≤ 1073741824) then
        bif decide (s = 0) then some true else some (decide (s = 1)) else some false else some false else some false
      else some false else some false else some false else some false else some false else some false else some false else some false
theorem right16 : CF (k + 2) sB 16 [inj KP (mkP f t a c r g u s)] = R16 a c r g u s := by kernel_rfl
def RP (a c r g u s : Int) : Prop := 1 ≤ a ∧ a ≤ 1099511627776 ∧ 0 ≤ c ∧ c ≤ a ∧ 0 ≤ u ∧ u ≤ 1073741824 ∧ (s = 0 ∨ s = 1) ∧ 0 ≤ r ∧ 0 ≤ g ∧ r ≤ c ∧ g ≤ c - r
instance : Decidable (RP a c r g u s) := by unfold RP; exact inferInstance
theorem some_dec {p : Prop} [Decidable p] : ∀ b : Bool, (b = true ↔ p) → some b = some (decide p) := by
  intro b hb
  congr 1
  cases b with
  | true => exact (decide_eq_true (hb.1 rfl)).symm
  | false => exact (decide_eq_false (fun h => by cases hb.2 h)).symm
set_option maxHeartbeats 4000000 in
theorem r16 : R16 a c r g u s = some (decide (RP a c r g u s)) := by
  unfold R16
  obtain ⟨q1, h1, h2, h3⟩ := w64_spec (c - r)
  obtain ⟨q2, h4, h5, h6⟩ := w64_spec (w64 (c - r) - g)
  simp only [Bool.cond_decide]
  repeat' split
  all_goals
    refine some_dec _ ?_
    unfold RP
    simp only [decide_eq_true_eq, Bool.false_eq_true, true_iff, false_iff]
    omega
theorem r17 : R17 a c r g u s = some (decide (RP a c r g u s)) := by
  unfold R17
  obtain ⟨q1, h1, h2, h3⟩ := w64_spec (c - r)
  simp only [Bool.cond_decide, Bool.cond_not]
  repeat' split
  all_goals
    refine some_dec _ ?_
    unfold RP
    simp only [decide_eq_true_eq, Bool.false_eq_true, true_iff, false_iff]
    omega
end
theorem okI8_of {n : Int} (h : (Lit.int .i8 n).wf = true) : -128 ≤ n ∧ n < 128 := by
  simp [Lit.wf, IntKind.min, IntKind.max, IntKind.signed, IntKind.bits] at h
  omega
def payF (q1 q2 q3 q4 q5 q6 q7 : Int) (b : Bool) : Option KP.T :=
  bif !decide (w64 (w64 (1 + w64 q3) + 1) = 0) then
    bif !decide (w64 ((w64 q4).tmod (w64 (w64 (1 + w64 q3) + 1)) + 1) = 0) then
      bif !decide (w64 (w64 ((w64 q4).tmod (w64 (w64 (1 + w64 q3) + 1)) - (w64 q5).tmod (w64 ((w64 q4).tmod (w64 (w64 (1 + w64 q3) + 1)) + 1))) + 1) = 0) then
        let a := w64 (1 + w64 q3)
        let c := (w64 q4).tmod (w64 (a + 1))
        let r := (w64 q5).tmod (w64 (c + 1))
        let g := (w64 q6).tmod (w64 (w64 (c - r) + 1))
        let u := w64 (Int.tmod q7 20)
        let f := w64 (9 + w64 (Int.tmod q1 6))
        let t := w64 (9 + w64 (Int.tmod q2 6))
        bif b then some (mkP f t a c r g u 1) else bif decide (c = a) then some (mkP f t a c r g u 1) else some (mkP f t a c r g u 0)
      else none
    else none
  else none
theorem pay10 (k : Nat) (q1 q2 q3 q4 q5 q6 q7 : Int) (b : Bool) : CF (k + 1) sP 10 [inj KQ (mkQ q1 q2 q3 q4 q5 q6 q7 b)] = payF q1 q2 q3 q4 q5 q6 q7 b := by kernel_rfl
def okU (n : Int) : Prop := 0 ≤ n ∧ n < 256
/-- A paid's payment is right; its numbers are small. -/
def Good (f t a c r g u s : Int) : Prop := 9 ≤ f ∧ f ≤ 14 ∧ 9 ≤ t ∧ t ≤ 14 ∧ 1 ≤ a ∧ a ≤ 256 ∧ 0 ≤ c ∧ c ≤ a ∧ 0 ≤ r ∧ r ≤ c ∧ 0 ≤ g ∧ g ≤ c - r ∧ 0 ≤ u ∧ u < 20 ∧ (s = 0 ∧ c < a ∨ s = 1)
theorem payG (q1 q2 q3 q4 q5 q6 q7 : Int) (b : Bool) (h1 : okU q1) (h2 : okU q2) (h3 : okU q3) (h4 : okU q4) (h5 : okU q5) (h6 : okU q6) (h7 : okU q7) :
    ∃ f t a c r g u s, payF q1 q2 q3 q4 q5 q6 q7 b = some (mkP f t a c r g u s) ∧ Good f t a c r g u s := by
  unfold okU at h1 h2 h3 h4 h5 h6 h7
  unfold payF
  simp only []
  rw [show w64 q3 = q3 from w64_eq (by omega) (by omega), show w64 q4 = q4 from w64_eq (by omega) (by omega), show w64 q5 = q5 from w64_eq (by omega) (by omega), show w64 q6 = q6 from w64_eq (by omega) (by omega)]
  rw [show w64 (1 + q3) = 1 + q3 from w64_eq (by omega) (by omega)]
  rw [show w64 (1 + q3 + 1) = 1 + q3 + 1 from w64_eq (by omega) (by omega)]
  obtain ⟨c1, c2, c3⟩ := tmod_facts (a := q4) (b := 1 + q3 + 1) h4.1 (by omega)
  generalize q4.tmod (1 + q3 + 1) = c at *
  rw [show w64 (c + 1) = c + 1 from w64_eq (by omega) (by omega)]
  obtain ⟨d1, d2, d3⟩ := tmod_facts (a := q5) (b := c + 1) h5.1 (by omega)
  generalize q5.tmod (c + 1) = r at *
  rw [show w64 (c - r) = c - r from w64_eq (by omega) (by omega)]
  rw [show w64 (c - r + 1) = c - r + 1 from w64_eq (by omega) (by omega)]
  obtain ⟨e1, e2, e3⟩ := tmod_facts (a := q6) (b := c - r + 1) h6.1 (by omega)
  generalize q6.tmod (c - r + 1) = g at *
  obtain ⟨f1, f2, f3⟩ := tmod_facts (a := q7) (b := 20) h7.1 (by omega)
  generalize q7.tmod 20 = u at *
  rw [show w64 u = u from w64_eq (by omega) (by omega)]
  obtain ⟨g1, g2, g3⟩ := tmod_facts (a := q1) (b := 6) h1.1 (by omega)
  generalize q1.tmod 6 = fr at *
  rw [show w64 fr = fr from w64_eq (by omega) (by omega), show w64 (9 + fr) = 9 + fr from w64_eq (by omega) (by omega)]
  obtain ⟨i1, i2, i3⟩ := tmod_facts (a := q2) (b := 6) h2.1 (by omega)
  generalize q2.tmod 6 = to at *
  rw [show w64 to = to from w64_eq (by omega) (by omega), show w64 (9 + to) = 9 + to from w64_eq (by omega) (by omega)]
  rw [decide_eq_false (show ¬ (1 + q3 + 1 = 0) by omega), decide_eq_false (show ¬ (c + 1 = 0) by omega), decide_eq_false (show ¬ (c - r + 1 = 0) by omega)]
  simp only [Bool.not_false, cond_true]
  cases b with
  | true => exact ⟨_, _, _, _, _, _, _, _, rfl, by unfold Good; omega⟩
  | false =>
    simp only [cond_false]
    by_cases hc : c = 1 + q3
    · rw [decide_eq_true hc]; exact ⟨_, _, _, _, _, _, _, _, rfl, by unfold Good; omega⟩
    · rw [decide_eq_false hc]; exact ⟨_, _, _, _, _, _, _, _, rfl, by unfold Good; omega⟩
theorem good_RP {f t a c r g u s : Int} (h : Good f t a c r g u s) : RP a c r g u s := by unfold Good at h; unfold RP; omega
theorem law7 (k : Nat) (f t a c r g u s q1 q2 q3 q4 q5 q6 q7 : Int) (b : Bool) : CF (k + 1) sB 7 [inj KP (mkP f t a c r g u s), inj KQ (mkQ q1 q2 q3 q4 q5 q6 q7 b)] =
    (CF k sB 9 []).bind fun (z : Bool) => bif !z then some false else (CF k sP 10 [inj KQ (mkQ q1 q2 q3 q4 q5 q6 q7 b)]).bind fun (x : KP.T) => (CF k sB 16 [inj KP (mkP f t a c r g u s)]).bind fun (r1 : Bool) => (CF k sB 17 [inj KP (mkP f t a c r g u s)]).bind fun (r2 : Bool) =>
      bif !r1 == r2 then some false else (CF k sB 16 [inj KP x]).bind fun (r3 : Bool) => bif !r3 then some false else
        bif decide (x.2.2.2.2.2.2.2 = (0 : Int)) then (CF k sI 14 [inj KP x]).bind fun (r4 : Int) => bif decide (r4 = w64 (x.2.2.1 - x.2.2.2.1)) then (CF k sI 15 [inj KP x]).bind fun (r5 : Int) => some (decide (r5 = w64 (w64 (x.2.2.2.1 - x.2.2.2.2.1) - x.2.2.2.2.2.1))) else some false
        else (CF k sI 14 [inj KP x]).bind fun (r4 : Int) => bif decide (r4 = 0) then (CF k sI 15 [inj KP x]).bind fun (r5 : Int) => some (decide (r5 = w64 (w64 (x.2.2.2.1 - x.2.2.2.2.1) - x.2.2.2.2.2.1))) else some false := by kernel_rfl
theorem PaymentRight (f t a c r g u s q1 q2 q3 q4 q5 q6 q7 : Int) (b : Bool) (h1 : okU q1) (h2 : okU q2) (h3 : okU q3) (h4 : okU q4) (h5 : okU q5) (h6 : okU q6) (h7 : okU q7) :
    CF 6 sB 7 [inj KP (mkP f t a c r g u s), inj KQ (mkQ q1 q2 q3 q4 q5 q6 q7 b)] = some true := by
  obtain ⟨f', t', a', c', r', g', u', s', hx, hg⟩ := payG q1 q2 q3 q4 q5 q6 q7 b h1 h2 h3 h4 h5 h6 h7
  have hR := good_RP hg
  have e1 := right16 3 f t a c r g u s
  have e2 := right17 4 f t a c r g u s
  have e3 := right16 3 f' t' a' c' r' g' u' s'
  have e4 := left 4 f' t' a' c' r' g' u' s'
  have e5 := gave 4 f' t' a' c' r' g' u' s'
  rw [r16] at e1 e3
  rw [r17] at e2
  rw [decide_eq_true hR] at e3
  refine (law7 5 f t a c r g u s q1 q2 q3 q4 q5 q6 q7 b).trans ?_
  rw [awake]
  show (CF 5 sP 10 [inj KQ (mkQ q1 q2 q3 q4 q5 q6 q7 b)]).bind _ = _
  rw [pay10, hx]
  show (CF 5 sB 16 [inj KP (mkP f t a c r g u s)]).bind _ = _
  rw [e1]
  show (CF 5 sB 17 [inj KP (mkP f t a c r g u s)]).bind _ = _
  rw [e2]
  show (bif !(decide (RP a c r g u s)) == decide (RP a c r g u s) then some false else (CF 5 sB 16 [inj KP (mkP f' t' a' c' r' g' u' s')]).bind _ : Option Bool) = _
  rw [show (!(decide (RP a c r g u s)) == decide (RP a c r g u s)) = false by cases decide (RP a c r g u s) <;> rfl, cond_false, e3]
  show (bif decide (s' = 0) then (CF 5 sI 14 [inj KP (mkP f' t' a' c' r' g' u' s')]).bind _ else (CF 5 sI 14 [inj KP (mkP f' t' a' c' r' g' u' s')]).bind _ : Option Bool) = _
  rw [e4]
  by_cases hs : s' = 0
  · rw [decide_eq_true hs]
    show (bif decide (w64 (a' - c') = w64 (a' - c')) then (CF 5 sI 15 [inj KP (mkP f' t' a' c' r' g' u' s')]).bind _ else some false : Option Bool) = _
    rw [decide_eq_true rfl, cond_true, e5]
    exact congrArg some (decide_eq_true rfl)
  · rw [decide_eq_false hs, cond_false]
    refine Eq.trans (b := (CF 5 sI 15 [inj KP (mkP f' t' a' c' r' g' u' s')]).bind (fun (r5 : Int) => some (decide (r5 = w64 (w64 (c' - r') - g'))))) rfl ?_
    rw [e5]
    exact congrArg some (decide_eq_true rfl)
theorem bindE {α β : Type} {o : Option α} {v : α} {F : α → Option β} {r : Option β} (h : o = some v) (h2 : F v = r) : o.bind F = r := by subst h; exact h2
abbrev sF : Sig := ⟨[(false, .fn)], []⟩
abbrev z8 : KP.T := mkP 0 0 0 0 0 0 0 0
section
variable (k : Nat) (f t a c r g u s op n : Int)
theorem left' : CF (k + 1) sI 14 [inj KP (mkP f t a c r g u s)] = some (L14 a c s) := by
  refine (left k f t a c r g u s).trans ?_
  unfold L14
  cases decide (s = 0) <;> rfl
theorem by18 : CF (k + 1) sF 18 [inj I op] = (bif decide (op = 4) then some (some 20) else bif decide (op = 6) then some (some 21) else bif decide (op = 7) then some (some 22) else bif decide (op = 5) then some (some 23) else some none : Option (Option Nat)) := by kernel_rfl
theorem cap20 : CF (k + 1) sPB 20 [inj KP (mkP f t a c r g u s), inj I n] = (CF k sI 14 [inj KP (mkP f t a c r g u s)]).bind fun (l : Int) =>
    bif decide (w64 (c + n) = a) then some (mkP f t a (w64 (c + n)) r g u 1, decide (n ≤ l)) else some (mkP f t a (w64 (c + n)) r g u s, decide (n ≤ l)) := by kernel_rfl
theorem ref21 : CF (k + 2) sPB 21 [inj KP (mkP f t a c r g u s), inj I n] = some (mkP f t a c (w64 (r + n)) g u s, decide (n ≤ w64 (w64 (c - r) - g))) := by kernel_rfl
theorem chg22 : CF (k + 2) sPB 22 [inj KP (mkP f t a c r g u s), inj I n] = some (mkP f t a c r (w64 (g + n)) u s, decide (n ≤ w64 (w64 (c - r) - g))) := by kernel_rfl
theorem shut23 : CF (k + 1) sPB 23 [inj KP (mkP f t a c r g u s), inj I n] = some (mkP f t a c r g u 1, decide (s = 0)) := by kernel_rfl
theorem do11 : CF (k + 1) sPE 11 [inj KP (mkP f t a c r g u s), inj I op, inj I n] = (CF k sF 18 [inj I op]).bind fun (d : Option Nat) =>
    bif !d.isSome then some (z8, some 13) else bif !decide (op = 5) then (bif decide (n < 1) then some (z8, some 1) else
      bif d.isSome then (CF k sPB (d.getD 0) [inj KP (mkP f t a c r g u s), inj I n]).bind fun (x : KP.T × Bool) => bif !x.2 then some (z8, some 6) else some (x.1, none) else none)
    else bif d.isSome then (CF k sPB (d.getD 0) [inj KP (mkP f t a c r g u s), inj I n]).bind fun (x : KP.T × Bool) => bif !x.2 then some (z8, some 6) else some (x.1, none) else none := by kernel_rfl
end
/-- What an op makes of a payment; is it right? -/
def callV (f t a c r g u s op n : Int) : KP.T × Bool :=
  if op = 4 then (mkP f t a (w64 (c + n)) r g u (if w64 (c + n) = a then 1 else s), decide (n ≤ L14 a c s))
  else if op = 6 then (mkP f t a c (w64 (r + n)) g u s, decide (n ≤ w64 (w64 (c - r) - g)))
  else if op = 7 then (mkP f t a c r (w64 (g + n)) u s, decide (n ≤ w64 (w64 (c - r) - g)))
  else (mkP f t a c r g u 1, decide (s = 0))
def doV (f t a c r g u s op n : Int) : KP.T × Option Int :=
  if op = 4 ∨ op = 5 ∨ op = 6 ∨ op = 7 then (if op ≠ 5 ∧ n < 1 then (z8, some 1) else if (callV f t a c r g u s op n).2 = true then ((callV f t a c r g u s op n).1, none) else (z8, some 6)) else (z8, some 13)
theorem do_v (k : Nat) (f t a c r g u s op n : Int) : CF (k + 3) sPE 11 [inj KP (mkP f t a c r g u s), inj I op, inj I n] = some (doV f t a c r g u s op n) := by
  refine (do11 (k + 2) f t a c r g u s op n).trans ?_
  have fin : ∀ (m : Nat) (F : Option Nat → Option (KP.T × Option Int)) (x : KP.T × Bool), CF (k + 2) sPB m [inj KP (mkP f t a c r g u s), inj I n] = some x → callV f t a c r g u s op n = x →
      (CF (k + 2) sPB m [inj KP (mkP f t a c r g u s), inj I n]).bind (fun (x : KP.T × Bool) => bif !x.2 then some (z8, some (6 : Int)) else some (x.1, none)) = some (if (callV f t a c r g u s op n).2 = true then ((callV f t a c r g u s op n).1, none) else (z8, some 6)) := by
    intro m F x h1 h2
    rw [h2]
    refine bindE h1 ?_
    obtain ⟨y, b⟩ := x
    cases b <;> rfl
  by_cases h4 : op = 4
  · subst h4
    refine bindE (v := some 20) ((by18 (k + 1) 4).trans rfl) ?_
    unfold doV
    rw [if_pos (Or.inl rfl)]
    by_cases hn : n < 1
    · rw [if_pos ⟨by omega, hn⟩]; simp only [decide_eq_true hn]; rfl
    · rw [if_neg (fun h => hn h.2)]; simp only [Option.isSome_some, Bool.not_true, cond_false, cond_true, Option.getD_some, decide_eq_false hn, show decide ((4 : Int) = 5) = false by decide, Bool.not_false]
      refine fin 20 (fun _ => none) _ ?_ rfl
      refine (cap20 (k + 1) f t a c r g u s n).trans (bindE (left' k f t a c r g u s) ?_)
      by_cases hc : w64 (c + n) = a
      · unfold callV; rw [if_pos rfl, if_pos hc]; simp only [decide_eq_true hc]; rfl
      · unfold callV; rw [if_pos rfl, if_neg hc]; simp only [decide_eq_false hc]; rfl
  · by_cases h6 : op = 6
    · subst h6
      refine bindE (v := some 21) ((by18 (k + 1) 6).trans rfl) ?_
      unfold doV
      rw [if_pos (Or.inr (Or.inr (Or.inl rfl)))]
      by_cases hn : n < 1
      · rw [if_pos ⟨by omega, hn⟩]; simp only [decide_eq_true hn]; rfl
      · rw [if_neg (fun h => hn h.2)]; simp only [Option.isSome_some, Bool.not_true, cond_false, cond_true, Option.getD_some, decide_eq_false hn, show decide ((6 : Int) = 5) = false by decide, Bool.not_false]
        exact fin 21 (fun _ => none) _ (ref21 k f t a c r g u s n) rfl
    · by_cases h7 : op = 7
      · subst h7
        refine bindE (v := some 22) ((by18 (k + 1) 7).trans rfl) ?_
        unfold doV
        rw [if_pos (Or.inr (Or.inr (Or.inr rfl)))]
        by_cases hn : n < 1
        · rw [if_pos ⟨by omega, hn⟩]; simp only [decide_eq_true hn]; rfl
        · rw [if_neg (fun h => hn h.2)]; simp only [Option.isSome_some, Bool.not_true, cond_false, cond_true, Option.getD_some, decide_eq_false hn, show decide ((7 : Int) = 5) = false by decide, Bool.not_false]
          exact fin 22 (fun _ => none) _ (chg22 k f t a c r g u s n) rfl
      · by_cases h5 : op = 5
        · subst h5
          refine bindE (v := some 23) ((by18 (k + 1) 5).trans rfl) ?_
          unfold doV
          rw [if_pos (Or.inr (Or.inl rfl)), if_neg (fun h => h.1 rfl)]
          simp only [Option.isSome_some, Bool.not_true, cond_false, cond_true, Option.getD_some, show decide ((5 : Int) = 5) = true by decide]
          exact fin 23 (fun _ => none) _ (shut23 (k + 1) f t a c r g u s n) rfl
        · refine bindE (v := none) ((by18 (k + 1) op).trans (by rw [decide_eq_false h4, decide_eq_false h6, decide_eq_false h7, decide_eq_false h5]; rfl)) ?_
          unfold doV
          rw [if_neg (by omega)]
          rfl
abbrev zB (x : KP.T) : Bool := decide ((x.1 : Int) = 0) && (decide ((x.2.1 : Int) = 0) && (decide ((x.2.2.1 : Int) = 0) && (decide ((x.2.2.2.1 : Int) = 0) && (decide ((x.2.2.2.2.1 : Int) = 0) && (decide ((x.2.2.2.2.2.1 : Int) = 0) && (decide ((x.2.2.2.2.2.2.1 : Int) = 0) && (decide ((x.2.2.2.2.2.2.2 : Int) = 0) && true)))))))
theorem num (k : Nat) (e : Option Int) : CF (k + 1) sI 13 [inj .err e] = some (e.getD 0) := rfl
theorem law5 (k : Nat) (f t a c r g u s op n : Int) : CF (k + 1) sB 5 [inj KP (mkP f t a c r g u s), inj (.int .i8) op, inj I n] =
    (CF k sB 9 []).bind fun (z : Bool) => bif !z then some false else (CF k sPE 11 [inj KP (mkP f t a c r g u s), inj I (w64 op), inj I n]).bind fun (x : KP.T × Option Int) =>
      bif decide (op < 4) then (bif zB x.1 then (CF k sI 13 [inj .err x.2]).bind fun (m : Int) => some (decide (m = 13)) else some false)
      else bif decide (7 < op) then (bif zB x.1 then (CF k sI 13 [inj .err x.2]).bind fun (m : Int) => some (decide (m = 13)) else some false)
      else bif !x.2.isSome then some true else bif zB x.1 then (CF k sI 13 [inj .err x.2]).bind fun (m : Int) => bif decide (m = 1) then some true else (CF k sI 13 [inj .err x.2]).bind fun (m : Int) => some (decide (m = 6)) else some false := by kernel_rfl
theorem PaymentAny (f t a c r g u s op n : Int) (h : -128 ≤ op ∧ op < 128) : CF 6 sB 5 [inj KP (mkP f t a c r g u s), inj (.int .i8) op, inj I n] = some true := by
  refine (law5 5 f t a c r g u s op n).trans (bindE awake ?_)
  have hw : w64 op = op := w64_eq (by omega) (by omega)
  have hd := do_v 2 f t a c r g u s op n
  rw [← hw] at hd
  rw [hw] at hd
  show ((CF 5 sPE 11 [inj KP (mkP f t a c r g u s), inj I (w64 op), inj I n]).bind _ : Option Bool) = some true
  rw [hw]
  refine bindE hd ?_
  unfold doV
  by_cases hr : op = 4 ∨ op = 5 ∨ op = 6 ∨ op = 7
  · rw [if_pos hr]
    simp only [decide_eq_false (show ¬ op < 4 by omega), decide_eq_false (show ¬ 7 < op by omega), cond_false]
    split
    · rfl
    · split
      · rfl
      · rfl
  · rw [if_neg hr]
    by_cases h4 : op < 4
    · simp only [decide_eq_true h4]; rfl
    · simp only [decide_eq_false h4, decide_eq_true (show 7 < op by omega)]; rfl
theorem law6 (k : Nat) (n q1 q2 q3 q4 q5 q6 q7 : Int) (b : Bool) : CF (k + 1) sB 6 [inj KQ (mkQ q1 q2 q3 q4 q5 q6 q7 b), inj I n] =
    (CF k sB 9 []).bind fun (z : Bool) => bif !z then some false else (CF k sP 10 [inj KQ (mkQ q1 q2 q3 q4 q5 q6 q7 b)]).bind fun (x : KP.T) => (CF k sPE 11 [inj KP x, inj I 5, inj I n]).bind fun (y : KP.T × Option Int) =>
      bif decide ((x.2.2.2.2.2.2.2 : Int) = 1) then (bif zB y.1 then (CF k sI 13 [inj .err y.2]).bind fun (m : Int) => some (decide (m = 6)) else some false)
      else (CF k sPE 11 [inj KP y.1, inj I 5, inj I 1]).bind fun (v : KP.T × Option Int) => (CF k sPE 11 [inj KP y.1, inj I 4, inj I 1]).bind fun (w : KP.T × Option Int) =>
        bif !y.2.isSome then (CF k sI 14 [inj KP y.1]).bind fun (l : Int) => bif decide (l = 0) then (CF k sI 15 [inj KP y.1]).bind fun (g1 : Int) => (CF k sI 15 [inj KP x]).bind fun (g2 : Int) => bif decide (g1 = g2) then
          (CF k sI 13 [inj .err v.2]).bind fun (m : Int) => bif decide (m = 6) then (CF k sI 13 [inj .err w.2]).bind fun (m : Int) => some (decide (m = 6)) else some false
          else some false else some false else some false := by kernel_rfl
theorem do_void (k : Nat) (f t a c r g u s n : Int) : CF (k + 3) sPE 11 [inj KP (mkP f t a c r g u s), inj I 5, inj I n] = some (if s = 0 then (mkP f t a c r g u 1, none) else (z8, some 6)) := by
  refine (do_v k f t a c r g u s 5 n).trans ?_
  unfold doV
  rw [if_pos (Or.inr (Or.inl rfl)), if_neg (fun h => h.1 rfl)]
  have hc : callV f t a c r g u s 5 n = (mkP f t a c r g u 1, decide (s = 0)) := rfl
  rw [hc]
  by_cases hs : s = 0
  · simp only [decide_eq_true hs, if_pos hs, if_true]; rfl
  · simp only [decide_eq_false hs, if_neg hs, Bool.false_eq_true, if_false]; rfl
theorem do_cap1 (k : Nat) (f t a c r g u : Int) : CF (k + 3) sPE 11 [inj KP (mkP f t a c r g u 1), inj I 4, inj I 1] = some (z8, some 6) := by
  refine (do_v k f t a c r g u 1 4 1).trans ?_
  unfold doV
  rw [if_pos (Or.inl rfl), if_neg (fun h => absurd h.2 (by decide))]
  have hc : (callV f t a c r g u 1 4 1).2 = false := rfl
  rw [hc]
  rfl
theorem PaymentVoid (n q1 q2 q3 q4 q5 q6 q7 : Int) (b : Bool) (h1 : okU q1) (h2 : okU q2) (h3 : okU q3) (h4 : okU q4) (h5 : okU q5) (h6 : okU q6) (h7 : okU q7) :
    CF 6 sB 6 [inj KQ (mkQ q1 q2 q3 q4 q5 q6 q7 b), inj I n] = some true := by
  obtain ⟨f, t, a, c, r, g, u, s, hx, hg⟩ := payG q1 q2 q3 q4 q5 q6 q7 b h1 h2 h3 h4 h5 h6 h7
  refine (law6 5 n q1 q2 q3 q4 q5 q6 q7 b).trans (bindE awake ?_)
  refine bindE ((pay10 4 q1 q2 q3 q4 q5 q6 q7 b).trans hx) ?_
  refine bindE (do_void 2 f t a c r g u s n) ?_
  by_cases hs : s = 0
  · subst hs
    simp only [if_true, show decide ((0 : Int) = 1) = false by decide, cond_false]
    refine bindE (do_void 2 f t a c r g u 1 1) ?_
    refine bindE (do_cap1 2 f t a c r g u) ?_
    simp only [Option.isSome_none, Bool.not_false, cond_true]
    refine bindE (left' 4 f t a c r g u 1) ?_
    simp only [show L14 a c 1 = 0 from rfl, decide_true, cond_true]
    refine bindE (gave 4 f t a c r g u 1) ?_
    refine bindE (gave 4 f t a c r g u 0) ?_
    simp only [decide_true, cond_true]
    rfl
  · have hs1 : s = 1 := by unfold Good at hg; omega
    subst hs1
    rfl
end Go.Eng.Pay
/-
OPEN PaymentAny 0 f t a c r g u s
LAW PaymentAny 6 Go.Eng.Pay.PaymentAny f t a c r g u s y1 y2 (Go.Eng.Pay.okI8_of ok1)
OPEN PaymentVoid 0 q1 q2 q3 q4 q5 q6 q7 b
LAW PaymentVoid 6 by obtain ⟨o1, o2, o3, o4, o5, o6, o7, _⟩ := ok0; exact Go.Eng.Pay.PaymentVoid y1 q1 q2 q3 q4 q5 q6 q7 b (okU_of o1) (okU_of o2) (okU_of o3) (okU_of o4) (okU_of o5) (okU_of o6) (okU_of o7)
OPEN PaymentRight 0 f t a c r g u s
OPEN PaymentRight 1 q1 q2 q3 q4 q5 q6 q7 b
LAW PaymentRight 6 by obtain ⟨o1, o2, o3, o4, o5, o6, o7, _⟩ := ok1; exact Go.Eng.Pay.PaymentRight f t a c r g u s q1 q2 q3 q4 q5 q6 q7 b (okU_of o1) (okU_of o2) (okU_of o3) (okU_of o4) (okU_of o5) (okU_of o6) (okU_of o7)
-/
