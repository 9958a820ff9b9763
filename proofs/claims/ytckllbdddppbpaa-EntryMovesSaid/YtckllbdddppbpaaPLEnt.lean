/- Entries and accounts, plain: what is balanced, what entries make of accounts, the other way round. -/
import Derived.Test.YtckllbdddppbpaaPLChart
set_option linter.all false
set_option linter.unusedVariables false
set_option linter.unusedSimpArgs false
set_option linter.deprecated false
namespace Go.Eng.LEnt
open Go.Eng Go.Eng.LChart
abbrev En : Type := Int × Int
abbrev okM (n : Int) : Prop := -1125899906842624 ≤ n ∧ n ≤ 1125899906842624
def acAt (ac : List Acc) (i : Int) : Acc := ac.getD (Int.toNat i) (0, 0, 0)
theorem acAt_nat (ac : List Acc) (i : Nat) (h : i < ac.length) : acAt ac (i : Int) = ac[i] := by
  unfold acAt; rw [Int.toNat_natCast]; exact getD_at _ _ _ h
abbrev inA (ac : List Acc) (i : Int) : Prop := 0 ≤ i ∧ i < (ac.length : Int)
abbrev S3 : Type := Int × Int × Int
def putS (c v : Int) (s : S3) : S3 := (bif decide (c = 0) then v else s.1, bif decide (c = 1) then v else s.2.1, bif decide (c = 2) then v else s.2.2)
def getS (c : Int) (s : S3) : Int := selInt c [s.1, s.2.1, s.2.2]
/-- Are entries balanced, behind sums? -/
def balF (ac : List Acc) : List En → S3 → Bool
  | [], s => decide (s.1 = 0) && (decide (s.2.1 = 0) && (decide (s.2.2 = 0) && true))
  | e :: r, s => if inA ac e.1 ∧ okM e.2 then
      (if okM (getS (acAt ac e.1).1 s) ∧ okM e.2 ∧ okM (getS (acAt ac e.1).1 s + e.2) then balF ac r (putS (acAt ac e.1).1 (getS (acAt ac e.1).1 s + e.2) s) else false) else false
/-- What entries come to, in a currency. -/
def ecur (ac : List Acc) (c : Int) (e : En) : Int := if (acAt ac e.1).1 = c then e.2 else 0
def esum (ac : List Acc) (c : Int) (es : List En) : Int := (es.map (ecur ac c)).sum
theorem esum_nil (ac : List Acc) (c : Int) : esum ac c [] = 0 := rfl
theorem esum_cons (ac : List Acc) (c : Int) (e : En) (es : List En) : esum ac c (e :: es) = ecur ac c e + esum ac c es := by simp [esum]
theorem esum_app (ac : List Acc) (c : Int) (a b : List En) : esum ac c (a ++ b) = esum ac c a + esum ac c b := by simp [esum]
/-- Currencies there are. -/
def Curs (ac : List Acc) : Prop := ∀ (k : Nat) (h : k < ac.length), 0 ≤ ac[k].1 ∧ ac[k].1 ≤ 2
theorem Curs.at {ac : List Acc} (h : Curs ac) {i : Int} (hi : inA ac i) : (acAt ac i).1 = 0 ∨ (acAt ac i).1 = 1 ∨ (acAt ac i).1 = 2 := by
  obtain ⟨n, rfl⟩ := Int.eq_ofNat_of_zero_le hi.1
  have hn : n < ac.length := by have := hi.2; omega
  rw [acAt_nat ac n hn]
  have := h n hn
  omega
theorem put_sum {c v x y z : Int} (hc : c = 0 ∨ c = 1 ∨ c = 2) (d : Int) (ac : List Acc) (e : En) (he : (acAt ac e.1).1 = c) (hv : v = getS c (x, y, z) + e.2) :
    (putS c v (x, y, z)).1 = x + ecur ac 0 e ∧ (putS c v (x, y, z)).2.1 = y + ecur ac 1 e ∧ (putS c v (x, y, z)).2.2 = z + ecur ac 2 e := by
  subst hv
  unfold ecur
  rw [he]
  rcases hc with rfl | rfl | rfl <;> simp [putS, getS, selInt]
theorem bal_sum (ac : List Acc) (hc : Curs ac) : ∀ (es : List En) (x y z : Int), balF ac es (x, y, z) = true → (∀ e ∈ es, inA ac e.1 ∧ okM e.2) ∧ x + esum ac 0 es = 0 ∧ y + esum ac 1 es = 0 ∧ z + esum ac 2 es = 0
  | [], x, y, z, h => by
    simp only [balF, Bool.and_eq_true, decide_eq_true_eq, and_true] at h
    exact ⟨fun e he => (by cases he), by rw [esum_nil]; omega, by rw [esum_nil]; omega, by rw [esum_nil]; omega⟩
  | e :: es, x, y, z, h => by
    unfold balF at h
    split at h
    · rename_i h1
      split at h
      · rename_i h2
        obtain ⟨p1, p2, p3⟩ := put_sum (x := x) (y := y) (z := z) (hc.at h1.1) 0 ac e rfl rfl
        obtain ⟨q0, q1, q2, q3⟩ := bal_sum ac hc es (putS (acAt ac e.1).1 (getS (acAt ac e.1).1 (x, y, z) + e.2) (x, y, z)).1 (putS (acAt ac e.1).1 (getS (acAt ac e.1).1 (x, y, z) + e.2) (x, y, z)).2.1 (putS (acAt ac e.1).1 (getS (acAt ac e.1).1 (x, y, z) + e.2) (x, y, z)).2.2 h
        refine ⟨fun a ha => ?_, ?_, ?_, ?_⟩
        · rcases List.mem_cons.1 ha with rfl | ha
          · exact h1
          · exact q0 a ha
        all_goals rw [esum_cons]; omega
      · cases h
    · cases h
theorem bal_small (ac : List Acc) (hc : Curs ac) (B : Int) (hB : 0 ≤ B) : ∀ (es : List En) (x y z M : Int), (∀ e ∈ es, inA ac e.1 ∧ (-B ≤ e.2 ∧ e.2 ≤ B)) → (-M ≤ x ∧ x ≤ M) → (-M ≤ y ∧ y ≤ M) → (-M ≤ z ∧ z ≤ M) → M + es.length * B ≤ 1125899906842624 →
    (balF ac es (x, y, z) = true ↔ (x + esum ac 0 es = 0 ∧ y + esum ac 1 es = 0 ∧ z + esum ac 2 es = 0))
  | [], x, y, z, M, h, hx, hy, hz, hM => by
    simp only [balF, Bool.and_eq_true, decide_eq_true_eq, and_true, esum_nil, Int.add_zero]
  | e :: es, x, y, z, M, h, hx, hy, hz, hM => by
    have he := h e (by simp)
    simp only [List.length_cons] at hM
    have e1 : ((es.length + 1 : Nat) : Int) * B = es.length * B + B := by rw [Int.natCast_add, Int.add_mul]; simp
    rw [e1] at hM
    have hlB : 0 ≤ (es.length : Int) * B := Int.mul_nonneg (by omega) hB
    have hg : -M ≤ getS (acAt ac e.1).1 (x, y, z) ∧ getS (acAt ac e.1).1 (x, y, z) ≤ M := by
      rcases hc.at he.1 with q | q | q <;> rw [q] <;> simp [getS, selInt] <;> omega
    obtain ⟨p1, p2, p3⟩ := put_sum (x := x) (y := y) (z := z) (hc.at he.1) 0 ac e rfl rfl
    have hb0 : ∀ c, -B ≤ ecur ac c e ∧ ecur ac c e ≤ B := fun c => by unfold ecur; split <;> omega
    have h0 := hb0 0
    have h1 := hb0 1
    have h2 := hb0 2
    have ih := bal_small ac hc B hB es (putS (acAt ac e.1).1 (getS (acAt ac e.1).1 (x, y, z) + e.2) (x, y, z)).1 (putS (acAt ac e.1).1 (getS (acAt ac e.1).1 (x, y, z) + e.2) (x, y, z)).2.1 (putS (acAt ac e.1).1 (getS (acAt ac e.1).1 (x, y, z) + e.2) (x, y, z)).2.2 (M + B)
      (fun a ha => h a (by simp [ha])) (by omega) (by omega) (by omega) (by omega)
    unfold balF
    rw [if_pos ⟨he.1, by unfold okM; omega⟩, if_pos ⟨by unfold okM; omega, by unfold okM; omega, by unfold okM; omega⟩]
    rw [esum_cons, esum_cons, esum_cons]
    refine Iff.trans ih ?_
    rw [p1, p2, p3]
    omega
/-! ### what entries make of accounts -/
def runF : List Acc → List En → Option (List Acc)
  | ac, [] => some ac
  | ac, e :: r => if okM (acAt ac e.1).2.1 ∧ okM e.2 ∧ okM ((acAt ac e.1).2.1 + e.2) then runF (ac.set (Int.toNat e.1) ((acAt ac e.1).1, (acAt ac e.1).2.1 + e.2, (acAt ac e.1).2.2)) r else none
def freeB (l : List Acc) : Bool := l.all fun a => !decide (w64 (a.2.1 - a.2.2) < 0)
/-- Post: the accounts, or an error. -/
def postF (ac : List Acc) (es : List En) : List Acc × Option Int :=
  bif balF ac es (0, 0, 0) then (match runF ac es with | none => ([], some 4) | some out => bif freeB (out.drop 9) then (out, none) else ([], some 3)) else ([], some 13)
theorem acAt_set (ac : List Acc) (i : Int) (j : Int) (x : Acc) (hi : inA ac i) (hj : 0 ≤ j) : acAt (ac.set (Int.toNat i) x) j = if j = i then x else acAt ac j := by
  obtain ⟨n, rfl⟩ := Int.eq_ofNat_of_zero_le hi.1
  obtain ⟨m, rfl⟩ := Int.eq_ofNat_of_zero_le hj
  have hn : n < ac.length := by have := hi.2; omega
  unfold acAt
  rw [Int.toNat_natCast, Int.toNat_natCast, List.getD_eq_getElem?_getD, List.getD_eq_getElem?_getD, List.getElem?_set]
  by_cases h : n = m
  · subst h; simp [hn]
  · rw [if_neg h, if_neg (by omega)]
theorem set_back (ac : List Acc) (i : Int) (x : Acc) (hi : inA ac i) : (ac.set (Int.toNat i) x).set (Int.toNat i) (acAt ac i) = ac := by
  obtain ⟨n, rfl⟩ := Int.eq_ofNat_of_zero_le hi.1
  have hn : n < ac.length := by have := hi.2; omega
  rw [acAt_nat ac n hn, Int.toNat_natCast, List.set_set, List.set_getElem_self]
def neg (e : En) : En := (e.1, w64 (0 - e.2))
def back (es : List En) : List En := (es.map neg).reverse
theorem back_nil : back [] = [] := rfl
theorem back_cons (e : En) (es : List En) : back (e :: es) = back es ++ [neg e] := by simp [back]
theorem runF_app : ∀ (a b : List En) (ac : List Acc), runF ac (a ++ b) = (runF ac a).bind fun x => runF x b
  | [], b, ac => rfl
  | e :: a, b, ac => by
    rw [List.cons_append]
    simp only [runF]
    split
    · exact runF_app a b _
    · rfl
theorem neg_ok {e : En} (h : okM e.2) : neg e = (e.1, -e.2) := by unfold neg; rw [w64_id (by unfold okM at h; omega)]; simp
theorem run_back : ∀ (es : List En) (ac out : List Acc), (∀ e ∈ es, inA ac e.1) → runF ac es = some out → runF out (back es) = some ac
  | [], ac, out, _, h => by
    cases h; rfl
  | e :: es, ac, out, hin, h => by
    unfold runF at h
    split at h
    · rename_i hk
      have hi := hin e (by simp)
      have ih := run_back es _ out (fun a ha => by have := hin a (by simp [ha]); unfold inA at this ⊢; rw [List.length_set]; exact this) h
      rw [back_cons, runF_app, ih]
      show runF _ [neg e] = _
      rw [neg_ok hk.2.1]
      unfold runF
      rw [acAt_set ac e.1 e.1 _ hi hi.1, if_pos rfl]
      dsimp only
      rw [if_pos ⟨hk.2.2, by unfold okM at hk ⊢; omega, by unfold okM at hk ⊢; omega⟩]
      unfold runF
      rw [show (acAt ac e.1).2.1 + e.2 + -e.2 = (acAt ac e.1).2.1 by omega]
      rw [set_back ac e.1 _ hi]
    · cases h
/-- What a run keeps. -/
structure Kept (ac out : List Acc) : Prop where
  len : out.length = ac.length
  cur : ∀ i : Int, 0 ≤ i → (acAt out i).1 = (acAt ac i).1 ∧ (acAt out i).2.2 = (acAt ac i).2.2
theorem run_kept : ∀ (es : List En) (ac out : List Acc), (∀ e ∈ es, inA ac e.1) → runF ac es = some out →
    Kept ac out ∧ (∀ c, sums c out = sums c ac + esum ac c es) ∧ ((∀ i : Int, 0 ≤ i → okM (acAt ac i).2.1) → ∀ i : Int, 0 ≤ i → okM (acAt out i).2.1)
  | [], ac, out, _, h => by
    cases h
    exact ⟨⟨rfl, fun _ _ => ⟨rfl, rfl⟩⟩, fun c => by rw [esum_nil]; omega, fun h => h⟩
  | e :: es, ac, out, hin, h => by
    unfold runF at h
    split at h
    · rename_i hk
      have hi := hin e (by simp)
      obtain ⟨n, hn⟩ := Int.eq_ofNat_of_zero_le hi.1
      have hnl : n < ac.length := by have := hi.2; omega
      obtain ⟨k1, k2, k3⟩ := run_kept es _ out (fun a ha => by have := hin a (by simp [ha]); unfold inA at this ⊢; rw [List.length_set]; exact this) h
      have hcur : ∀ i : Int, 0 ≤ i → (acAt (ac.set (Int.toNat e.1) ((acAt ac e.1).1, (acAt ac e.1).2.1 + e.2, (acAt ac e.1).2.2)) i).1 = (acAt ac i).1 ∧ (acAt (ac.set (Int.toNat e.1) ((acAt ac e.1).1, (acAt ac e.1).2.1 + e.2, (acAt ac e.1).2.2)) i).2.2 = (acAt ac i).2.2 := by
        intro i h0
        rw [acAt_set ac e.1 i _ hi h0]
        split
        · rename_i q; subst q; exact ⟨rfl, rfl⟩
        · exact ⟨rfl, rfl⟩
      refine ⟨⟨by rw [k1.len, List.length_set], fun i h0 => ?_⟩, fun c => ?_, fun hb => k3 fun i h0 => ?_⟩
      · obtain ⟨a, b⟩ := k1.cur i h0
        obtain ⟨a', b'⟩ := hcur i h0
        exact ⟨a.trans a', b.trans b'⟩
      · rw [k2 c, esum_cons]
        have es_eq : esum (ac.set (Int.toNat e.1) ((acAt ac e.1).1, (acAt ac e.1).2.1 + e.2, (acAt ac e.1).2.2)) c es = esum ac c es := by
          unfold esum
          congr 1
          refine List.map_congr_left fun a ha => ?_
          unfold ecur
          rw [(hcur a.1 (hin a (by simp [ha])).1).1]
        rw [es_eq, hn, Int.toNat_natCast, sums_set c ac n _ hnl, acAt_nat ac n hnl]
        unfold ecur cur
        rw [hn, acAt_nat ac n hnl]
        dsimp only
        split <;> omega
      · rw [acAt_set ac e.1 i _ hi h0]
        split
        · exact hk.2.2
        · exact hb i h0
    · cases h
/-! ### right accounts, whose sums are nothing -/
structure Rt (ac : List Acc) : Prop where
  lo : 9 ≤ ac.length
  hi : ac.length ≤ 64
  ok : ∀ (k : Nat) (h : k < ac.length), LChart.OkAt k ac[k]
  sum : ∀ c, sums c ac = 0
theorem Rt.of_book {i : Nat} {ac : List Acc} (h : Book i ac) (hi : i ≤ 8) : Rt ac := ⟨by have := h.len; omega, by have := h.len; omega, h.ok, h.sum⟩
theorem Rt.curs {ac : List Acc} (h : Rt ac) : Curs ac := fun k hk => ⟨(h.ok k hk).1, (h.ok k hk).2.1⟩
theorem Rt.bal {ac : List Acc} (h : Rt ac) : ∀ i : Int, 0 ≤ i → okM (acAt ac i).2.1 := by
  intro i hi
  obtain ⟨n, rfl⟩ := Int.eq_ofNat_of_zero_le hi
  by_cases hn : n < ac.length
  · rw [acAt_nat ac n hn]; have := h.ok n hn; exact ⟨this.2.2.1, this.2.2.2.1⟩
  · unfold acAt
    rw [Int.toNat_natCast, List.getD_eq_getElem?_getD, List.getElem?_eq_none (by omega)]
    exact ⟨by show (-1125899906842624 : Int) ≤ 0; omega, by show (0 : Int) ≤ 1125899906842624; omega⟩
theorem zeros : ∀ l : List Acc, (l.map fun _ => (0 : Int)).sum = 0
  | [] => rfl
  | a :: r => by simp only [List.map_cons, List.sum_cons, zeros r]; rfl
/-- What is right, and posted, is right. -/
theorem Rt.post {ac : List Acc} (h : Rt ac) {es : List En} {out : List Acc} (hb : balF ac es (0, 0, 0) = true) (hr : runF ac es = some out) (hf : freeB (out.drop 9) = true) : Rt out := by
  obtain ⟨b0, b1, b2, b3⟩ := bal_sum ac h.curs es 0 0 0 hb
  obtain ⟨k1, k2, k3⟩ := run_kept es ac out (fun e he => (b0 e he).1) hr
  refine ⟨by rw [k1.len]; exact h.lo, by rw [k1.len]; exact h.hi, ?_, ?_⟩
  · intro k hk
    have hk' : k < ac.length := by rw [← k1.len]; exact hk
    obtain ⟨c1, c2⟩ := k1.cur (k : Int) (by omega)
    have c3 := k3 h.bal (k : Int) (by omega)
    rw [acAt_nat out k hk, acAt_nat ac k hk'] at c1 c2
    rw [acAt_nat out k hk] at c3
    have ho := h.ok k hk'
    refine ⟨by rw [c1]; exact ho.1, by rw [c1]; exact ho.2.1, c3.1, c3.2, fun h9 => ⟨by rw [c2]; exact (ho.2.2.2.2.1 h9).1, by rw [c1]; exact (ho.2.2.2.2.1 h9).2⟩, fun h9 => ?_⟩
    have ho9 := ho.2.2.2.2.2 h9
    refine ⟨by rw [c2]; exact ho9.1, ?_⟩
    have hm : out[k] ∈ out.drop 9 := by
      rw [List.mem_drop_iff_getElem]
      exact ⟨k - 9, by omega, by congr 1; omega⟩
    have := List.all_eq_true.1 hf _ hm
    simp only [Bool.not_eq_true', decide_eq_false_iff_not] at this
    have hob := ho.2.2.1
    have hob2 := ho.2.2.2.1
    have c31 := c3.1
    have c32 := c3.2
    rw [w64_id (by rw [c2]; omega)] at this
    omega
  · intro c
    by_cases hc : c = 0 ∨ c = 1 ∨ c = 2
    · rw [k2 c, h.sum c]
      rcases hc with rfl | rfl | rfl <;> omega
    · unfold sums
      rw [show out.map (cur c) = out.map fun _ => (0 : Int) from List.map_congr_left fun a ha => by
        obtain ⟨k, hk, rfl⟩ := List.getElem_of_mem ha
        have hk' : k < ac.length := by rw [← k1.len]; exact hk
        obtain ⟨c1, _⟩ := k1.cur (k : Int) (by omega)
        rw [acAt_nat out k hk, acAt_nat ac k hk'] at c1
        have ho := h.ok k hk'
        unfold cur
        rw [if_neg]
        rw [c1]
        have := ho.1
        have := ho.2.1
        omega]
      exact zeros out
theorem Rt.free {ac : List Acc} (h : Rt ac) : freeB (ac.drop 9) = true := by
  refine List.all_eq_true.2 fun a ha => ?_
  rw [List.mem_drop_iff_getElem] at ha
  obtain ⟨j, hj, rfl⟩ := ha
  have ho := h.ok (9 + j) (by omega)
  have h9 := ho.2.2.2.2.2 (by omega)
  have := ho.2.2.1
  have := ho.2.2.2.1
  have hd : ¬ w64 (ac[9 + j].2.1 - ac[9 + j].2.2) < 0 := by rw [w64_id (by omega)]; omega
  rw [decide_eq_false hd]; rfl
/-! ### entries as a law makes them -/
structure Ents (ac : List Acc) (es : List En) : Prop where
  len : es.length ≤ 9
  mem : ∀ e ∈ es, inA ac e.1 ∧ (-300000 ≤ e.2 ∧ e.2 ≤ 300000)
  sum : esum ac 0 es = 0 ∧ esum ac 1 es = 0 ∧ esum ac 2 es = 0
theorem Ents.bal {ac : List Acc} {es : List En} (h : Ents ac es) (hc : Curs ac) : balF ac es (0, 0, 0) = true := by
  have := h.len
  refine (bal_small ac hc 300000 (by omega) es 0 0 0 0 h.mem (by omega) (by omega) (by omega) (by omega)).2 ?_
  rw [h.sum.1, h.sum.2.1, h.sum.2.2]; exact ⟨rfl, rfl, rfl⟩
theorem ecur_neg {ac : List Acc} {c : Int} {e : En} (h : okM e.2) : ecur ac c (neg e) = - ecur ac c e := by
  rw [neg_ok h]; unfold ecur; dsimp only; split <;> omega
theorem esum_back (ac : List Acc) (c : Int) : ∀ es : List En, (∀ e ∈ es, okM e.2) → esum ac c (back es) = - esum ac c es
  | [], _ => rfl
  | e :: es, h => by
    rw [back_cons, esum_app, esum_back ac c es (fun a ha => h a (by simp [ha])), esum_cons, esum_cons, esum_nil, ecur_neg (h e (by simp))]; omega
theorem mem_back {es : List En} {a : En} (h : a ∈ back es) : ∃ e ∈ es, a = neg e := by
  unfold back at h
  rw [List.mem_reverse] at h
  obtain ⟨e, he, rfl⟩ := List.mem_map.1 h
  exact ⟨e, he, rfl⟩
theorem Ents.back {ac : List Acc} {es : List En} (h : Ents ac es) : Ents ac (back es) := by
  have hm : ∀ e ∈ es, okM e.2 := fun e he => by have := (h.mem e he).2; unfold okM; omega
  refine ⟨?_, ?_, ?_⟩
  · have := h.len; unfold LEnt.back; rw [List.length_reverse, List.length_map]; omega
  · intro a ha
    obtain ⟨e, he, rfl⟩ := mem_back ha
    rw [neg_ok (hm e he)]
    have := h.mem e he
    exact ⟨this.1, by dsimp only; omega⟩
  · rw [esum_back ac 0 es hm, esum_back ac 1 es hm, esum_back ac 2 es hm]
    have := h.sum; omega
theorem Ents.kept {ac out : List Acc} {es : List En} (h : Ents ac es) (hk : Kept ac out) : Ents out es := by
  have he : ∀ c, esum out c es = esum ac c es := by
    intro c
    unfold esum
    congr 1
    refine List.map_congr_left fun a ha => ?_
    unfold ecur
    rw [(hk.cur a.1 (h.mem a ha).1.1).1]
  refine ⟨h.len, fun e hm => ?_, ?_⟩
  · have := h.mem e hm; unfold inA at this ⊢; rw [hk.len]; exact this
  · rw [he, he, he]; exact h.sum
end Go.Eng.LEnt
