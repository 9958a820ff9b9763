/- The laws of layer 4. Conditions: the statements' own. -/
import Derived.Test.YtmmbngpmoabkgaaPFrmCrc
import Derived.Test.YtmmbngpmoabkgaaPLFrm
set_option linter.all false
set_option linter.unusedVariables false
set_option linter.unusedSimpArgs false
set_option linter.deprecated false
namespace Go.Eng.Frm
open Go.RowKit Go.Eng Go.Eng.LCrc Go.Eng.LFrm
set_option maxRecDepth 100000
abbrev sBo : Sig := ⟨[(false, .bool)], []⟩
abbrev sStr : Sig := ⟨[(false, .str)], []⟩
abbrev BB : K := .slice (.int .u8)
abbrev sMk : Sig := ⟨[(false, .slice (.int .u8)), (false, .bool)], []⟩
abbrev sOne : Sig := ⟨[(false, .slice (.int .u8)), (false, .int .i64), (false, .bool)], []⟩
abbrev sBy : Sig := ⟨[(false, .slice (.int .u8))], []⟩
abbrev sScan : Sig := ⟨[(false, .slice (.slice (.int .u8))), (false, .int .i64)], []⟩
theorem awake_ev : Ev1 (fun k => CF k sBo n_law04_awake []) true := Ev1.of_rfl 60 (fun k => by kernel_rfl)
theorem shr8 {n : Int} (h : 0 ≤ n) (d : Int) (hd : 0 < d) : Int.fdiv n d = n / d := Int.fdiv_eq_ediv_of_nonneg _ (by omega)
theorem make_ev (x : List Int) (hl : x.length ≤ 140737488351232) : Ev1 (fun k => CF k sMk n_frame_Make [inj BB x]) (if 16384 < x.length then ([], false) else (fr x, true)) := by
  refine Ev1.step (fun k => f_frame_Make k x _ rfl _ rfl) ?_
  by_cases h : 16384 < x.length
  · rw [if_pos h]; exact Ev1.posD (by omega) (Ev1.now _)
  · rw [if_neg h]
    refine Ev1.negD (by omega) (Ev1.bind (sum_ev x (by omega)) (Ev1.posD (by simp only [List.length_cons, List.length_nil]; omega) (Ev1.const ?_)))
    have hs := sumOf_lt x
    unfold fr head
    rw [shr8 (by omega) _ (by omega), shr8 (by omega) _ (by omega), shr8 (by omega) _ (by omega), shr8 (by omega) _ (by omega), w8_mod, w8_mod, w8_mod, w8_mod, w8_mod, w8_mod]
theorem made_ev (x : List Int) (hl : x.length ≤ 140737488351232) : Ev1 (fun k => CF k sStr n_law04_made [inj BB x]) (fr x) := by
  refine Ev1.step (fun k => f_law04_made k x _ rfl _ rfl _ rfl) (Ev1.bind (sum_ev x (by omega)) (Ev1.posD (by simp only [List.length_cons, List.length_nil]; omega) (Ev1.const ?_)))
  have hs := sumOf_lt x
  unfold fr head
  have td : ∀ (n d : Int), 0 ≤ n → Int.tdiv n d = n / d := fun n d h => Int.tdiv_eq_ediv_of_nonneg h
  have tm : ∀ (n d : Int), 0 ≤ n → Int.tmod n d = n % d := fun n d h => Int.tmod_eq_emod_of_nonneg h
  rw [td _ _ (by omega), td _ _ (by omega), td _ _ (by omega), td _ _ (by omega), w64_id (by omega), w32_eq (by omega) (by omega), w32_eq (by omega) (by omega), w32_eq (by omega) (by omega), tm _ _ (by omega), tm _ _ (by omega), tm _ _ (by omega), tm _ _ (by omega), w8_mod, w8_mod, w8_mod, w8_mod, w8_mod, w8_mod]
  congr 2
  simp only [List.cons_append, List.nil_append, List.cons.injEq, and_true, true_and]
  refine ⟨?_, ?_, ?_, ?_⟩ <;> omega
theorem one_ev (b : List Int) (hb : Byt b) (hl : b.length ≤ 211106232532992) : Ev1 (fun k => CF k sOne n_frame_One [inj BB b]) (ans1 (rec1 b)) := by
  have h0 := byt_get hb 0
  have h1 := byt_get hb 1
  have h2 := byt_get hb 2
  have h3 := byt_get hb 3
  have h4 := byt_get hb 4
  have h5 := byt_get hb 5
  have hn : wrapb .i64 .or (w64 (w64 (b.getD 0 0) * 256)) (w64 (b.getD 1 0)) = lenOf b := by
    unfold lenOf
    obtain ⟨x, hx⟩ := Int.eq_ofNat_of_zero_le h0.1
    obtain ⟨y, hy⟩ := Int.eq_ofNat_of_zero_le h1.1
    rw [hx] at h0
    rw [hy] at h1
    rw [hx, hy]
    rw [w64_id (x := (x : Int)) (by omega), w64_id (x := (y : Int)) (by omega), w64_id (by omega)]
    have := or_i64 x y (by omega) (by omega)
    rw [show ((x * 256 : Nat) : Int) = (x : Int) * 256 by omega] at this
    rw [this]
    omega
  have hs : wrapb .u32 .or (wrapb .u32 .or (wrapb .u32 .or (w32 (w32 (b.getD 2 0) * 16777216)) (w32 (w32 (b.getD 3 0) * 65536))) (w32 (w32 (b.getD 4 0) * 256))) (w32 (b.getD 5 0)) = smOf b := by
    unfold smOf
    obtain ⟨x, hx⟩ := Int.eq_ofNat_of_zero_le h2.1
    obtain ⟨y, hy⟩ := Int.eq_ofNat_of_zero_le h3.1
    obtain ⟨z, hz⟩ := Int.eq_ofNat_of_zero_le h4.1
    obtain ⟨u, hu⟩ := Int.eq_ofNat_of_zero_le h5.1
    rw [hx] at h2
    rw [hy] at h3
    rw [hz] at h4
    rw [hu] at h5
    rw [hx, hy, hz, hu]
    rw [four32 x y z u (by omega) (by omega) (by omega) (by omega)]
    omega
  have hl0 : 0 ≤ lenOf b ∧ lenOf b ≤ 65535 := by unfold lenOf; omega
  refine Ev1.step (fun k => f_frame_One k b _ rfl (lenOf b) hn.symm (6 + lenOf b) (w64_id (by omega)).symm _ rfl) ?_
  rw [hs]
  unfold rec1
  by_cases c1 : b.length < 6
  · rw [if_pos (.inl c1)]; exact Ev1.posD (by omega) (Ev1.now _)
  · refine Ev1.negD (by omega) (Ev1.pos (inb_true (by omega) (by omega)) (Ev1.pos (inb_true (by omega) (by omega)) ?_))
    by_cases c2 : 16384 < lenOf b
    · rw [if_pos (.inr (.inl c2))]; exact Ev1.posD c2 (Ev1.now _)
    · refine Ev1.negD c2 ?_
      by_cases c3 : (b.length : Int) < 6 + lenOf b
      · rw [if_pos (.inr (.inr c3))]; exact Ev1.posD c3 (Ev1.now _)
      · rw [if_neg (by omega)]
        have e : (6 + lenOf b).toNat - 6 = (lenOf b).toNat := by omega
        rw [e]
        have hlx : ((b.drop 6).take (lenOf b).toNat).length = (lenOf b).toNat := by rw [List.length_take, List.length_drop]; omega
        refine Ev1.negD c3 (Ev1.pos (inb_true (by omega) (by omega)) (Ev1.pos (inb_true (by omega) (by omega)) (Ev1.pos (inb_true (by omega) (by omega)) (Ev1.pos (inb_true (by omega) (by omega)) (Ev1.pos (and2 (by omega) (by omega)) (Ev1.bind (sum_ev _ (by omega)) ?_))))))
        by_cases c4 : sumOf ((b.drop 6).take (lenOf b).toNat) = smOf b
        · rw [if_pos c4]
          refine Ev1.neg (by rw [decide_eq_true c4]; rfl) (Ev1.posD (by omega) (Ev1.const ?_))
          simp only [ans1, hlx]
          congr 3
          omega
        · rw [if_neg c4]
          exact Ev1.pos (by rw [decide_eq_false c4]; rfl) (Ev1.now _)
/-! Wide. -/
theorem wide_l0 (b : List Int) (hb : Byt b) (hl : b.length ≤ 140737488351232) (L : Nat) (hL : L < 20000) : ∀ (d i : Nat) (out : List Int), i + d = L → out.length = L → Byt out → ∃ w, Ev2 (fun k m => h_law04_Wide k m b (L : Int) (i : Int) out) w ∧ Byt w ∧ w.length = L
  | 0, i, out, h, ho, hB => ⟨out, Ev2.step (fun k m => h_law04_Wide_s k m b (L : Int) (i : Int) out _ rfl _ rfl _ rfl) (Ev2.negD (by omega) (Ev2.now _)), hB, ho⟩
  | d + 1, i, out, h, ho, hB => by
    by_cases hb0 : 0 < b.length
    · have hm := tmod_facts (a := (i : Int)) (b := (b.length : Int)) (by omega) (by omega)
      have hv := byt_get hb (Int.tmod (i : Int) (b.length : Int)).toNat
      obtain ⟨w, h1, h2, h3⟩ := wide_l0 b hb hl L hL d (i + 1) (out.set i (b.getD (Int.tmod (i : Int) (b.length : Int)).toNat 0)) (by omega) (by rw [List.length_set]; exact ho) (by
        intro x hx
        rcases List.mem_or_eq_of_mem_set hx with q | q
        · exact hB x q
        · rw [q]; exact hv)
      refine ⟨w, ?_, h2, h3⟩
      refine Ev2.step (fun k m => h_law04_Wide_s k m b (L : Int) (i : Int) out _ rfl _ rfl _ (wnat (by omega)).symm) (Ev2.posD (by omega) (Ev2.posD (by omega) (Ev2.pos (by rw [decide_eq_false (by omega)]; rfl) (Ev2.pos (inb_true hm.1 hm.2.1) (Ev2.pos (inb_true (by omega) (by omega)) ?_)))))
      rw [Int.toNat_natCast]
      exact h1
    · obtain ⟨w, h1, h2, h3⟩ := wide_l0 b hb hl L hL d (i + 1) out (by omega) ho hB
      exact ⟨w, Ev2.step (fun k m => h_law04_Wide_s k m b (L : Int) (i : Int) out _ rfl _ rfl _ (wnat (by omega)).symm) (Ev2.posD (by omega) (Ev2.negD (by omega) h1)), h2, h3⟩
theorem wide_ev (b : List Int) (n : Int) (hb : Byt b) (hl : b.length ≤ 140737488351232) (hn : 0 ≤ n ∧ n ≤ 65535) : ∃ w, Ev1 (fun k => CF k sBy n_law04_Wide [inj BB b, inj (.int .u16) n]) w ∧ Byt w ∧ w.length < 20000 := by
  have ht := tmod_facts (a := n) (b := 20000) hn.1 (by omega)
  obtain ⟨L, hL⟩ : ∃ L : Nat, Int.tmod n 20000 = (L : Int) := ⟨(Int.tmod n 20000).toNat, by omega⟩
  rw [hL] at ht
  obtain ⟨w, h1, h2, h3⟩ := wide_l0 b hb hl L (by omega) L 0 (List.replicate L 0) (by omega) (by simp) (fun x hx => by rw [List.eq_of_mem_replicate hx]; omega)
  refine ⟨w, ?_, h2, by omega⟩
  refine Ev1.step (fun k => f_law04_Wide k b n (L : Int) (by rw [w64_id (by omega), hL]) _ rfl) (Ev1.pos ?_ ?_)
  · rw [decide_eq_true rfl, decide_eq_true (by omega), decide_eq_true (by omega)]; rfl
  · rw [Int.toNat_natCast, List.length_replicate]
    exact h1.diag
theorem hc (x : List Int) : (!decide (x = x)) = false := by rw [decide_eq_true rfl]; rfl
/-- A round of FrameMake. -/
theorem make_round (x : List Int) (hx : Byt x) (hl : x.length ≤ 140737488351232) (rest : List Int) (hr : Byt rest) (hrl : rest.length ≤ 140737488351232) (l : List (List Int)) (i : Nat) (hi : i < 2) (hl2 : l.length = 2) (hxi : l.getD i [] = x) (R : Bool) (hn : Ev2 (fun k m => h_law04_FrameMake k m rest 2 ((i + 1 : Nat) : Int) l) R) :
    Ev2 (fun k m => h_law04_FrameMake k m rest 2 (i : Int) l) R := by
  refine Ev2.step (fun k m => h_law04_FrameMake_s k m rest 2 (i : Int) l x (by rw [Int.toNat_natCast, hxi]) _ (wnat (by omega)).symm) (Ev2.posD (by omega) (Ev2.pos (inb_true (by omega) (by omega)) (Ev2.bind (make_ev x hl) ?_)))
  by_cases h : 16384 < x.length
  · rw [if_pos h]
    exact Ev2.posD (by omega) (Ev2.neg rfl (Ev2.neg rfl hn))
  · rw [if_neg h]
    have hfl := fr_len x
    have ho := one_ev (fr x ++ rest) (Byt.append (fr_byt hx) hr) (by rw [List.length_append]; omega)
    rw [one_fr x rest (by omega)] at ho
    refine Ev2.negD (by omega) (Ev2.posD (by dsimp only; omega) (Ev2.posD (by dsimp only; omega) (Ev2.bind ho (Ev2.neg rfl (Ev2.bind (made_ev x hl) (Ev2.neg (hc _) (Ev2.neg rfl (Ev2.neg (hc _) (Ev2.neg ?_ hn)))))))))
    rw [Bool.not_eq_false', decide_eq_true_eq]
    show 6 + (x.length : Int) = ((fr x).length : Int)
    omega
theorem FrameMake (b : List Int) (n : Int) (rest : List Int) (hb : Byt b) (hl : b.length ≤ 140737488351232) (hn : 0 ≤ n ∧ n ≤ 65535) (hr : Byt rest) (hrl : rest.length ≤ 140737488351232) : Ev1 (fun k => CF k sBo n_law04_FrameMake [inj BB b, inj (.int .u16) n, inj BB rest]) true := by
  obtain ⟨w, h1, h2, h3⟩ := wide_ev b n hb hl hn
  refine Ev1.step (fun k => f_law04_FrameMake k b n rest) (Ev1.bind awake_ev (Ev1.neg rfl (Ev1.bind h1 ?_)))
  refine Ev2.diag (f := fun k m => h_law04_FrameMake k m rest (([b, w].length : Nat) : Int) 0 [b, w]) ?_
  refine make_round b hb hl rest hr hrl [b, w] 0 (by omega) rfl rfl true (make_round w h2 (by omega) rest hr hrl [b, w] 1 (by omega) rfl rfl true ?_)
  exact Ev2.step (fun k m => h_law04_FrameMake_s k m rest 2 _ [b, w] _ rfl _ rfl) (Ev2.negD (by omega) (Ev2.now _))
/-- A round of FrameOne. -/
theorem one_round (x : List Int) (hx : Byt x) (hl : x.length ≤ 211106232532992) (l : List (List Int)) (i : Nat) (hi : i < 2) (hl2 : l.length = 2) (hxi : l.getD i [] = x) (R : Bool) (hn : Ev2 (fun k m => h_law04_FrameOne k m 2 ((i + 1 : Nat) : Int) l) R) :
    Ev2 (fun k m => h_law04_FrameOne k m 2 (i : Int) l) R := by
  refine Ev2.step (fun k m => h_law04_FrameOne_s k m 2 (i : Int) l x (by rw [Int.toNat_natCast, hxi]) _ (wnat (by omega)).symm _ rfl) (Ev2.posD (by omega) (Ev2.pos (inb_true (by omega) (by omega)) (Ev2.bind (one_ev x hx hl) ?_)))
  cases ho : rec1 x with
  | none => exact Ev2.neg rfl (Ev2.pos rfl (Ev2.neg rfl (Ev2.neg rfl hn)))
  | some y =>
    obtain ⟨q1, q2, q3⟩ := one_some hx ho
    have hfl := fr_len y
    refine Ev2.pos rfl (Ev2.negD (by dsimp only [ans1]; omega) (Ev2.bind (made_ev y (by omega)) (Ev2.pos (and2 (by dsimp only [ans1]; omega) (by dsimp only [ans1]; omega)) (Ev2.neg ?_ (Ev2.neg rfl hn)))))
    rw [Bool.not_eq_false', decide_eq_true_eq]
    show fr y = x.take (6 + (y.length : Int)).toNat
    rw [show (6 + (y.length : Int)).toNat = (fr y).length by omega]
    conv => rhs; rw [q3]
    rw [List.take_left']
    rfl
theorem FrameOne (b : List Int) (n : Int) (hb : Byt b) (hl : b.length ≤ 140737488351232) (hn : 0 ≤ n ∧ n ≤ 255) : Ev1 (fun k => CF k sBo n_law04_FrameOne [inj BB b, inj (.int .u8) n]) true := by
  have hm := tmod_facts (a := n) (b := 4) hn.1 (by omega)
  refine Ev1.step (fun k => f_law04_FrameOne k b n _ rfl _ rfl) (Ev1.bind awake_ev (Ev1.neg rfl (Ev1.posD (by simp only [List.length_cons, List.length_nil]; omega) ?_)))
  have hx2 : Byt ([0, Int.tmod n 4] ++ b) := Byt.append (Byt.cons (by omega) (Byt.cons (by omega) Byt.nil)) hb
  have hx3 : ([0, Int.tmod n 4] ++ b).length ≤ 211106232532992 := by simp; omega
  generalize [0, Int.tmod n 4] ++ b = w at hx2 hx3 ⊢
  refine Ev2.diag (f := fun k m => h_law04_FrameOne k m (([b, w].length : Nat) : Int) 0 [b, w]) ?_
  refine one_round b hb (by omega) [b, w] 0 (by omega) rfl rfl true (one_round w hx2 hx3 [b, w] 1 (by omega) rfl rfl true ?_)
  exact Ev2.step (fun k m => h_law04_FrameOne_s k m 2 _ [b, w] _ rfl _ rfl _ rfl) (Ev2.negD (by omega) (Ev2.now _))
/-! Turned, and cut. -/
theorem minI_take (b : List Int) : ∃ q : Nat, minI (b.length : Int) 500 = (q : Int) ∧ q ≤ b.length ∧ q ≤ 500 := by
  unfold minI
  by_cases h : (500 : Int) < b.length
  · rw [decide_eq_true h, cond_true]; exact ⟨500, rfl, by omega, by omega⟩
  · rw [decide_eq_false h, cond_false]; exact ⟨b.length, rfl, by omega, by omega⟩
theorem FrameTurned (b : List Int) (at_ by_ : Int) (hb : Byt b) (hl : b.length ≤ 140737488351232) (hat : 0 ≤ at_ ∧ at_ ≤ 65535) (hby : 0 ≤ by_ ∧ by_ ≤ 255) : Ev1 (fun k => CF k sBo n_law04_FrameTurned [inj BB b, inj (.int .u16) at_, inj (.int .u8) by_]) true := by
  obtain ⟨q, hq, hq1, hq2⟩ := minI_take b
  refine Ev1.step (fun k => f_law04_FrameTurned k b at_ by_ _ rfl (q : Int) hq.symm) (Ev1.bind awake_ev (Ev1.neg rfl (Ev1.pos (and2 (by omega) (by omega)) ?_)))
  rw [Int.toNat_natCast]
  have hx : Byt (b.take q) := hb.take q
  have hxl : (b.take q).length ≤ 500 := by rw [List.length_take]; omega
  generalize b.take q = x at hx hxl ⊢
  refine Ev1.bind (made_ev x (by omega)) ?_
  have hfl := fr_len x
  have hL : w64 (((fr x).length : Int) - 2) = ((4 + x.length : Nat) : Int) := by rw [w64_id (by omega)]; omega
  have hm := tmod_facts (a := at_) (b := ((4 + x.length : Nat) : Int)) hat.1 (by omega)
  obtain ⟨j, hj, hj2, hj3⟩ : ∃ j : Nat, w64 (2 + Int.tmod (w64 at_) (w64 (((fr x).length : Int) - 2))) = (j : Int) ∧ 2 ≤ j ∧ j < 6 + x.length := by
    rw [hL, w64_id (x := at_) (by omega), w64_id (by omega)]
    exact ⟨(2 + Int.tmod at_ ((4 + x.length : Nat) : Int)).toNat, by omega, by omega, by omega⟩
  rw [hj, Int.toNat_natCast]
  have hc0 := byt_get (fr_byt hx) j
  obtain ⟨v1, v2⟩ := xor8 hc0 hby
  have hs : Byt ((fr x).set j (wrapb .u8 .xor ((fr x).getD j 0) by_)) := by
    intro y hy
    rcases List.mem_or_eq_of_mem_set hy with p | p
    · exact fr_byt hx y p
    · rw [p]; exact v1
  have ho := one_ev _ hs (by rw [List.length_set]; omega)
  have ht := turned x hx (by omega) j hj2 hj3 (wrapb .u8 .xor ((fr x).getD j 0) by_) v1
  refine Ev1.posD (by omega) (Ev1.pos (by rw [decide_eq_false (by omega)]; rfl) (Ev1.pos (inb_true (by omega) (by omega)) (Ev1.pos (inb_true (by omega) (by omega)) (Ev1.bind ho (Ev1.const (congrArg some ?_))))))
  have e : ∀ o : Option (List Int), (ans1 o).2.2 = o.isSome := by intro o; cases o <;> rfl
  rw [e, ht, beq_iff_eq]
  exact decide_eq_decide.2 v2
theorem FrameCut (b : List Int) (at_ : Int) (hb : Byt b) (hl : b.length ≤ 140737488351232) (hat : 0 ≤ at_ ∧ at_ ≤ 65535) : Ev1 (fun k => CF k sBo n_law04_FrameCut [inj BB b, inj (.int .u16) at_]) true := by
  obtain ⟨q, hq, hq1, hq2⟩ := minI_take b
  refine Ev1.step (fun k => f_law04_FrameCut k b at_ _ rfl (q : Int) hq.symm) (Ev1.bind awake_ev (Ev1.neg rfl (Ev1.pos (and2 (by omega) (by omega)) ?_)))
  rw [Int.toNat_natCast]
  have hx : Byt (b.take q) := hb.take q
  have hxl : (b.take q).length ≤ 500 := by rw [List.length_take]; omega
  generalize b.take q = x at hx hxl ⊢
  refine Ev1.bind (made_ev x (by omega)) ?_
  have hfl := fr_len x
  have hm := tmod_facts (a := at_) (b := ((fr x).length : Int)) hat.1 (by omega)
  obtain ⟨j, hj, hj2⟩ : ∃ j : Nat, Int.tmod (w64 at_) ((fr x).length : Int) = (j : Int) ∧ j < 6 + x.length := by
    rw [w64_id (x := at_) (by omega)]
    exact ⟨(Int.tmod at_ ((fr x).length : Int)).toNat, by omega, by omega⟩
  rw [hj, Int.toNat_natCast, Nat.sub_zero, List.drop_zero]
  have hp : Byt ((fr x).take j) := (fr_byt hx).take j
  have ho := one_ev _ hp (by rw [List.length_take]; omega)
  rw [cut_none x (by omega) j hj2] at ho
  have hscan : Ev1 (fun k => CF k sScan n_frame_Scan [inj BB ((fr x).take j)]) ([], 0) := by
    refine Ev1.step (fun k => f_frame_Scan k ((fr x).take j)) (Ev2.diag (f := fun k m => h_frame_Scan k m ((fr x).take j) 0 []) (Ev2.step (fun k m => h_frame_Scan_s k m ((fr x).take j) 0 []) (Ev2.pos (and2 (by omega) (by omega)) ?_)))
    exact Ev2.bind ho (Ev2.pos rfl (Ev2.now _))
  have hne : (!decide (((fr x).length : Int) = 0)) = true := by rw [decide_eq_false (by omega)]; rfl
  exact Ev1.posD (by omega) (Ev1.pos hne (Ev1.pos (and2 (by omega) (by omega)) (Ev1.bind ho (Ev1.pos hne (Ev1.pos (and2 (by omega) (by omega)) (Ev1.bind hscan (Ev1.now _)))))))
theorem okB_of (l : List Int) (h : l.length * 1 ≤ 140737488351232 ∧ ∀ x ∈ l, (Lit.int .u8 x).wf = true) : Byt l ∧ l.length ≤ 140737488351232 := ⟨fun x hx => wf_u8 (h.2 x hx), by omega⟩
end Go.Eng.Frm
