/- What each Go function computes, as a plain Lean function, and the proof that the machine comes to it; for every input. Laid by wip/tools of this session over the kit's print, with small turns of ours. Not trusted: Lean checks it. -/
import Derived.Test.YtahhnopoiaokkaaDoorPAllx0
namespace Go.Proofs.YtahhnopoiaokkaaDoor.PAll
open Go.Proofs.YtahhnopoiaokkaaDoorW
open Go.RowKit Go.Proofs.YtahhnopoiaokkaaDoorW.PrintWords Go.Proofs.YtahhnopoiaokkaaDoorW.PrintLast Go.Proofs.YtahhnopoiaokkaaDoorW.PrintMore
attribute [local go_sem] max2_int min2_int max_two min_two max_three min_three max_four min_four   -- for this text's walks alone
set_option linter.unusedVariables false
set_option linter.unusedSimpArgs false

/-! ### keys_Open: function 15 -/
def keys_Open.l0 : Nat → List Int → List (S39) → Int → Int → Option (List Int)
  | 0, _, _, _, _ => none
  | k + 1, x3, x6, x7, x8 => if x8 < x7 then (if 0 ≤ x8 then (if x8 < (x6.length : Int) then (if ((rd_T39 x6 x8).f2 = true) then (keys_Open.l0 k x3 x6 x7 (wrap64 (x8 + 1))) else (if x3.length < 17592186044416 then (keys_Open.l0 k (x3 ++ [(rd_T39 x6 x8).f0.f0]) x6 x7 (wrap64 (x8 + 1))) else (none))) else (none)) else (none)) else (some x3)
def keys_Open.f (k : Nat) (l0 : List (S39)) : Option (List Int) := keys_Open.l0 k ([] : List Int) l0 (l0.length : Int) 0
theorem keys_Open.mono_l : ∀ k, (∀ y0 y1 y2 y3, LeO (keys_Open.l0 k y0 y1 y2 y3) (keys_Open.l0 (k + 1) y0 y1 y2 y3))
  | 0 => fun _ _ _ _ r h => by simp [keys_Open.l0] at h
  | k + 1 => by
    have ih0 := keys_Open.mono_l k
    · intro y0 y1 y2 y3
      unfold keys_Open.l0
      repeat' first
      | (with_reducible exact ih0 _ _ _ _)
      | (with_reducible exact LeO.refl _)
      | (with_reducible exact LeO.none _)
      | (with_reducible refine LeO.ite ?_ ?_)
      | (with_reducible refine LeO.bind ?_ (fun _ => ?_))
      | exact ih0 _ _ _ _
      | exact LeO.none _
      | refine LeO.ite ?_ ?_
      | refine LeO.bind ?_ (fun _ => ?_)
theorem keys_Open.mono : ∀ a0 k, LeO (keys_Open.f k a0) (keys_Open.f (k + 1) a0) := by
  intro a0 k
  have ih0 := keys_Open.mono_l k
  unfold keys_Open.f
  repeat' first
      | (with_reducible exact ih0 _ _ _ _)
      | (with_reducible exact LeO.refl _)
      | (with_reducible exact LeO.none _)
      | (with_reducible refine LeO.ite ?_ ?_)
      | (with_reducible refine LeO.bind ?_ (fun _ => ?_))
      | exact ih0 _ _ _ _
      | exact LeO.none _
      | refine LeO.ite ?_ ?_
      | refine LeO.bind ?_ (fun _ => ?_)
set_option maxHeartbeats 8000000 in
set_option maxRecDepth 100000 in
theorem keys_Open.calls (k : Nat) (A0 : Option Addr) (c0 : Nat) (l0 : List (S39)) (r : List Int) (w : World) (hr0 : Kd.C k39 w A0 l0.length l0) (hc0 : l0.length ≤ c0) (h : keys_Open.f k l0 = some r) :
    Calls Tryd.prog 15 #[.slice A0 l0.length c0] w fun e w' => ∃ v0_ : Value, e = .returned (v0_) ∧ Kd.R (Kd.int .i64) 3 w' w.heap.size (fun _ => True) v0_ r ∧ Below w.heap.size w w' := by
  have hu39 := Tryd.underlying39
  have HR0 := Aside0.mk hr0
  have HC0 := Aside0.mk hc0
  clear hr0 hc0
  have HB := Aside0.mk (Below.refl w.heap.size w)
  have H : (keys_Open.l0 k ([] : List Int) l0 (l0.length : Int) 0) = some r := h
  clear h
  have H' := Aside0.mk H
  clear H
  go_enter Tryd.func15, Tryd.ntmps15
  go_wp2
  go_loopg [3, 8] k (fun kq v3 v8 w' => ∃ (x3_1 : List Int) (x8_1 : Int), v8 = .int .i64 x8_1 ∧ Aside0 (keys_Open.l0 kq x3_1 l0 (l0.length : Int) x8_1 = some r) ∧ Aside0 (kq ≤ k) ∧ Aside0 (Kd.R (Kd.int .i64) 3 w' w.heap.size (fun _ => True) v3 x3_1) ∧ Aside0 (Below w.heap.size w w'))
  case atStart => exact ⟨(([] : List Int)), (0), (by first | rfl | (simp; done) | (simp [*]; done)), H', ⟨Nat.le_refl _⟩, ⟨by first | exact Kd.R_nil _ _ _ _ _ | exact Kd.N_nil _ _ _ _ _ | exact Kd.V_nil _ _ _ _ _ | exact Kd.Q_nil _ _ _ _ _ | exact Kd.S_nil _ _ _ _ _⟩, ⟨by repeat (first | (with_reducible first | exact HB.out | apply below_alloc | apply pw_below_drewN | apply below_drew1) | exact HB.out)⟩⟩
  case round =>
    clear H'
    try clear c1
    obtain ⟨x3_1, x8_1, rfl, HA, HK1, HO_3, HB⟩ := hrel
    cases gk with
    | zero => exact absurd HA.out (by simp [keys_Open.l0])
    | succ k1 =>
      have H := HA.out
      clear HA
      simp only [keys_Open.l0] at H
      by_cases c2 : x8_1 < (l0.length : Int)
      · rw [if_pos c2] at H
        have c2b0 : decide (x8_1 < (l0.length : Int)) = true := decide_eq_true c2
        clear c2
        by_cases c3 : 0 ≤ x8_1
        · rw [if_pos c3] at H
          have c3b0 : decide (0 ≤ x8_1) = true := decide_eq_true c3
          clear c3
          by_cases c4 : x8_1 < (l0.length : Int)
          · rw [if_pos c4] at H
            have c4b0 : decide (x8_1 < (l0.length : Int)) = true := decide_eq_true c4
            clear c4
            obtain ⟨bq5, hbq5⟩ : ∃ b_ : Bool, b_ = ((rd_T39 l0 x8_1).f2) := ⟨_, rfl⟩
            replace H : (if (bq5 = true) then (keys_Open.l0 k1 x3_1 l0 (l0.length : Int) (wrap64 (x8_1 + 1))) else (if x3_1.length < 17592186044416 then (keys_Open.l0 k1 (x3_1 ++ [(rd_T39 l0 x8_1).f0.f0]) l0 (l0.length : Int) (wrap64 (x8_1 + 1))) else (none))) = some r := by rw [← hbq5] at H; exact H
            have Nbq5 := Aside0.mk hbq5
            clear hbq5
            by_cases c6 : (bq5 = true)
            · subst c6
              have H1 : (keys_Open.l0 k1 x3_1 l0 (l0.length : Int) (wrap64 (x8_1 + 1))) = some r := by rw [if_pos rfl] at H; exact H
              clear H
              have H := H1
              clear H1
              have H' := Aside0.mk H
              clear H
              have p229 : 0 ≤ (x8_1 : Int) := of_decide_eq_true (by first | (with_reducible assumption) | assumption)
              have q229 : x8_1 < (l0.length : Int) := of_decide_eq_true (by first | (with_reducible assumption) | assumption)
              obtain ⟨ad229, e229, hx229_0, hx229_1, hx229_2, hx229_3, hx229_4, hx229_5, hx229_6, hx229_7, hx229_8, hx229_9⟩ := at_T39 HR0.out x8_1 p229 q229
              (try rw [← Nbq5.out] at hx229_9)
              cases e229
              replace hx229_0 := (HB.out.cell (World.block_lt_of_cell? w _ hx229_0)).trans hx229_0
              replace hx229_1 := (HB.out.cell (World.block_lt_of_cell? w _ hx229_1)).trans hx229_1
              replace hx229_2 := (HB.out.cell (World.block_lt_of_cell? w _ hx229_2)).trans hx229_2
              replace hx229_3 := (HB.out.cell (World.block_lt_of_cell? w _ hx229_3)).trans hx229_3
              replace hx229_4 := (HB.out.cell (World.block_lt_of_cell? w _ hx229_4)).trans hx229_4
              replace hx229_5 := (HB.out.cell (World.block_lt_of_cell? w _ hx229_5)).trans hx229_5
              replace hx229_6 := (HB.out.cell (World.block_lt_of_cell? w _ hx229_6)).trans hx229_6
              replace hx229_7 := (HB.out.cell (World.block_lt_of_cell? w _ hx229_7)).trans hx229_7
              replace hx229_8 := (HB.out.cell (World.block_lt_of_cell? w _ hx229_8)).trans hx229_8
              replace hx229_9 := (HB.out.cell (World.block_lt_of_cell? w _ hx229_9)).trans hx229_9
              replace p229 := eq_true p229
              replace q229 := eq_true q229
              go_wp2_with (first | ((with_reducible refine gate_dst (N := 5) rfl ?_); refine box_event ?hg (N := 5) ?hd (cs := #[.int .i64 0, .int .i64 0, .int .i64 0, .int .i64 0, .int .i64 0, .int .i64 0, .int .i64 0, .int .i64 0, .int .i64 0, .bool false]) (t := 39) ?hr ?_; (case hd => rfl); (case hg => rfl); (case hr => first | (go_simp; done) | (go_simp; rfl)); intro gb230 hg w7 hbox hb; have n0_ := Aside0.mk (Kd.R_below (by (with_reducible repeat (first | apply Kd.R_alloc | apply Kd.R_drewN | apply Kd.R_drew)); exact HO_3.out) hb); have n1_ := Aside0.mk (below_step (by repeat (first | (with_reducible first | exact HB.out | apply below_alloc | apply pw_below_drewN | apply below_drew1) | exact HB.out)) hb); have n2_ := Aside0.mk (hbox); have n3_ := Aside0.mk ((by rw [hg]; exact (below_size (by repeat (first | (with_reducible first | exact HB.out | apply below_alloc | apply pw_below_drewN | apply below_drew1) | exact HB.out))) : w.heap.size ≤ gb230)); have n4_ := Aside0.mk ((by rw [hg]; exact (below_size (by repeat (first | (with_reducible first | exact HB.out | apply below_alloc | apply pw_below_drewN | apply below_drew1) | exact HB.out))) : w.heap.size ≤ gb230)); clear HO_3; clear HB; have HO_3 := n0_; have HB := n1_; have BK230 := n2_; have GW230 := n3_; have GE230 := n4_; clear n0_ n1_ n2_ n3_ n4_; clear hb hbox hg; have hcz8_0 : w7.cell? ⟨gb230, 0, none⟩ = some (.int .i64 0) := (blk_cell BK230.out 0).trans rfl; have hcz8_1 : w7.cell? ⟨gb230, 1, none⟩ = some (.int .i64 0) := (blk_cell BK230.out 1).trans rfl; have hcz8_2 : w7.cell? ⟨gb230, 2, none⟩ = some (.int .i64 0) := (blk_cell BK230.out 2).trans rfl; have hcz8_3 : w7.cell? ⟨gb230, 3, none⟩ = some (.int .i64 0) := (blk_cell BK230.out 3).trans rfl; have hcz8_4 : w7.cell? ⟨gb230, 4, none⟩ = some (.int .i64 0) := (blk_cell BK230.out 4).trans rfl; have hcz8_5 : w7.cell? ⟨gb230, 5, none⟩ = some (.int .i64 0) := (blk_cell BK230.out 5).trans rfl; have hcz8_6 : w7.cell? ⟨gb230, 6, none⟩ = some (.int .i64 0) := (blk_cell BK230.out 6).trans rfl; have hcz8_7 : w7.cell? ⟨gb230, 7, none⟩ = some (.int .i64 0) := (blk_cell BK230.out 7).trans rfl; have hcz8_8 : w7.cell? ⟨gb230, 8, none⟩ = some (.int .i64 0) := (blk_cell BK230.out 8).trans rfl; have hcz8_9 : w7.cell? ⟨gb230, 9, none⟩ = some (.bool false) := (blk_cell BK230.out 9).trans rfl; have hfz8_0 := blk_frozen BK230.out 0; have hfz8_1 := blk_frozen BK230.out 1; have hfz8_2 := blk_frozen BK230.out 2; have hfz8_3 := blk_frozen BK230.out 3; have hfz8_4 := blk_frozen BK230.out 4; have hfz8_5 := blk_frozen BK230.out 5; have hfz8_6 := blk_frozen BK230.out 6; have hfz8_7 := blk_frozen BK230.out 7; have hfz8_8 := blk_frozen BK230.out 8; have hfz8_9 := blk_frozen BK230.out 9))
              go_roundg k1
              case measure => have := HK1.out; omega
              case rel => exact ⟨(x3_1), (wrap64 (x8_1 + 1)), (by first | rfl | (simp; done) | (simp [*]; done)), H', ⟨by have := HK1.out; omega⟩, ⟨by (with_reducible repeat (first | apply Kd.R_alloc | apply Kd.R_drewN | apply Kd.R_drew)); exact Kd.R_mono (Kd.R_far (p := ⟨gb230, 9, none⟩) (Kd.R_far (p := ⟨gb230, 8, none⟩) (Kd.R_far (p := ⟨gb230, 7, none⟩) (Kd.R_far (p := ⟨gb230, 6, none⟩) (Kd.R_far (p := ⟨gb230, 5, none⟩) (Kd.R_far (p := ⟨gb230, 4, none⟩) (Kd.R_far (p := ⟨gb230, 3, none⟩) (Kd.R_far (p := ⟨gb230, 2, none⟩) (Kd.R_far (p := ⟨gb230, 1, none⟩) (Kd.R_far (p := ⟨gb230, 0, none⟩) (Kd.R_types HO_3.out BK230.out (by decide)) (fun _ hk => hk.2) (.int .i64 ((rd_T39 l0 x8_1).f0.f0))) (fun _ hk => hk.2) (.int .i64 ((rd_T39 l0 x8_1).f0.f1))) (fun _ hk => hk.2) (.int .i64 ((rd_T39 l0 x8_1).f0.f2))) (fun _ hk => hk.2) (.int .i64 ((rd_T39 l0 x8_1).f0.f3))) (fun _ hk => hk.2) (.int .i64 ((rd_T39 l0 x8_1).f0.f4))) (fun _ hk => hk.2) (.int .i64 ((rd_T39 l0 x8_1).f0.f5))) (fun _ hk => hk.2) (.int .i64 ((rd_T39 l0 x8_1).f0.f6))) (fun _ hk => hk.2) (.int .i64 ((rd_T39 l0 x8_1).f1.f0))) (fun _ hk => hk.2) (.int .i64 ((rd_T39 l0 x8_1).f1.f1))) (fun _ hk => hk.2) (.bool true)) (fun _ hk => trivial)⟩, ⟨by repeat (first | (with_reducible first | exact HB.out | apply below_alloc | apply pw_below_drewN | apply below_drew1 | refine below_set ?_ GE230.out) | exact HB.out)⟩⟩
            · replace c6 := Bool.eq_false_iff.mpr c6
              subst c6
              have H1 : (if x3_1.length < 17592186044416 then (keys_Open.l0 k1 (x3_1 ++ [(rd_T39 l0 x8_1).f0.f0]) l0 (l0.length : Int) (wrap64 (x8_1 + 1))) else (none)) = some r := by rw [if_neg (show ¬ (false = true) by decide)] at H; exact H
              clear H
              have H := H1
              clear H1
              by_cases c9 : x3_1.length < 17592186044416
              · rw [if_pos c9] at H
                have LMc9 := Aside0.mk c9
                clear c9
                obtain ⟨y231, hy231⟩ : ∃ y_ : List Int, y_ = (x3_1 ++ [(rd_T39 l0 x8_1).f0.f0]) := ⟨_, rfl⟩
                replace H : (keys_Open.l0 k1 y231 l0 (l0.length : Int) (wrap64 (x8_1 + 1))) = some r := by first | (rw [hy231]; with_reducible exact H) | (have H2_ := (Option.bind_some _ _).symm.trans H; rw [hy231]; with_reducible exact H2_) | (have H2_ := (Option.bind_some _ _).symm.trans H; with_reducible exact H2_) | with_reducible exact H | (rw [hy231]; exact H) | exact H
                have Ny231 := Aside0.mk hy231
                clear hy231
                have H' := Aside0.mk H
                clear H
                have p229 : 0 ≤ (x8_1 : Int) := of_decide_eq_true (by first | (with_reducible assumption) | assumption)
                have q229 : x8_1 < (l0.length : Int) := of_decide_eq_true (by first | (with_reducible assumption) | assumption)
                obtain ⟨ad229, e229, hx229_0, hx229_1, hx229_2, hx229_3, hx229_4, hx229_5, hx229_6, hx229_7, hx229_8, hx229_9⟩ := at_T39 HR0.out x8_1 p229 q229
                (try rw [← Nbq5.out] at hx229_9)
                cases e229
                replace hx229_0 := (HB.out.cell (World.block_lt_of_cell? w _ hx229_0)).trans hx229_0
                replace hx229_1 := (HB.out.cell (World.block_lt_of_cell? w _ hx229_1)).trans hx229_1
                replace hx229_2 := (HB.out.cell (World.block_lt_of_cell? w _ hx229_2)).trans hx229_2
                replace hx229_3 := (HB.out.cell (World.block_lt_of_cell? w _ hx229_3)).trans hx229_3
                replace hx229_4 := (HB.out.cell (World.block_lt_of_cell? w _ hx229_4)).trans hx229_4
                replace hx229_5 := (HB.out.cell (World.block_lt_of_cell? w _ hx229_5)).trans hx229_5
                replace hx229_6 := (HB.out.cell (World.block_lt_of_cell? w _ hx229_6)).trans hx229_6
                replace hx229_7 := (HB.out.cell (World.block_lt_of_cell? w _ hx229_7)).trans hx229_7
                replace hx229_8 := (HB.out.cell (World.block_lt_of_cell? w _ hx229_8)).trans hx229_8
                replace hx229_9 := (HB.out.cell (World.block_lt_of_cell? w _ hx229_9)).trans hx229_9
                replace p229 := eq_true p229
                replace q229 := eq_true q229
                go_wp2_with (first | ((with_reducible refine gate_dst (N := 5) rfl ?_); refine box_event ?hg (N := 5) ?hd (cs := #[.int .i64 0, .int .i64 0, .int .i64 0, .int .i64 0, .int .i64 0, .int .i64 0, .int .i64 0, .int .i64 0, .int .i64 0, .bool false]) (t := 39) ?hr ?_; (case hd => rfl); (case hg => rfl); (case hr => first | (go_simp; done) | (go_simp; rfl)); intro gb230 hg w10 hbox hb; have n0_ := Aside0.mk (Kd.R_below (by (with_reducible repeat (first | apply Kd.R_alloc | apply Kd.R_drewN | apply Kd.R_drew)); exact HO_3.out) hb); have n1_ := Aside0.mk (below_step (by repeat (first | (with_reducible first | exact HB.out | apply below_alloc | apply pw_below_drewN | apply below_drew1) | exact HB.out)) hb); have n2_ := Aside0.mk (hbox); have n3_ := Aside0.mk ((by rw [hg]; exact (below_size (by repeat (first | (with_reducible first | exact HB.out | apply below_alloc | apply pw_below_drewN | apply below_drew1) | exact HB.out))) : w.heap.size ≤ gb230)); have n4_ := Aside0.mk ((by rw [hg]; exact (below_size (by repeat (first | (with_reducible first | exact HB.out | apply below_alloc | apply pw_below_drewN | apply below_drew1) | exact HB.out))) : w.heap.size ≤ gb230)); clear HO_3; clear HB; have HO_3 := n0_; have HB := n1_; have BK230 := n2_; have GW230 := n3_; have GE230 := n4_; clear n0_ n1_ n2_ n3_ n4_; clear hb hbox hg; have hcz11_0 : w10.cell? ⟨gb230, 0, none⟩ = some (.int .i64 0) := (blk_cell BK230.out 0).trans rfl; have hcz11_1 : w10.cell? ⟨gb230, 1, none⟩ = some (.int .i64 0) := (blk_cell BK230.out 1).trans rfl; have hcz11_2 : w10.cell? ⟨gb230, 2, none⟩ = some (.int .i64 0) := (blk_cell BK230.out 2).trans rfl; have hcz11_3 : w10.cell? ⟨gb230, 3, none⟩ = some (.int .i64 0) := (blk_cell BK230.out 3).trans rfl; have hcz11_4 : w10.cell? ⟨gb230, 4, none⟩ = some (.int .i64 0) := (blk_cell BK230.out 4).trans rfl; have hcz11_5 : w10.cell? ⟨gb230, 5, none⟩ = some (.int .i64 0) := (blk_cell BK230.out 5).trans rfl; have hcz11_6 : w10.cell? ⟨gb230, 6, none⟩ = some (.int .i64 0) := (blk_cell BK230.out 6).trans rfl; have hcz11_7 : w10.cell? ⟨gb230, 7, none⟩ = some (.int .i64 0) := (blk_cell BK230.out 7).trans rfl; have hcz11_8 : w10.cell? ⟨gb230, 8, none⟩ = some (.int .i64 0) := (blk_cell BK230.out 8).trans rfl; have hcz11_9 : w10.cell? ⟨gb230, 9, none⟩ = some (.bool false) := (blk_cell BK230.out 9).trans rfl; have hfz11_0 := blk_frozen BK230.out 0; have hfz11_1 := blk_frozen BK230.out 1; have hfz11_2 := blk_frozen BK230.out 2; have hfz11_3 := blk_frozen BK230.out 3; have hfz11_4 := blk_frozen BK230.out 4; have hfz11_5 := blk_frozen BK230.out 5; have hfz11_6 := blk_frozen BK230.out 6; have hfz11_7 := blk_frozen BK230.out 7; have hfz11_8 := blk_frozen BK230.out 8; have hfz11_9 := blk_frozen BK230.out 9) | ((with_reducible refine gate_builtin (b := .append) (xs := #[.tmp 15, .tmp 19]) rfl ?_); at_builtin; refine Kd.R_append (Kd.int .i64) (w0 := w) w.heap.size rfl (.tmp 15) (.tmp 19) 52 3 (.int .i64 0) 8 rfl Tryd.underlying52 info3 rfl (by decide) (by omega) u3 x3_1 ((rd_T39 l0 x8_1).f0.f0) [.int .i64 ((rd_T39 l0 x8_1).f0.f0)] (fun _ => True) (fun _ => False) rfl (by first | (go_simp; done) | (go_simp; rfl)) ?aP (fun _ hk => hk.elim) ?aF ?aO ?aB ?aS ?aL ?_; (case aP => exact rfl); (case aB => exact (by repeat (first | (with_reducible first | exact HB.out | apply below_alloc | apply pw_below_drewN | apply below_drew1 | refine below_set ?_ GE230.out) | exact HB.out))); (case aF => exact (fun _ _ => trivial)); (case aO => exact (by (with_reducible repeat (first | apply Kd.R_alloc | apply Kd.R_drewN | apply Kd.R_drew)); exact Kd.R_mono (Kd.R_far (p := ⟨gb230, 9, none⟩) (Kd.R_far (p := ⟨gb230, 8, none⟩) (Kd.R_far (p := ⟨gb230, 7, none⟩) (Kd.R_far (p := ⟨gb230, 6, none⟩) (Kd.R_far (p := ⟨gb230, 5, none⟩) (Kd.R_far (p := ⟨gb230, 4, none⟩) (Kd.R_far (p := ⟨gb230, 3, none⟩) (Kd.R_far (p := ⟨gb230, 2, none⟩) (Kd.R_far (p := ⟨gb230, 1, none⟩) (Kd.R_far (p := ⟨gb230, 0, none⟩) (Kd.R_types HO_3.out BK230.out (by decide)) (fun _ hk => hk.2) (.int .i64 ((rd_T39 l0 x8_1).f0.f0))) (fun _ hk => hk.2) (.int .i64 ((rd_T39 l0 x8_1).f0.f1))) (fun _ hk => hk.2) (.int .i64 ((rd_T39 l0 x8_1).f0.f2))) (fun _ hk => hk.2) (.int .i64 ((rd_T39 l0 x8_1).f0.f3))) (fun _ hk => hk.2) (.int .i64 ((rd_T39 l0 x8_1).f0.f4))) (fun _ hk => hk.2) (.int .i64 ((rd_T39 l0 x8_1).f0.f5))) (fun _ hk => hk.2) (.int .i64 ((rd_T39 l0 x8_1).f0.f6))) (fun _ hk => hk.2) (.int .i64 ((rd_T39 l0 x8_1).f1.f0))) (fun _ hk => hk.2) (.int .i64 ((rd_T39 l0 x8_1).f1.f1))) (fun _ hk => hk.2) (.bool false)) (fun _ hk => trivial))); (case aS => exact (below_size (by repeat (first | (with_reducible first | exact HB.out | apply below_alloc | apply pw_below_drewN | apply below_drew1 | refine below_set ?_ GE230.out) | exact HB.out)))); (case aL => have := LMc9.out; omega); intro v232 w12 ho hb hg hat; rw [← Ny231.out] at ho; have n0_ := Aside0.mk (blk_grown (g := gb230) (o := .cells #[.int .i64 ((rd_T39 l0 x8_1).f0.f0), .int .i64 ((rd_T39 l0 x8_1).f0.f1), .int .i64 ((rd_T39 l0 x8_1).f0.f2), .int .i64 ((rd_T39 l0 x8_1).f0.f3), .int .i64 ((rd_T39 l0 x8_1).f0.f4), .int .i64 ((rd_T39 l0 x8_1).f0.f5), .int .i64 ((rd_T39 l0 x8_1).f0.f6), .int .i64 ((rd_T39 l0 x8_1).f1.f0), .int .i64 ((rd_T39 l0 x8_1).f1.f1), .bool false] 39 (0, 0)) (by (with_reducible repeat (first | refine blk_drewN ?_ _ | refine blk_drew ?_ | refine blk_alloc ?_ _)); refine blk_put (cs := #[.int .i64 ((rd_T39 l0 x8_1).f0.f0), .int .i64 ((rd_T39 l0 x8_1).f0.f1), .int .i64 ((rd_T39 l0 x8_1).f0.f2), .int .i64 ((rd_T39 l0 x8_1).f0.f3), .int .i64 ((rd_T39 l0 x8_1).f0.f4), .int .i64 ((rd_T39 l0 x8_1).f0.f5), .int .i64 ((rd_T39 l0 x8_1).f0.f6), .int .i64 ((rd_T39 l0 x8_1).f1.f0), .int .i64 ((rd_T39 l0 x8_1).f1.f1), .bool false]) ?_ 9 _ rfl; (with_reducible repeat (first | refine blk_drewN ?_ _ | refine blk_drew ?_ | refine blk_alloc ?_ _)); refine blk_put (cs := #[.int .i64 ((rd_T39 l0 x8_1).f0.f0), .int .i64 ((rd_T39 l0 x8_1).f0.f1), .int .i64 ((rd_T39 l0 x8_1).f0.f2), .int .i64 ((rd_T39 l0 x8_1).f0.f3), .int .i64 ((rd_T39 l0 x8_1).f0.f4), .int .i64 ((rd_T39 l0 x8_1).f0.f5), .int .i64 ((rd_T39 l0 x8_1).f0.f6), .int .i64 ((rd_T39 l0 x8_1).f1.f0), .int .i64 0, .bool false]) ?_ 8 _ rfl; (with_reducible repeat (first | refine blk_drewN ?_ _ | refine blk_drew ?_ | refine blk_alloc ?_ _)); refine blk_put (cs := #[.int .i64 ((rd_T39 l0 x8_1).f0.f0), .int .i64 ((rd_T39 l0 x8_1).f0.f1), .int .i64 ((rd_T39 l0 x8_1).f0.f2), .int .i64 ((rd_T39 l0 x8_1).f0.f3), .int .i64 ((rd_T39 l0 x8_1).f0.f4), .int .i64 ((rd_T39 l0 x8_1).f0.f5), .int .i64 ((rd_T39 l0 x8_1).f0.f6), .int .i64 0, .int .i64 0, .bool false]) ?_ 7 _ rfl; (with_reducible repeat (first | refine blk_drewN ?_ _ | refine blk_drew ?_ | refine blk_alloc ?_ _)); refine blk_put (cs := #[.int .i64 ((rd_T39 l0 x8_1).f0.f0), .int .i64 ((rd_T39 l0 x8_1).f0.f1), .int .i64 ((rd_T39 l0 x8_1).f0.f2), .int .i64 ((rd_T39 l0 x8_1).f0.f3), .int .i64 ((rd_T39 l0 x8_1).f0.f4), .int .i64 ((rd_T39 l0 x8_1).f0.f5), .int .i64 0, .int .i64 0, .int .i64 0, .bool false]) ?_ 6 _ rfl; (with_reducible repeat (first | refine blk_drewN ?_ _ | refine blk_drew ?_ | refine blk_alloc ?_ _)); refine blk_put (cs := #[.int .i64 ((rd_T39 l0 x8_1).f0.f0), .int .i64 ((rd_T39 l0 x8_1).f0.f1), .int .i64 ((rd_T39 l0 x8_1).f0.f2), .int .i64 ((rd_T39 l0 x8_1).f0.f3), .int .i64 ((rd_T39 l0 x8_1).f0.f4), .int .i64 0, .int .i64 0, .int .i64 0, .int .i64 0, .bool false]) ?_ 5 _ rfl; (with_reducible repeat (first | refine blk_drewN ?_ _ | refine blk_drew ?_ | refine blk_alloc ?_ _)); refine blk_put (cs := #[.int .i64 ((rd_T39 l0 x8_1).f0.f0), .int .i64 ((rd_T39 l0 x8_1).f0.f1), .int .i64 ((rd_T39 l0 x8_1).f0.f2), .int .i64 ((rd_T39 l0 x8_1).f0.f3), .int .i64 0, .int .i64 0, .int .i64 0, .int .i64 0, .int .i64 0, .bool false]) ?_ 4 _ rfl; (with_reducible repeat (first | refine blk_drewN ?_ _ | refine blk_drew ?_ | refine blk_alloc ?_ _)); refine blk_put (cs := #[.int .i64 ((rd_T39 l0 x8_1).f0.f0), .int .i64 ((rd_T39 l0 x8_1).f0.f1), .int .i64 ((rd_T39 l0 x8_1).f0.f2), .int .i64 0, .int .i64 0, .int .i64 0, .int .i64 0, .int .i64 0, .int .i64 0, .bool false]) ?_ 3 _ rfl; (with_reducible repeat (first | refine blk_drewN ?_ _ | refine blk_drew ?_ | refine blk_alloc ?_ _)); refine blk_put (cs := #[.int .i64 ((rd_T39 l0 x8_1).f0.f0), .int .i64 ((rd_T39 l0 x8_1).f0.f1), .int .i64 0, .int .i64 0, .int .i64 0, .int .i64 0, .int .i64 0, .int .i64 0, .int .i64 0, .bool false]) ?_ 2 _ rfl; (with_reducible repeat (first | refine blk_drewN ?_ _ | refine blk_drew ?_ | refine blk_alloc ?_ _)); refine blk_put (cs := #[.int .i64 ((rd_T39 l0 x8_1).f0.f0), .int .i64 0, .int .i64 0, .int .i64 0, .int .i64 0, .int .i64 0, .int .i64 0, .int .i64 0, .int .i64 0, .bool false]) ?_ 1 _ rfl; (with_reducible repeat (first | refine blk_drewN ?_ _ | refine blk_drew ?_ | refine blk_alloc ?_ _)); refine blk_put (cs := #[.int .i64 0, .int .i64 0, .int .i64 0, .int .i64 0, .int .i64 0, .int .i64 0, .int .i64 0, .int .i64 0, .int .i64 0, .bool false]) ?_ 0 _ rfl; (with_reducible repeat (first | refine blk_drewN ?_ _ | refine blk_drew ?_ | refine blk_alloc ?_ _)); exact BK230.out) hg (Kd.R_ne HO_3.out BK230.out (by decide))); have n1_ := Aside0.mk (hb); have n2_ := Aside0.mk (ho); clear BK230; clear HB; clear HO_3; have BK230 := n0_; have HB := n1_; have HO233 := n2_; clear n0_ n1_ n2_; clear ho hb hg hat))
                go_roundg k1
                case measure => have := HK1.out; omega
                case rel => exact ⟨(y231), (wrap64 (x8_1 + 1)), (by first | rfl | (simp; done) | (simp [*]; done)), H', ⟨by have := HK1.out; omega⟩, ⟨by (with_reducible repeat (first | apply Kd.R_alloc | apply Kd.R_drewN | apply Kd.R_drew)); exact HO233.out⟩, ⟨by repeat (first | (with_reducible first | exact HB.out | apply below_alloc | apply pw_below_drewN | apply below_drew1 | refine below_set ?_ GE230.out) | exact HB.out)⟩⟩
              · rw [if_neg c9] at H
                exact absurd H (by simp)
          · rw [if_neg c4] at H
            exact absurd H (by simp)
        · rw [if_neg c3] at H
          exact absurd H (by simp)
      · rw [if_neg c2] at H
        have c2b0 : decide (x8_1 < (l0.length : Int)) = false := decide_eq_false c2
        clear c2
        obtain rfl := Option.some.inj H
        go_wp2
        go_ret
        exact ⟨_, by first | rfl | (simp [errW_none, errW_some] <;> rfl) | (simp [*, errW_none, errW_some] <;> rfl), by (with_reducible repeat (first | apply Kd.R_alloc | apply Kd.R_drewN | apply Kd.R_drew)); exact HO_3.out, by repeat (first | (with_reducible first | exact HB.out | apply below_alloc | apply pw_below_drewN | apply below_drew1) | exact HB.out)⟩

end Go.Proofs.YtahhnopoiaokkaaDoor.PAll
