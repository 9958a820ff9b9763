/- What each Go function computes, as a plain Lean function, and the proof that the machine comes to it; for every input. Laid by wip/tools of this session over the kit's print, with small turns of ours. Not trusted: Lean checks it. -/
import Derived.Test.YtajeobncbcpllaaPAllx0
namespace Go.Proofs.Ytajeobncbcpllaa.PAll
open Go.Proofs.YtajeobncbcpllaaW
open Go.RowKit Go.Proofs.YtajeobncbcpllaaW.PrintWords Go.Proofs.YtajeobncbcpllaaW.PrintLast Go.Proofs.YtajeobncbcpllaaW.PrintMore
attribute [local go_sem] max2_int min2_int max_two min_two max_three min_three max_four min_four   -- for this text's walks alone
set_option linter.unusedVariables false
set_option linter.unusedSimpArgs false

/-! ### hawalalaw07_Book_Accounts: function 10 -/
mutual
def hawalalaw07_Book_Accounts.l0 : Nat → List (S27) → Int → Int → List Int → List Int → List Int → Option ((List (S27)))
  | 0, _, _, _, _, _, _ => none
  | k + 1, x3, x10, x11, x113000, x113001, x113002 => if x11 < x10 then (if 0 ≤ x11 then (if x11 < (x3.length : Int) then (hawalalaw07_Book_Accounts.l0 k (x3.set (x11 : Int).toNat (⟨wrap64 (Int.tdiv x11 3), (rd_T27 x3 x11).f1, (rd_T27 x3 x11).f2⟩ : S27)) x10 (wrap64 (x11 + 1)) x113000 x113001 x113002) else (none)) else (none)) else (hawalalaw07_Book_Accounts.l1 k x3 x113000 (x113000.length : Int) 0 x113000 x113001 x113002)
def hawalalaw07_Book_Accounts.l1 : Nat → List (S27) → List Int → Int → Int → List Int → List Int → List Int → Option ((List (S27)))
  | 0, _, _, _, _, _, _, _ => none
  | k + 1, x3, x22, x23, x24, x113000, x113001, x113002 => if x24 < x23 then (if 0 ≤ x24 then (if x24 < (x22.length : Int) then (if x24 = 8 then (some x3) else (if x24 < (x113001.length : Int) then (hawalalaw07_Book_Accounts.j2 k x3 x24 x22 x23 x24 x113000 x113001 x113002 (wrap64 (Int.tmod (rd x22 x24) 3)) (wrap64 (Int.tmod (rd x113001 x24) 100000)) 0) else (hawalalaw07_Book_Accounts.j2 k x3 x24 x22 x23 x24 x113000 x113001 x113002 (wrap64 (Int.tmod (rd x22 x24) 3)) 0 0))) else (none)) else (none)) else (some x3)
def hawalalaw07_Book_Accounts.j2 : Nat → List (S27) → Int → List Int → Int → Int → List Int → List Int → List Int → Int → Int → Int → Option ((List (S27)))
  | 0, _, _, _, _, _, _, _, _, _, _, _ => none
  | k + 1, x3, x5, x22, x23, x24, x113000, x113001, x113002, x119000, x119001, x119002 => if x5 < (x113002.length : Int) then (if 0 ≤ x5 then (if 0 ≤ (wrap64 (3 * x119000)) then (if (wrap64 (3 * x119000)) < (x3.length : Int) then ((some (x3.set ((wrap64 (3 * x119000)) : Int).toNat (⟨(rd_T27 x3 (wrap64 (3 * x119000))).f0, wrap64 (((rd_T27 x3 (wrap64 (3 * x119000))).f1) - x119001), (rd_T27 x3 (wrap64 (3 * x119000))).f2⟩ : S27) : List (S27))).bind fun y122 => (if y122.length < 5864062014805 then (hawalalaw07_Book_Accounts.l1 k (y122 ++ [(⟨x119000, x119001, wrap64 (Int.tdiv (wrap64 (x119001 * (wrap64 (Int.tmod (rd x113002 x5) 101)))) 100)⟩ : S27)]) x22 x23 (wrap64 (x24 + 1)) x113000 x113001 x113002) else (none))) else (none)) else (none)) else (none)) else (if 0 ≤ (wrap64 (3 * x119000)) then (if (wrap64 (3 * x119000)) < (x3.length : Int) then ((some (x3.set ((wrap64 (3 * x119000)) : Int).toNat (⟨(rd_T27 x3 (wrap64 (3 * x119000))).f0, wrap64 (((rd_T27 x3 (wrap64 (3 * x119000))).f1) - x119001), (rd_T27 x3 (wrap64 (3 * x119000))).f2⟩ : S27) : List (S27))).bind fun y127 => (if y127.length < 5864062014805 then (hawalalaw07_Book_Accounts.l1 k (y127 ++ [(⟨x119000, x119001, x119002⟩ : S27)]) x22 x23 (wrap64 (x24 + 1)) x113000 x113001 x113002) else (none))) else (none)) else (none))
end
def hawalalaw07_Book_Accounts.f (k : Nat) (l0_0 : List Int) (l0_1 : List Int) (l0_2 : List Int) : Option ((List (S27))) := if 9 ≤ 11728124029610 then ((some (List.replicate 9 z27 : List (S27))).bind fun y113 => (hawalalaw07_Book_Accounts.l0 k y113 (y113.length : Int) 0 l0_0 l0_1 l0_2)) else (none)
theorem hawalalaw07_Book_Accounts.mono_l : ∀ k, (∀ y0 y1 y2 y3 y4 y5, LeO (hawalalaw07_Book_Accounts.l0 k y0 y1 y2 y3 y4 y5) (hawalalaw07_Book_Accounts.l0 (k + 1) y0 y1 y2 y3 y4 y5)) ∧ (∀ y0 y1 y2 y3 y4 y5 y6, LeO (hawalalaw07_Book_Accounts.l1 k y0 y1 y2 y3 y4 y5 y6) (hawalalaw07_Book_Accounts.l1 (k + 1) y0 y1 y2 y3 y4 y5 y6)) ∧ (∀ y0 y1 y2 y3 y4 y5 y6 y7 y8 y9 y10, LeO (hawalalaw07_Book_Accounts.j2 k y0 y1 y2 y3 y4 y5 y6 y7 y8 y9 y10) (hawalalaw07_Book_Accounts.j2 (k + 1) y0 y1 y2 y3 y4 y5 y6 y7 y8 y9 y10))
  | 0 => ⟨fun _ _ _ _ _ _ r h => by simp [hawalalaw07_Book_Accounts.l0] at h, fun _ _ _ _ _ _ _ r h => by simp [hawalalaw07_Book_Accounts.l1] at h, fun _ _ _ _ _ _ _ _ _ _ _ r h => by simp [hawalalaw07_Book_Accounts.j2] at h⟩
  | k + 1 => by
    obtain ⟨ih0, ih1, ih2⟩ := hawalalaw07_Book_Accounts.mono_l k
    refine ⟨?_, ?_, ?_⟩
    · intro y0 y1 y2 y3 y4 y5
      unfold hawalalaw07_Book_Accounts.l0
      repeat' first
      | (with_reducible exact ih0 _ _ _ _ _ _)
      | (with_reducible exact ih1 _ _ _ _ _ _ _)
      | (with_reducible exact ih2 _ _ _ _ _ _ _ _ _ _ _)
      | (with_reducible exact LeO.refl _)
      | (with_reducible exact LeO.none _)
      | (with_reducible refine LeO.ite ?_ ?_)
      | (with_reducible refine LeO.bind ?_ (fun _ => ?_))
      | exact ih0 _ _ _ _ _ _
      | exact ih1 _ _ _ _ _ _ _
      | exact ih2 _ _ _ _ _ _ _ _ _ _ _
      | exact LeO.none _
      | refine LeO.ite ?_ ?_
      | refine LeO.bind ?_ (fun _ => ?_)
    · intro y0 y1 y2 y3 y4 y5 y6
      unfold hawalalaw07_Book_Accounts.l1
      repeat' first
      | (with_reducible exact ih0 _ _ _ _ _ _)
      | (with_reducible exact ih1 _ _ _ _ _ _ _)
      | (with_reducible exact ih2 _ _ _ _ _ _ _ _ _ _ _)
      | (with_reducible exact LeO.refl _)
      | (with_reducible exact LeO.none _)
      | (with_reducible refine LeO.ite ?_ ?_)
      | (with_reducible refine LeO.bind ?_ (fun _ => ?_))
      | exact ih0 _ _ _ _ _ _
      | exact ih1 _ _ _ _ _ _ _
      | exact ih2 _ _ _ _ _ _ _ _ _ _ _
      | exact LeO.none _
      | refine LeO.ite ?_ ?_
      | refine LeO.bind ?_ (fun _ => ?_)
    · intro y0 y1 y2 y3 y4 y5 y6 y7 y8 y9 y10
      unfold hawalalaw07_Book_Accounts.j2
      repeat' first
      | (with_reducible exact ih0 _ _ _ _ _ _)
      | (with_reducible exact ih1 _ _ _ _ _ _ _)
      | (with_reducible exact ih2 _ _ _ _ _ _ _ _ _ _ _)
      | (with_reducible exact LeO.refl _)
      | (with_reducible exact LeO.none _)
      | (with_reducible refine LeO.ite ?_ ?_)
      | (with_reducible refine LeO.bind ?_ (fun _ => ?_))
      | exact ih0 _ _ _ _ _ _
      | exact ih1 _ _ _ _ _ _ _
      | exact ih2 _ _ _ _ _ _ _ _ _ _ _
      | exact LeO.none _
      | refine LeO.ite ?_ ?_
      | refine LeO.bind ?_ (fun _ => ?_)
theorem hawalalaw07_Book_Accounts.mono : ∀ a0 a1 a2 k, LeO (hawalalaw07_Book_Accounts.f k a0 a1 a2) (hawalalaw07_Book_Accounts.f (k + 1) a0 a1 a2) := by
  intro a0 a1 a2 k
  obtain ⟨ih0, ih1, ih2⟩ := hawalalaw07_Book_Accounts.mono_l k
  unfold hawalalaw07_Book_Accounts.f
  repeat' first
      | (with_reducible exact ih0 _ _ _ _ _ _)
      | (with_reducible exact ih1 _ _ _ _ _ _ _)
      | (with_reducible exact ih2 _ _ _ _ _ _ _ _ _ _ _)
      | (with_reducible exact LeO.refl _)
      | (with_reducible exact LeO.none _)
      | (with_reducible refine LeO.ite ?_ ?_)
      | (with_reducible refine LeO.bind ?_ (fun _ => ?_))
      | exact ih0 _ _ _ _ _ _
      | exact ih1 _ _ _ _ _ _ _
      | exact ih2 _ _ _ _ _ _ _ _ _ _ _
      | exact LeO.none _
      | refine LeO.ite ?_ ?_
      | refine LeO.bind ?_ (fun _ => ?_)
def hawalalaw07_Book_Accounts.T15 : Bool × List (List Nat × List Nat) := (true, [([], []), ([0], [0]), ([], []), ([2], [2]), ([], []), ([3, 4], [3, 4]), ([5], [5]), ([6], [6]), ([7], [7]), ([1, 8], [1, 8]), ([9], [9]), ([0, 1, 2, 3, 4, 5, 6, 7, 8, 9, 10], []), ([11, 10, 0, 1, 2, 3, 4, 5, 6, 7, 8, 9, 10], [10, 11])])
def hawalalaw07_Book_Accounts.B15 : List Nat := [0, 1, 0, 4, 0, 28, 60, 124, 252, 511, 1023, 2047, 4095]
theorem hawalalaw07_Book_Accounts.tab15 : rtab .any (opsOf Try.f10 15) = hawalalaw07_Book_Accounts.T15 := by kernel_rfl
theorem hawalalaw07_Book_Accounts.bits15 : waitsOk hawalalaw07_Book_Accounts.T15.2 hawalalaw07_Book_Accounts.B15 = true := by kernel_rfl
def hawalalaw07_Book_Accounts.T16 : Bool × List (List Nat × List Nat) := (true, [([], []), ([], []), ([1], [1]), ([2], [2]), ([0, 3], [0, 3]), ([4], [4]), ([5], [5]), ([], []), ([7], [7]), ([6, 8], [6, 8]), ([0, 3, 0, 1, 2, 3, 4, 5, 6, 7, 8, 9], [0, 3]), ([10, 0, 1, 2, 3, 4, 5, 6, 7, 8, 9], [10]), ([11, 9, 0, 1, 2, 3, 4, 5, 6, 7, 8, 9], [9, 11])])
def hawalalaw07_Book_Accounts.B16 : List Nat := [0, 0, 2, 6, 15, 31, 63, 0, 128, 511, 1023, 2047, 4095]
theorem hawalalaw07_Book_Accounts.tab16 : rtab .any (opsOf Try.f10 16) = hawalalaw07_Book_Accounts.T16 := by kernel_rfl
theorem hawalalaw07_Book_Accounts.bits16 : waitsOk hawalalaw07_Book_Accounts.T16.2 hawalalaw07_Book_Accounts.B16 = true := by kernel_rfl
set_option maxHeartbeats 8000000 in
set_option maxRecDepth 100000 in
theorem hawalalaw07_Book_Accounts.calls (k : Nat) (A0_0 : Option Addr) (c0_0 : Nat) (l0_0 : List Int) (A0_1 : Option Addr) (c0_1 : Nat) (l0_1 : List Int) (A0_2 : Option Addr) (c0_2 : Nat) (l0_2 : List Int) (r : List (S27)) (w : World) (hr0_0 : Kd.C (Kd.int .u8) w A0_0 l0_0.length l0_0) (hc0_0 : l0_0.length ≤ c0_0) (hr0_1 : Kd.C (Kd.int .u32) w A0_1 l0_1.length l0_1) (hc0_1 : l0_1.length ≤ c0_1) (hr0_2 : Kd.C (Kd.int .u8) w A0_2 l0_2.length l0_2) (hc0_2 : l0_2.length ≤ c0_2) (h : hawalalaw07_Book_Accounts.f k l0_0 l0_1 l0_2 = some r) :
    Calls Try.prog 10 #[.agg #[.slice A0_0 l0_0.length c0_0, .slice A0_1 l0_1.length c0_1, .slice A0_2 l0_2.length c0_2]] w fun e w' => ∃ v0_ : Value, e = .returned (v0_) ∧ Kd.R k27 27 w' w.heap.size (fun _ => True) v0_ r ∧ Below w.heap.size w w' := by
  have hu25 := Try.underlying25
  have hu27 := Try.underlying27
  have HR0_0 := Aside0.mk hr0_0
  have HC0_0 := Aside0.mk hc0_0
  clear hr0_0 hc0_0
  have HR0_1 := Aside0.mk hr0_1
  have HC0_1 := Aside0.mk hc0_1
  clear hr0_1 hc0_1
  have HR0_2 := Aside0.mk hr0_2
  have HC0_2 := Aside0.mk hc0_2
  clear hr0_2 hc0_2
  have HB := Aside0.mk (Below.refl w.heap.size w)
  have H : (if 9 ≤ 11728124029610 then ((some (List.replicate 9 z27 : List (S27))).bind fun y113 => (hawalalaw07_Book_Accounts.l0 k y113 (y113.length : Int) 0 l0_0 l0_1 l0_2)) else (none)) = some r := h
  clear h
  by_cases c2 : 9 ≤ 11728124029610
  · rw [if_pos c2] at H
    have c2b0 := eq_true c2
    have c2b1 : decide (9 ≤ 11728124029610) = true := decide_eq_true c2
    clear c2
    obtain ⟨y113, hy113⟩ : ∃ y_ : List (S27), y_ = (List.replicate 9 z27) := ⟨_, rfl⟩
    replace H : (hawalalaw07_Book_Accounts.l0 k y113 (y113.length : Int) 0 l0_0 l0_1 l0_2) = some r := by first | (rw [hy113]; with_reducible exact H) | (have H2_ := (Option.bind_some _ _).symm.trans H; rw [hy113]; with_reducible exact H2_) | (have H2_ := (Option.bind_some _ _).symm.trans H; with_reducible exact H2_) | with_reducible exact H | (rw [hy113]; exact H) | exact H
    have Ny113 := Aside0.mk hy113
    clear hy113
    have H' := Aside0.mk H
    clear H
    go_enter Try.func10, Try.ntmps10
    go_wp2_with (first | ((with_reducible refine gate_dst (N := 1) rfl ?_); refine box_event ?hg (N := 1) ?hd (cs := #[.slice A0_0 l0_0.length c0_0, .slice A0_1 l0_1.length c0_1, .slice A0_2 l0_2.length c0_2]) (t := 25) ?hr ?_; (case hd => rfl); (case hg => rfl); (case hr => first | (go_simp; done) | (go_simp; rfl)); intro gb112 hg w3 hbox hb; have n0_ := Aside0.mk (below_step (by repeat (first | (with_reducible first | exact HB.out | apply below_alloc | apply pw_below_drewN | apply below_drew1) | exact HB.out)) hb); have n1_ := Aside0.mk (hbox); have n2_ := Aside0.mk ((by rw [hg]; exact (below_size (by repeat (first | (with_reducible first | exact HB.out | apply below_alloc | apply pw_below_drewN | apply below_drew1) | exact HB.out))) : w.heap.size ≤ gb112)); have n3_ := Aside0.mk ((by rw [hg]; exact (below_size (by repeat (first | (with_reducible first | exact HB.out | apply below_alloc | apply pw_below_drewN | apply below_drew1) | exact HB.out))) : w.heap.size ≤ gb112)); clear HB; have HB := n0_; have BK112 := n1_; have GW112 := n2_; have GE112 := n3_; clear n0_ n1_ n2_ n3_; clear hb hbox hg) | ((with_reducible refine gate_dst (N := 8) rfl ?_); refine Kd.R_make k27 _ 27 rfl (N := 8) rfl 28 _ _ rfl 9 rfl rfl Try.underlying28 (.agg #[(.int .i64 0), (.int .i64 0), (.int .i64 0)]) 24 info27 rfl (by decide) (by omega) z27 (ok := fun _ => True) (okp := fun _ => True) (k27_mkM _ _ _ z27 ) (fun _ hk => hk) trivial (by omega) (by omega) (Below.refl _ _) (Nat.le_refl _) ?_; intro v114 w4 ho5 hb hg_ hnew_; clear hg_ hnew_; (first | rw [← Ny113.out] at ho5 | (simp only [Int.reduceToNat] at ho5; rw [← Ny113.out] at ho5)); have n0_ := Aside0.mk (Kd.R_lower ho5 (below_size (by repeat (first | (with_reducible first | exact HB.out | apply below_alloc | apply pw_below_drewN | apply below_drew1 | refine below_set ?_ GE112.out) | exact HB.out)))); have n1_ := Aside0.mk (blk_below (g := gb112) (o := .cells #[.slice A0_0 l0_0.length c0_0, .slice A0_1 l0_1.length c0_1, .slice A0_2 l0_2.length c0_2] 25 (0, 0)) (by (with_reducible repeat (first | refine blk_drewN ?_ _ | refine blk_drew ?_ | refine blk_alloc ?_ _)); exact BK112.out) hb); have n2_ := Aside0.mk (below_step (by repeat (first | (with_reducible first | exact HB.out | apply below_alloc | apply pw_below_drewN | apply below_drew1 | refine below_set ?_ GE112.out) | exact HB.out)) hb); clear BK112; clear HB; have HO115 := n0_; have BK112 := n1_; have HB := n2_; clear n0_ n1_ n2_; clear hb ho5; obtain ⟨Ao6, co6, eo6⟩ := Kd.R_slice HO115.out; subst eo6))
    go_loopg [11] k (fun kq v11 w' => ∃ (x3_1 : List (S27)) (x11_1 : Int), v11 = .int .i64 x11_1 ∧ Aside0 (hawalalaw07_Book_Accounts.l0 kq x3_1 (y113.length : Int) x11_1 l0_0 l0_1 l0_2 = some r) ∧ Aside0 (kq ≤ k) ∧ Aside0 (Kd.R k27 27 w' w.heap.size (fun _ => True) (.slice Ao6 y113.length co6) x3_1) ∧ Aside0 (w'.heap[gb112]? = some (.cells #[(.slice A0_0 l0_0.length c0_0), (.slice A0_1 l0_1.length c0_1), (.slice A0_2 l0_2.length c0_2)] 25 (0, 0))) ∧ Aside0 (Below w.heap.size w w'))
    case atStart => exact ⟨(y113), (0), (by first | rfl | (simp; done) | (simp [*]; done)), H', ⟨Nat.le_refl _⟩, ⟨by (with_reducible repeat (first | apply Kd.R_alloc | apply Kd.R_drewN | apply Kd.R_drew)); exact HO115.out⟩, ⟨by (with_reducible repeat (first | refine blk_drewN ?_ _ | refine blk_drew ?_ | refine blk_alloc ?_ _)); exact BK112.out⟩, ⟨by repeat (first | (with_reducible first | exact HB.out | apply below_alloc | apply pw_below_drewN | apply below_drew1 | refine below_set ?_ GE112.out) | exact HB.out)⟩⟩
    case round =>
      clear H'
      try clear c1
      try clear c2
      try clear c2b0
      try clear c2b1
      try clear p2
      obtain ⟨x3_1, x11_1, rfl, HA, HK1, HO_3, BK112, HB⟩ := hrel
      have hl3_1 := (Kd.R_reads' HO_3.out).1
      rw [hl3_1] at HO_3
      (try simp only [hl3_1])
      (try simp only [hl3_1] at BK112)
      cases gk with
      | zero => exact absurd HA.out (by simp [hawalalaw07_Book_Accounts.l0])
      | succ k1 =>
        have H := HA.out
        clear HA
        simp only [hawalalaw07_Book_Accounts.l0] at H
        by_cases c7 : x11_1 < (y113.length : Int)
        · rw [if_pos c7] at H
          have c7b0 : decide (x11_1 < (y113.length : Int)) = true := decide_eq_true c7
          (try (have c7h0_hl3_1 := c7b0; rw [hl3_1] at c7h0_hl3_1))
          clear c7
          by_cases c8 : 0 ≤ x11_1
          · rw [if_pos c8] at H
            have c8b0 : decide (0 ≤ x11_1) = true := decide_eq_true c8
            clear c8
            by_cases c9 : x11_1 < (x3_1.length : Int)
            · rw [if_pos c9] at H
              have c9b0 : decide (x11_1 < (x3_1.length : Int)) = true := decide_eq_true c9
              (try (have c9h0_hl3_1 := c9b0; rw [hl3_1] at c9h0_hl3_1))
              clear c9
              obtain ⟨y116, hy116⟩ : ∃ y_ : List (S27), y_ = (x3_1.set (x11_1 : Int).toNat (⟨wrap64 (Int.tdiv x11_1 3), (rd_T27 x3_1 x11_1).f1, (rd_T27 x3_1 x11_1).f2⟩ : S27)) := ⟨_, rfl⟩
              replace H : (hawalalaw07_Book_Accounts.l0 k1 y116 (y113.length : Int) (wrap64 (x11_1 + 1)) l0_0 l0_1 l0_2) = some r := by first | (rw [hy116]; with_reducible exact H) | (have H2_ := (Option.bind_some _ _).symm.trans H; rw [hy116]; with_reducible exact H2_) | (have H2_ := (Option.bind_some _ _).symm.trans H; with_reducible exact H2_) | with_reducible exact H | (rw [hy116]; exact H) | exact H
              have Ny116 := Aside0.mk hy116
              clear hy116
              have H' := Aside0.mk H
              clear H
              have p10 : 0 ≤ (x11_1 : Int) := of_decide_eq_true (by first | (with_reducible assumption) | assumption)
              have q10 : (x11_1 : Int) < ((x3_1.length : Int) : Int) := of_decide_eq_true (by first | (with_reducible assumption) | assumption)
              obtain ⟨go10, co10, eo10, gb10, gl10, cl10, HG10⟩ := Kd.R_form HO_3.out (by omega)
              (first | cases eo10 | (injection eo10 with ea_ en_ ec_; (first | subst ea_ | (injection ea_ with ea_; subst ea_)); subst ec_; clear en_))
              have GB10 := Aside0.mk gb10
              have GG10 := Aside0.mk HG10
              clear gb10 gl10 HG10
              obtain ⟨ce10, hcl10, hM10, hcc10, hfr10⟩ := Kd.R_elem HO_3.out z27 (x11_1 : Int) p10 q10
              obtain rfl := k27_openM hM10
              have hx10_0 : wr.cell? ⟨go10, (x11_1 : Int).toNat * 3, none⟩ = some (.int .i64 ((rd_T27 x3_1 x11_1).f0)) := hcc10 0 _ rfl
              have hx10_1 : wr.cell? ⟨go10, (x11_1 : Int).toNat * 3 + 1, none⟩ = some (.int .i64 ((rd_T27 x3_1 x11_1).f1)) := hcc10 1 _ rfl
              have hx10_2 : wr.cell? ⟨go10, (x11_1 : Int).toNat * 3 + 2, none⟩ = some (.int .i64 ((rd_T27 x3_1 x11_1).f2)) := hcc10 2 _ rfl
              have hf10_0 : wr.frozen? ⟨go10, (x11_1 : Int).toNat * 3, none⟩ = false := hfr10 0
              have hf10_1 : wr.frozen? ⟨go10, (x11_1 : Int).toNat * 3 + 1, none⟩ = false := hfr10 1
              have hf10_2 : wr.frozen? ⟨go10, (x11_1 : Int).toNat * 3 + 2, none⟩ = false := hfr10 2
              clear hcl10 hcc10 hfr10 hM10
              replace p10 := eq_true p10
              replace q10 := eq_true q10
              have HX11 := Aside0.mk (show Kd.R k27 27 wr w.heap.size (fun _ => True) (.slice (some ⟨go10, 0, none⟩) x3_1.length co6) x3_1 from (by (with_reducible repeat (first | apply Kd.R_alloc | apply Kd.R_drewN | apply Kd.R_drew)); exact HO_3.out))
              obtain ⟨ce11, hcl11, hM11, hcc11, hfr11⟩ := Kd.R_elem HX11.out z27 (x11_1 : Int) (of_decide_eq_true (by first | (with_reducible assumption) | assumption)) (by have h_ : (x11_1 : Int) < ((x3_1.length : Int) : Int) := of_decide_eq_true (by first | (with_reducible assumption) | assumption); first | exact h_ | (have e_ := (Kd.R_reads' HO_3.out).1; omega) | simpa using h_)
              obtain rfl := k27_openM hM11
              have HP11 := Kd.R_seg HX11.out (x11_1 : Int) (of_decide_eq_true (by first | (with_reducible assumption) | assumption)) (by have h_ : (x11_1 : Int) < ((x3_1.length : Int) : Int) := of_decide_eq_true (by first | (with_reducible assumption) | assumption); first | exact h_ | (have e_ := (Kd.R_reads' HO_3.out).1; omega) | simpa using h_) (seg := [.int .i64 (wrap64 (Int.tdiv x11_1 3))]) (j := 0) hcl11 hcc11 (show 1 ≤ 3 from by decide) (x' := (⟨wrap64 (Int.tdiv x11_1 3), (rd_T27 x3_1 x11_1).f1, (rd_T27 x3_1 x11_1).f2⟩ : S27)) (k27_mkM _ _ _ (⟨wrap64 (Int.tdiv x11_1 3), (rd_T27 x3_1 x11_1).f1, (rd_T27 x3_1 x11_1).f2⟩ : S27) ) (fun _ hk => hk)
              have hx11_0 := hcc11 0 _ rfl
              (try simp only [show (k27).sz = 3 from rfl, Nat.mul_one, Nat.add_zero] at hx11_0)
              have hf11_0 := hfr11 0
              (try simp only [show (k27).sz = 3 from rfl, Nat.mul_one, Nat.add_zero] at hf11_0)
              clear hcl11 hcc11 hfr11 hM11
              go_wp2_with (first | ((with_reducible refine gate_store (t := 3) (p := 19) rfl ?_); refine store_event (t := 3) (p := 19) (v := ?vo_w12) (w1 := (wr.setCell ⟨go10, (x11_1 : Int).toNat * 3, none⟩ (.int .i64 (wrap64 (Int.tdiv x11_1 3))))) ?hg ?ho ?hn ?hr ?_; (case ho => rfl); (case hg => rfl); (case hn => rfl); (case hr => first | (go_simp; done) | (go_simp; rfl)); intro w12 hw; have hg : wr.grownBy w12 (some go10) := (by rw [hw]; exact HP11.2); have hp_ : Kd.R k27 27 w12 w.heap.size (fun _ => True) (.slice (some ⟨go10, 0, none⟩) x3_1.length co6) y116 := (by rw [hw, Ny116.out]; exact HP11.1); clear HP11; have n0_ := Aside0.mk (hp_); have n1_ := Aside0.mk (blk_grown (g := gb112) (o := .cells #[.slice A0_0 l0_0.length c0_0, .slice A0_1 l0_1.length c0_1, .slice A0_2 l0_2.length c0_2] 25 (0, 0)) (by (with_reducible repeat (first | refine blk_drewN ?_ _ | refine blk_drew ?_ | refine blk_alloc ?_ _)); exact BK112.out) hg (Kd.R_ne HO_3.out BK112.out (by decide))); have n2_ := Aside0.mk ((by rw [hw]; exact below_set (HB.out) GB10.out : Below w.heap.size w w12)); clear HO_3; clear BK112; clear HB; have HO_3 := n0_; have BK112 := n1_; have HB := n2_; clear n0_ n1_ n2_; clear hg hw hp_))
              (try simp only [← hl3_1])
              go_roundg k1
              case measure => have := HK1.out; omega
              case rel => exact ⟨(y116), (wrap64 (x11_1 + 1)), (by first | rfl | (simp; done) | (simp [*]; done)), H', ⟨by have := HK1.out; omega⟩, ⟨by (try simp only [hl3_1]); (with_reducible repeat (first | apply Kd.R_alloc | apply Kd.R_drewN | apply Kd.R_drew)); exact HO_3.out⟩, ⟨by (try simp only [hl3_1]); (with_reducible repeat (first | refine blk_drewN ?_ _ | refine blk_drew ?_ | refine blk_alloc ?_ _)); exact BK112.out⟩, ⟨by repeat (first | (with_reducible first | exact HB.out | apply below_alloc | apply pw_below_drewN | apply below_drew1 | refine below_set ?_ GE112.out) | exact HB.out)⟩⟩
            · rw [if_neg c9] at H
              exact absurd H (by simp)
          · rw [if_neg c8] at H
            exact absurd H (by simp)
        · rw [if_neg c7] at H
          have c7b0 : decide (x11_1 < (y113.length : Int)) = false := decide_eq_false c7
          (try (have c7h0_hl3_1 := c7b0; rw [hl3_1] at c7h0_hl3_1))
          clear c7
          have H' := Aside0.mk H
          clear H
          have hcz13_0 : wr.cell? ⟨gb112, 0, none⟩ = some (.slice A0_0 l0_0.length c0_0) := (blk_cell BK112.out 0).trans rfl
          have hcz13_1 : wr.cell? ⟨gb112, 1, none⟩ = some (.slice A0_1 l0_1.length c0_1) := (blk_cell BK112.out 1).trans rfl
          have hcz13_2 : wr.cell? ⟨gb112, 2, none⟩ = some (.slice A0_2 l0_2.length c0_2) := (blk_cell BK112.out 2).trans rfl
          have hfz13_0 := blk_frozen BK112.out 0
          have hfz13_1 := blk_frozen BK112.out 1
          have hfz13_2 := blk_frozen BK112.out 2
          go_wp2
          go_loopg [3, 24] k1 (fun kq v3 v24 w' => ∃ (x3_2 : List (S27)) (x24_2 : Int), v24 = .int .i64 x24_2 ∧ Aside0 (hawalalaw07_Book_Accounts.l1 kq x3_2 l0_0 (l0_0.length : Int) x24_2 l0_0 l0_1 l0_2 = some r) ∧ Aside0 (kq ≤ k1) ∧ Aside0 (Kd.R k27 27 w' w.heap.size (fun _ => True) v3 x3_2) ∧ Aside0 (w'.heap[gb112]? = some (.cells #[(.slice A0_0 l0_0.length c0_0), (.slice A0_1 l0_1.length c0_1), (.slice A0_2 l0_2.length c0_2)] 25 (0, 0))) ∧ Aside0 (Below w.heap.size w w'))
          case atStart => exact ⟨(x3_1), (0), (by first | rfl | (simp; done) | (simp [*]; done)), H', ⟨Nat.le_refl _⟩, ⟨by (try simp only [hl3_1]); (with_reducible repeat (first | apply Kd.R_alloc | apply Kd.R_drewN | apply Kd.R_drew)); exact HO_3.out⟩, ⟨by (try simp only [hl3_1]); (with_reducible repeat (first | refine blk_drewN ?_ _ | refine blk_drew ?_ | refine blk_alloc ?_ _)); exact BK112.out⟩, ⟨by repeat (first | (with_reducible first | exact HB.out | apply below_alloc | apply pw_below_drewN | apply below_drew1 | refine below_set ?_ GE112.out) | exact HB.out)⟩⟩
          case round =>
            clear H'
            try clear c1
            try clear p1
            try clear q1
            try clear hx1
            try clear hf1
            try clear c2
            try clear c2b0
            try clear c2b1
            try clear p2
            try clear p6
            try clear c7
            try clear c7b0
            try clear c8
            try clear c8b0
            try clear c9
            try clear c9b0
            try clear c10
            try clear p10
            try clear q10
            try clear hx10
            try clear hf10
            try clear c11
            try clear hx11
            try clear hf11
            try clear hcz13_0
            try clear hcz13_1
            try clear hcz13_2
            try clear hfz13_0
            try clear hfz13_1
            try clear hfz13_2
            try clear hx10_0
            try clear hx10_1
            try clear hx10_2
            try clear hx11_0
            try clear p10
            try clear p2
            try clear q10
            obtain ⟨x3_2, x24_2, rfl, HA, HK2, HO_3, BK112, HB⟩ := hrel
            cases gk with
            | zero => exact absurd HA.out (by simp [hawalalaw07_Book_Accounts.l1])
            | succ k2 =>
              have H := HA.out
              clear HA
              simp only [hawalalaw07_Book_Accounts.l1] at H
              by_cases c14 : x24_2 < (l0_0.length : Int)
              · rw [if_pos c14] at H
                have c14b0 : decide (x24_2 < (l0_0.length : Int)) = true := decide_eq_true c14
                (try (have c14h0_hl3_1 := c14b0; rw [hl3_1] at c14h0_hl3_1))
                clear c14
                by_cases c15 : 0 ≤ x24_2
                · rw [if_pos c15] at H
                  have c15b0 : decide (0 ≤ x24_2) = true := decide_eq_true c15
                  clear c15
                  by_cases c16 : x24_2 < (l0_0.length : Int)
                  · rw [if_pos c16] at H
                    have c16b0 : decide (x24_2 < (l0_0.length : Int)) = true := decide_eq_true c16
                    (try (have c16h0_hl3_1 := c16b0; rw [hl3_1] at c16h0_hl3_1))
                    clear c16
                    by_cases c17 : x24_2 = 8
                    · rw [if_pos c17] at H
                      have c17b0 : (x24_2 == 8) = true := beq_iff_eq.mpr c17
                      have c17b1 : (x24_2 != 8) = false := bne_eq_false_iff_eq.mpr c17
                      clear c17
                      obtain rfl := Option.some.inj H
                      have p117 : 0 ≤ (x24_2 : Int) := of_decide_eq_true (by first | (with_reducible assumption) | assumption)
                      have q117 : x24_2 < (l0_0.length : Int) := of_decide_eq_true (by first | (with_reducible assumption) | assumption)
                      obtain ⟨ad117, e117, hx117_0⟩ := Kd.at_int HR0_0.out x24_2 p117 q117
                      cases e117
                      replace hx117_0 := (HB.out.cell (World.block_lt_of_cell? w _ hx117_0)).trans hx117_0
                      replace p117 := eq_true p117
                      replace q117 := eq_true q117
                      go_wp2
                      go_ret
                      exact ⟨_, by first | rfl | (simp [errW_none, errW_some] <;> rfl) | (simp [*, errW_none, errW_some] <;> rfl), by (with_reducible repeat (first | apply Kd.R_alloc | apply Kd.R_drewN | apply Kd.R_drew)); exact HO_3.out, by repeat (first | (with_reducible first | exact HB.out | apply below_alloc | apply pw_below_drewN | apply below_drew1 | refine below_set ?_ GE112.out) | exact HB.out)⟩
                    · rw [if_neg c17] at H
                      have c17b0 : (x24_2 == 8) = false := beq_eq_false_iff_ne.mpr c17
                      have c17b1 : (x24_2 != 8) = true := bne_iff_ne.mpr c17
                      have HC18 := Aside0.mk H
                      clear H
                      have p117 : 0 ≤ (x24_2 : Int) := of_decide_eq_true (by first | (with_reducible assumption) | assumption)
                      have q117 : x24_2 < (l0_0.length : Int) := of_decide_eq_true (by first | (with_reducible assumption) | assumption)
                      obtain ⟨ad117, e117, hx117_0⟩ := Kd.at_int HR0_0.out x24_2 p117 q117
                      cases e117
                      replace hx117_0 := (HB.out.cell (World.block_lt_of_cell? w _ hx117_0)).trans hx117_0
                      replace p117 := eq_true p117
                      replace q117 := eq_true q117
                      go_upto_if 39 with (first | ((with_reducible refine gate_dst (N := 7) rfl ?_); refine box_event ?hg (N := 7) ?hd (cs := #[.int .i64 0, .int .i64 0, .int .i64 0]) (t := 27) ?hr ?_; (case hd => rfl); (case hg => rfl); (case hr => first | (go_simp; done) | (go_simp; rfl)); intro gb118 hg w19 hbox hb; have n0_ := Aside0.mk (Kd.R_below (Kd.R_elderB (by (with_reducible repeat (first | apply Kd.R_alloc | apply Kd.R_drewN | apply Kd.R_drew)); exact HO_3.out) gb118 (Nat.le_of_eq hg.symm)) hb); have n1_ := Aside0.mk (blk_below (g := gb112) (o := .cells #[.slice (some ad117) l0_0.length c0_0, .slice A0_1 l0_1.length c0_1, .slice A0_2 l0_2.length c0_2] 25 (0, 0)) (by (with_reducible repeat (first | refine blk_drewN ?_ _ | refine blk_drew ?_ | refine blk_alloc ?_ _)); exact BK112.out) hb); have n2_ := Aside0.mk (below_step (by repeat (first | (with_reducible first | exact HB.out | apply below_alloc | apply pw_below_drewN | apply below_drew1 | refine below_set ?_ GE112.out) | exact HB.out)) hb); have n3_ := Aside0.mk (hbox); have n4_ := Aside0.mk ((by rw [hg]; exact (below_size (by repeat (first | (with_reducible first | exact HB.out | apply below_alloc | apply pw_below_drewN | apply below_drew1 | refine below_set ?_ GE112.out) | exact HB.out))) : w.heap.size ≤ gb118)); have n5_ := Aside0.mk ((by rw [hg]; exact (below_size (by repeat (first | (with_reducible first | exact HB.out | apply below_alloc | apply pw_below_drewN | apply below_drew1 | refine below_set ?_ GE112.out) | exact HB.out))) : w.heap.size ≤ gb118)); have n6_ := Aside0.mk ((by rw [hg]; exact Nat.ne_of_lt (blk_lt (g := gb112) (o := .cells #[.slice (some ad117) l0_0.length c0_0, .slice A0_1 l0_1.length c0_1, .slice A0_2 l0_2.length c0_2] 25 (0, 0)) (by (with_reducible repeat (first | refine blk_drewN ?_ _ | refine blk_drew ?_ | refine blk_alloc ?_ _)); exact BK112.out)) : gb112 ≠ gb118)); have n7_ := Aside0.mk ((by rw [hg]; exact Nat.ne_of_gt (blk_lt (g := gb112) (o := .cells #[.slice (some ad117) l0_0.length c0_0, .slice A0_1 l0_1.length c0_1, .slice A0_2 l0_2.length c0_2] 25 (0, 0)) (by (with_reducible repeat (first | refine blk_drewN ?_ _ | refine blk_drew ?_ | refine blk_alloc ?_ _)); exact BK112.out)) : gb118 ≠ gb112)); clear HO_3; clear BK112; clear HB; have HO_3 := n0_; have BK112 := n1_; have HB := n2_; have BK118 := n3_; have GW118 := n4_; have GE118 := n5_; have NB112_118 := n6_; have NB118_112 := n7_; clear n0_ n1_ n2_ n3_ n4_ n5_ n6_ n7_; clear hb hbox hg; have hnb20 := NB118_112.out; have hnc20 := NB112_118.out; have hcz21_0 : w19.cell? ⟨gb118, 0, none⟩ = some (.int .i64 0) := (blk_cell BK118.out 0).trans rfl; have hcz21_1 : w19.cell? ⟨gb118, 1, none⟩ = some (.int .i64 0) := (blk_cell BK118.out 1).trans rfl; have hcz21_2 : w19.cell? ⟨gb118, 2, none⟩ = some (.int .i64 0) := (blk_cell BK118.out 2).trans rfl; have hfz21_0 := blk_frozen BK118.out 0; have hfz21_1 := blk_frozen BK118.out 1; have hfz21_2 := blk_frozen BK118.out 2; have hcz22_0 : w19.cell? ⟨gb112, 0, none⟩ = some (.slice (some ad117) l0_0.length c0_0) := (blk_cell BK112.out 0).trans rfl; have hcz22_1 : w19.cell? ⟨gb112, 1, none⟩ = some (.slice A0_1 l0_1.length c0_1) := (blk_cell BK112.out 1).trans rfl; have hcz22_2 : w19.cell? ⟨gb112, 2, none⟩ = some (.slice A0_2 l0_2.length c0_2) := (blk_cell BK112.out 2).trans rfl; have hfz22_0 := blk_frozen BK112.out 0; have hfz22_1 := blk_frozen BK112.out 1; have hfz22_2 := blk_frozen BK112.out 2))
                      (try simp only [Act.put, List.setIfInBounds_toArray, List.set_cons_zero, List.set_cons_succ])
                      go_cut [] (fun wc => ∃ (kq : Nat) (x119001_17 : Int), Aside0 (hawalalaw07_Book_Accounts.j2 kq x3_2 x24_2 l0_0 (l0_0.length : Int) x24_2 l0_0 l0_1 l0_2 (wrap64 (Int.tmod (rd l0_0 x24_2) 3)) x119001_17 0 = some r) ∧ Aside0 (kq ≤ k2) ∧ Aside0 (Kd.R k27 27 wc w.heap.size (fun k_ => k_ ≠ gb118) u3 x3_2) ∧ Aside0 (wc.heap[gb112]? = some (.cells #[(.slice (some ad117) l0_0.length c0_0), (.slice A0_1 l0_1.length c0_1), (.slice A0_2 l0_2.length c0_2)] 25 (0, 0))) ∧ Aside0 (wc.heap[gb118]? = some (.cells #[.int .i64 (wrap64 (Int.tmod (rd l0_0 x24_2) 3)), .int .i64 x119001_17, .int .i64 0] 27 (0, 0))) ∧ Aside0 (Below w.heap.size w wc))
                      case first =>
                        have H := HC18.out
                        clear HC18
                        by_cases c23 : x24_2 < (l0_1.length : Int)
                        · rw [if_pos c23] at H
                          have c23b0 : decide (x24_2 < (l0_1.length : Int)) = true := decide_eq_true c23
                          (try (have c23h0_hl3_1 := c23b0; rw [hl3_1] at c23h0_hl3_1))
                          clear c23
                          (first | rw [c23b0] | (simp only [i64_w, i32_w]; rw [c23b0]) | skip)
                          have H' := Aside0.mk H
                          clear H
                          have hnb24 := NB112_118.out
                          have hnc24 := NB118_112.out
                          have hcz25_0 : w19.cell? ⟨gb112, 0, none⟩ = some (.slice (some ad117) l0_0.length c0_0) := (blk_cell BK112.out 0).trans rfl
                          have hcz25_1 : w19.cell? ⟨gb112, 1, none⟩ = some (.slice A0_1 l0_1.length c0_1) := (blk_cell BK112.out 1).trans rfl
                          have hcz25_2 : w19.cell? ⟨gb112, 2, none⟩ = some (.slice A0_2 l0_2.length c0_2) := (blk_cell BK112.out 2).trans rfl
                          have hfz25_0 := blk_frozen BK112.out 0
                          have hfz25_1 := blk_frozen BK112.out 1
                          have hfz25_2 := blk_frozen BK112.out 2
                          have p119 : 0 ≤ (x24_2 : Int) := of_decide_eq_true (by first | (with_reducible assumption) | assumption)
                          have q119 : x24_2 < (l0_1.length : Int) := of_decide_eq_true (by first | (with_reducible assumption) | assumption)
                          obtain ⟨ad119, e119, hx119_0⟩ := Kd.at_int HR0_1.out x24_2 p119 q119
                          cases e119
                          have hn119_0 : ad119.block ≠ gb118 := Nat.ne_of_lt (Nat.lt_of_lt_of_le (by have := World.block_lt_of_cell? _ _ hx119_0; first | rwa [add_block] at this | exact this) GW118.out)
                          have hn119_1 : ad119.block ≠ gb118 := Nat.ne_of_lt (Nat.lt_of_lt_of_le (by have := World.block_lt_of_cell? _ _ hx119_0; first | rwa [add_block] at this | exact this) GW118.out)
                          have hn119_2 : ad119.block ≠ gb118 := Nat.ne_of_lt (Nat.lt_of_lt_of_le (by have := World.block_lt_of_cell? _ _ hx119_0; first | rwa [add_block] at this | exact this) GW118.out)
                          replace hx119_0 := (HB.out.cell (World.block_lt_of_cell? w _ hx119_0)).trans hx119_0
                          replace hx119_0 := (cell_far (p := ⟨gb118, 0, none⟩) (by first | (rw [add_block]; exact hn119_0) | (show (Addr.add _ _).block ≠ _; rw [add_block]; exact hn119_0) | exact hn119_0) (.int .i64 (wrap64 (Int.tmod (rd l0_0 x24_2) 3)))).trans hx119_0
                          replace hx119_0 := (cell_far (p := ⟨gb118, 1, none⟩) (by first | (rw [add_block]; exact hn119_1) | (show (Addr.add _ _).block ≠ _; rw [add_block]; exact hn119_1) | exact hn119_1) (.int .i64 0)).trans hx119_0
                          replace hx119_0 := (cell_far (p := ⟨gb118, 2, none⟩) (by first | (rw [add_block]; exact hn119_2) | (show (Addr.add _ _).block ≠ _; rw [add_block]; exact hn119_2) | exact hn119_2) (.int .i64 0)).trans hx119_0
                          clear hn119_0
                          clear hn119_1
                          clear hn119_2
                          replace p119 := eq_true p119
                          replace q119 := eq_true q119
                          have hcz26_0 : w19.cell? ⟨gb118, 0, none⟩ = some (.int .i64 0) := (blk_cell BK118.out 0).trans rfl
                          have hcz26_1 : w19.cell? ⟨gb118, 1, none⟩ = some (.int .i64 0) := (blk_cell BK118.out 1).trans rfl
                          have hcz26_2 : w19.cell? ⟨gb118, 2, none⟩ = some (.int .i64 0) := (blk_cell BK118.out 2).trans rfl
                          have hfz26_0 := blk_frozen BK118.out 0
                          have hfz26_1 := blk_frozen BK118.out 1
                          have hfz26_2 := blk_frozen BK118.out 2
                          go_wp2
                          go_meet
                          case rel => exact ⟨_, (wrap64 (Int.tmod (rd l0_1 x24_2) 100000)), H', ⟨by have := HK1.out; have := HK2.out; first | omega | exact Nat.le_refl _⟩, ⟨by (try simp only [hl3_1]); (with_reducible repeat (first | apply Kd.R_alloc | apply Kd.R_drewN | apply Kd.R_drew)); exact Kd.R_mono (Kd.R_far (p := ⟨gb118, 1, none⟩) (Kd.R_far (p := ⟨gb118, 2, none⟩) (Kd.R_far (p := ⟨gb118, 1, none⟩) (Kd.R_far (p := ⟨gb118, 0, none⟩) (Kd.R_mono HO_3.out (fun k_ hk => (⟨hk, hk.2⟩ : _ ∧ k_ ≠ gb118))) (fun _ hk => hk.2) (.int .i64 (wrap64 (Int.tmod (rd l0_0 x24_2) 3)))) (fun _ hk => hk.2) (.int .i64 0)) (fun _ hk => hk.2) (.int .i64 0)) (fun _ hk => hk.2) (.int .i64 (wrap64 (Int.tmod (rd l0_1 x24_2) 100000)))) (fun _ hk => hk.1.2)⟩, ⟨by (try simp only [hl3_1]); (with_reducible repeat (first | refine blk_drewN ?_ _ | refine blk_drew ?_ | refine blk_alloc ?_ _)); refine blk_far ?_ NB112_118.out _; (with_reducible repeat (first | refine blk_drewN ?_ _ | refine blk_drew ?_ | refine blk_alloc ?_ _)); refine blk_far ?_ NB112_118.out _; (with_reducible repeat (first | refine blk_drewN ?_ _ | refine blk_drew ?_ | refine blk_alloc ?_ _)); refine blk_far ?_ NB112_118.out _; (with_reducible repeat (first | refine blk_drewN ?_ _ | refine blk_drew ?_ | refine blk_alloc ?_ _)); refine blk_far ?_ NB112_118.out _; (with_reducible repeat (first | refine blk_drewN ?_ _ | refine blk_drew ?_ | refine blk_alloc ?_ _)); exact BK112.out⟩, ⟨by (try simp only [hl3_1]); (with_reducible repeat (first | refine blk_drewN ?_ _ | refine blk_drew ?_ | refine blk_alloc ?_ _)); refine blk_put (cs := #[.int .i64 (wrap64 (Int.tmod (rd l0_0 x24_2) 3)), .int .i64 0, .int .i64 0]) ?_ 1 _ rfl; (with_reducible repeat (first | refine blk_drewN ?_ _ | refine blk_drew ?_ | refine blk_alloc ?_ _)); refine blk_put (cs := #[.int .i64 (wrap64 (Int.tmod (rd l0_0 x24_2) 3)), .int .i64 0, .int .i64 0]) ?_ 2 _ rfl; (with_reducible repeat (first | refine blk_drewN ?_ _ | refine blk_drew ?_ | refine blk_alloc ?_ _)); refine blk_put (cs := #[.int .i64 (wrap64 (Int.tmod (rd l0_0 x24_2) 3)), .int .i64 0, .int .i64 0]) ?_ 1 _ rfl; (with_reducible repeat (first | refine blk_drewN ?_ _ | refine blk_drew ?_ | refine blk_alloc ?_ _)); refine blk_put (cs := #[.int .i64 0, .int .i64 0, .int .i64 0]) ?_ 0 _ rfl; (with_reducible repeat (first | refine blk_drewN ?_ _ | refine blk_drew ?_ | refine blk_alloc ?_ _)); exact BK118.out⟩, ⟨by repeat (first | (with_reducible first | exact HB.out | apply below_alloc | apply pw_below_drewN | apply below_drew1 | refine below_set ?_ GE112.out | refine below_set ?_ GE118.out) | exact HB.out)⟩⟩
                        · rw [if_neg c23] at H
                          have c23b0 : decide (x24_2 < (l0_1.length : Int)) = false := decide_eq_false c23
                          (try (have c23h0_hl3_1 := c23b0; rw [hl3_1] at c23h0_hl3_1))
                          clear c23
                          (first | rw [c23b0] | (simp only [i64_w, i32_w]; rw [c23b0]) | skip)
                          have H' := Aside0.mk H
                          clear H
                          go_wp2
                          go_meet
                          case rel => exact ⟨_, (0), H', ⟨by have := HK1.out; have := HK2.out; first | omega | exact Nat.le_refl _⟩, ⟨by (try simp only [hl3_1]); (with_reducible repeat (first | apply Kd.R_alloc | apply Kd.R_drewN | apply Kd.R_drew)); exact Kd.R_mono (Kd.R_far (p := ⟨gb118, 2, none⟩) (Kd.R_far (p := ⟨gb118, 1, none⟩) (Kd.R_far (p := ⟨gb118, 0, none⟩) (Kd.R_mono HO_3.out (fun k_ hk => (⟨hk, hk.2⟩ : _ ∧ k_ ≠ gb118))) (fun _ hk => hk.2) (.int .i64 (wrap64 (Int.tmod (rd l0_0 x24_2) 3)))) (fun _ hk => hk.2) (.int .i64 0)) (fun _ hk => hk.2) (.int .i64 0)) (fun _ hk => hk.1.2)⟩, ⟨by (try simp only [hl3_1]); (with_reducible repeat (first | refine blk_drewN ?_ _ | refine blk_drew ?_ | refine blk_alloc ?_ _)); refine blk_far ?_ NB112_118.out _; (with_reducible repeat (first | refine blk_drewN ?_ _ | refine blk_drew ?_ | refine blk_alloc ?_ _)); refine blk_far ?_ NB112_118.out _; (with_reducible repeat (first | refine blk_drewN ?_ _ | refine blk_drew ?_ | refine blk_alloc ?_ _)); refine blk_far ?_ NB112_118.out _; (with_reducible repeat (first | refine blk_drewN ?_ _ | refine blk_drew ?_ | refine blk_alloc ?_ _)); exact BK112.out⟩, ⟨by (try simp only [hl3_1]); (with_reducible repeat (first | refine blk_drewN ?_ _ | refine blk_drew ?_ | refine blk_alloc ?_ _)); refine blk_put (cs := #[.int .i64 (wrap64 (Int.tmod (rd l0_0 x24_2) 3)), .int .i64 0, .int .i64 0]) ?_ 2 _ rfl; (with_reducible repeat (first | refine blk_drewN ?_ _ | refine blk_drew ?_ | refine blk_alloc ?_ _)); refine blk_put (cs := #[.int .i64 (wrap64 (Int.tmod (rd l0_0 x24_2) 3)), .int .i64 0, .int .i64 0]) ?_ 1 _ rfl; (with_reducible repeat (first | refine blk_drewN ?_ _ | refine blk_drew ?_ | refine blk_alloc ?_ _)); refine blk_put (cs := #[.int .i64 0, .int .i64 0, .int .i64 0]) ?_ 0 _ rfl; (with_reducible repeat (first | refine blk_drewN ?_ _ | refine blk_drew ?_ | refine blk_alloc ?_ _)); exact BK118.out⟩, ⟨by repeat (first | (with_reducible first | exact HB.out | apply below_alloc | apply pw_below_drewN | apply below_drew1 | refine below_set ?_ GE112.out | refine below_set ?_ GE118.out) | exact HB.out)⟩⟩
                      case rest =>
                        clear HC18
                        try clear c1
                        try clear p1
                        try clear q1
                        try clear hx1
                        try clear hf1
                        try clear c2
                        try clear c2b0
                        try clear c2b1
                        try clear p2
                        try clear p6
                        try clear c7
                        try clear c7b0
                        try clear c8
                        try clear c8b0
                        try clear c9
                        try clear c9b0
                        try clear c10
                        try clear p10
                        try clear q10
                        try clear hx10
                        try clear hf10
                        try clear c11
                        try clear p11
                        try clear q11
                        try clear hx11
                        try clear hf11
                        try clear c14
                        try clear c14b0
                        try clear c15
                        try clear c15b0
                        try clear c16
                        try clear c16b0
                        try clear c17
                        try clear c17b0
                        try clear c17b1
                        try clear c20
                        try clear c23
                        try clear c23b0
                        try clear c24
                        try clear hcz13_0
                        try clear hcz13_1
                        try clear hcz13_2
                        try clear hcz21_0
                        try clear hcz21_1
                        try clear hcz21_2
                        try clear hcz22_0
                        try clear hcz22_1
                        try clear hcz22_2
                        try clear hcz25_0
                        try clear hcz25_1
                        try clear hcz25_2
                        try clear hcz26_0
                        try clear hcz26_1
                        try clear hcz26_2
                        try clear hfz13_0
                        try clear hfz13_1
                        try clear hfz13_2
                        try clear hfz21_0
                        try clear hfz21_1
                        try clear hfz21_2
                        try clear hfz22_0
                        try clear hfz22_1
                        try clear hfz22_2
                        try clear hfz25_0
                        try clear hfz25_1
                        try clear hfz25_2
                        try clear hfz26_0
                        try clear hfz26_1
                        try clear hfz26_2
                        try clear hx10_0
                        try clear hx10_1
                        try clear hx10_2
                        try clear hx117_0
                        try clear hx119_0
                        try clear hx11_0
                        try clear p1
                        try clear p10
                        try clear p117
                        try clear p119
                        try clear p2
                        try clear p6
                        try clear q1
                        try clear q10
                        try clear q117
                        try clear q119
                        obtain ⟨kq, x119001_17, HA, HJ17, HO_3, BK112, BK118, HB⟩ := hcut
                        cases kq with
                        | zero => exact absurd HA.out (by simp [hawalalaw07_Book_Accounts.j2])
                        | succ kj17 =>
                          have H := HA.out
                          clear HA
                          simp only [hawalalaw07_Book_Accounts.j2] at H
                          by_cases c27 : x24_2 < (l0_2.length : Int)
                          · rw [if_pos c27] at H
                            have c27b0 : decide (x24_2 < (l0_2.length : Int)) = true := decide_eq_true c27
                            (try (have c27h0_hl3_1 := c27b0; rw [hl3_1] at c27h0_hl3_1))
                            clear c27
                            by_cases c28 : 0 ≤ x24_2
                            · rw [if_pos c28] at H
                              have c28b0 : decide (0 ≤ x24_2) = true := decide_eq_true c28
                              clear c28
                              obtain ⟨ji29, hji29⟩ : ∃ j_ : Int, (wrap64 (3 * (wrap64 (Int.tmod (rd l0_0 x24_2) 3)))) = j_ := ⟨_, rfl⟩
                              replace H : (if 0 ≤ (ji29) then (if (ji29) < (x3_2.length : Int) then ((some (x3_2.set ((ji29) : Int).toNat (⟨(rd_T27 x3_2 (ji29)).f0, wrap64 (((rd_T27 x3_2 (ji29)).f1) - x119001_17), (rd_T27 x3_2 (ji29)).f2⟩ : S27) : List (S27))).bind fun y122 => (if y122.length < 5864062014805 then (hawalalaw07_Book_Accounts.l1 kj17 (y122 ++ [(⟨(wrap64 (Int.tmod (rd l0_0 x24_2) 3)), x119001_17, wrap64 (Int.tdiv (wrap64 (x119001_17 * (wrap64 (Int.tmod (rd l0_2 x24_2) 101)))) 100)⟩ : S27)]) l0_0 (l0_0.length : Int) (wrap64 (x24_2 + 1)) l0_0 l0_1 l0_2) else (none))) else (none)) else (none)) = some r := by first | (rw [hji29] at H; exact H) | (simp only [hji29] at H ⊢; exact H)
                              have hji29w : (IntKind.i64.wrap (3 * (wrap64 (Int.tmod (rd l0_0 x24_2) 3)))) = ji29 := (i64_w _).trans hji29
                              by_cases c30 : 0 ≤ (ji29)
                              · rw [if_pos c30] at H
                                have c30b0 : decide (0 ≤ (ji29)) = true := decide_eq_true c30
                                clear c30
                                by_cases c31 : (ji29) < (x3_2.length : Int)
                                · rw [if_pos c31] at H
                                  have c31b0 : decide ((ji29) < (x3_2.length : Int)) = true := decide_eq_true c31
                                  (try (have c31h0_hl3_1 := c31b0; rw [hl3_1] at c31h0_hl3_1))
                                  clear c31
                                  obtain ⟨y122, hy122⟩ : ∃ y_ : List (S27), y_ = (x3_2.set ((ji29) : Int).toNat (⟨(rd_T27 x3_2 (ji29)).f0, wrap64 (((rd_T27 x3_2 (ji29)).f1) - x119001_17), (rd_T27 x3_2 (ji29)).f2⟩ : S27)) := ⟨_, rfl⟩
                                  replace H : (if y122.length < 5864062014805 then (hawalalaw07_Book_Accounts.l1 kj17 (y122 ++ [(⟨(wrap64 (Int.tmod (rd l0_0 x24_2) 3)), x119001_17, wrap64 (Int.tdiv (wrap64 (x119001_17 * (wrap64 (Int.tmod (rd l0_2 x24_2) 101)))) 100)⟩ : S27)]) l0_0 (l0_0.length : Int) (wrap64 (x24_2 + 1)) l0_0 l0_1 l0_2) else (none)) = some r := by first | (rw [hy122]; with_reducible exact H) | (have H2_ := (Option.bind_some _ _).symm.trans H; rw [hy122]; with_reducible exact H2_) | (have H2_ := (Option.bind_some _ _).symm.trans H; with_reducible exact H2_) | with_reducible exact H | (rw [hy122]; exact H) | exact H
                                  have Ny122 := Aside0.mk hy122
                                  clear hy122
                                  by_cases c33 : y122.length < 5864062014805
                                  · rw [if_pos c33] at H
                                    have LMc33 := Aside0.mk c33
                                    clear c33
                                    obtain ⟨y123, hy123⟩ : ∃ y_ : List (S27), y_ = (y122 ++ [(⟨(wrap64 (Int.tmod (rd l0_0 x24_2) 3)), x119001_17, wrap64 (Int.tdiv (wrap64 (x119001_17 * (wrap64 (Int.tmod (rd l0_2 x24_2) 101)))) 100)⟩ : S27)]) := ⟨_, rfl⟩
                                    replace H : (hawalalaw07_Book_Accounts.l1 kj17 y123 l0_0 (l0_0.length : Int) (wrap64 (x24_2 + 1)) l0_0 l0_1 l0_2) = some r := by first | (rw [hy123]; with_reducible exact H) | (have H2_ := (Option.bind_some _ _).symm.trans H; rw [hy123]; with_reducible exact H2_) | (have H2_ := (Option.bind_some _ _).symm.trans H; with_reducible exact H2_) | with_reducible exact H | (rw [hy123]; exact H) | exact H
                                    have Ny123 := Aside0.mk hy123
                                    clear hy123
                                    have H' := Aside0.mk H
                                    clear H
                                    have hnb34 := NB112_118.out
                                    have hnc34 := NB118_112.out
                                    have hcz35_0 : wc.cell? ⟨gb112, 0, none⟩ = some (.slice (some ad117) l0_0.length c0_0) := (blk_cell BK112.out 0).trans rfl
                                    have hcz35_1 : wc.cell? ⟨gb112, 1, none⟩ = some (.slice A0_1 l0_1.length c0_1) := (blk_cell BK112.out 1).trans rfl
                                    have hcz35_2 : wc.cell? ⟨gb112, 2, none⟩ = some (.slice A0_2 l0_2.length c0_2) := (blk_cell BK112.out 2).trans rfl
                                    have hfz35_0 := blk_frozen BK112.out 0
                                    have hfz35_1 := blk_frozen BK112.out 1
                                    have hfz35_2 := blk_frozen BK112.out 2
                                    try go_wp2
                                    have n0_ := Aside0.mk (Kd.R_drew HO_3.out)
                                    have n1_ := Aside0.mk (blk_drew BK112.out)
                                    have n2_ := Aside0.mk (blk_drew BK118.out)
                                    have n3_ := Aside0.mk (below_drew1 HB.out)
                                    clear HO_3
                                    clear BK112
                                    clear BK118
                                    clear HB
                                    have HO_3 := n0_
                                    have BK112 := n1_
                                    have BK118 := n2_
                                    have HB := n3_
                                    clear n0_ n1_ n2_ n3_
                                    have p120 : 0 ≤ (x24_2 : Int) := of_decide_eq_true (by first | (with_reducible assumption) | assumption)
                                    have q120 : x24_2 < (l0_2.length : Int) := of_decide_eq_true (by first | (with_reducible assumption) | assumption)
                                    obtain ⟨ad120, e120, hx120_0⟩ := Kd.at_int HR0_2.out x24_2 p120 q120
                                    have hw120_0 := hx120_0
                                    cases e120
                                    replace hx120_0 := (HB.out.cell (World.block_lt_of_cell? w _ hx120_0)).trans hx120_0
                                    replace p120 := eq_true p120
                                    replace q120 := eq_true q120
                                    refine start_ (n := 13) (S := fun w' => w'.cell? ⟨gb118, 0, none⟩ = some (.int .i64 (wrap64 (Int.tmod (rd l0_0 x24_2) 3))) ∧ w'.cell? ⟨gb118, 1, none⟩ = some (.int .i64 x119001_17) ∧ w'.cell? ⟨gb118, 2, none⟩ = some (.int .i64 0) ∧ w'.cell? ⟨gb112, 0, none⟩ = some (.slice (some ad117) l0_0.length c0_0) ∧ w'.cell? ⟨gb112, 1, none⟩ = some (.slice A0_1 l0_1.length c0_1) ∧ w'.cell? ⟨gb112, 2, none⟩ = some (.slice (some ad120) l0_2.length c0_2) ∧ w'.cell? (ad120.add (x24_2).toNat) = some (.int .u8 (rd l0_2 x24_2))) (ds := [12]) #[false, false, false, false, false, false, false, false, false, false, false, false, false] (by kernel_rfl) rfl rfl ⟨(blk_cell BK118.out 0).trans rfl, (blk_cell BK118.out 1).trans rfl, (blk_cell BK118.out 2).trans rfl, (blk_cell BK112.out 0).trans rfl, (blk_cell BK112.out 1).trans rfl, (blk_cell BK112.out 2).trans rfl, ((HB.out.cell (World.block_lt_of_cell? w _ hw120_0)).trans hw120_0)⟩ (fun hHeld => ?_); refine with_tabW hawalalaw07_Book_Accounts.tab15 hawalalaw07_Book_Accounts.bits15 (fun HT_ HW_ => ?_)
                                    generalize wc.drew = w36 at HO_3 BK112 BK118 HB hx120_0 hHeld ⊢
                                    refine pure_ (i := 0) (N := some 53) (v := ?_) (a' := ?_) #[true, false, false, false, false, false, false, false, false, false, false, false, false] rfl rfl (any_of HT_.out (by kernel_rfl)) (fun _ _ _ h => h) (Or.inl ⟨by rfl, ?_⟩) ?_ ?_
                                    rotate_left
                                    · intro w'
                                      go_simp
                                      with_reducible rfl
                                    rotate_left
                                    · simp only [Act.put, List.setIfInBounds_toArray, List.set_cons_zero, List.set_cons_succ, i64_w, i32_w]
                                      rfl
                                    refine pure_ (i := 2) (N := some 55) (v := ?_) (a' := ?_) #[true, false, true, false, false, false, false, false, false, false, false, false, false] rfl rfl (any_of HT_.out (by kernel_rfl)) (fun _ _ _ h => h) (Or.inl ⟨by rfl, ?_⟩) ?_ ?_
                                    rotate_left
                                    · intro w'
                                      go_simp
                                      with_reducible rfl
                                    rotate_left
                                    · simp only [Act.put, List.setIfInBounds_toArray, List.set_cons_zero, List.set_cons_succ, i64_w, i32_w]
                                      rfl
                                    refine pure_ (i := 4) (N := some 57) (v := ?_) (a' := ?_) #[true, false, true, false, true, false, false, false, false, false, false, false, false] rfl rfl (any_of HT_.out (by kernel_rfl)) (fun _ _ _ h => h) (Or.inl ⟨by rfl, ?_⟩) ?_ ?_
                                    rotate_left
                                    · intro w'
                                      go_simp
                                      with_reducible rfl
                                    rotate_left
                                    · simp only [Act.put, List.setIfInBounds_toArray, List.set_cons_zero, List.set_cons_succ, i64_w, i32_w]
                                      rfl
                                    refine take_ (i := 1) (N := some 54) (v := ?_) (a' := ?_) #[true, true, true, false, true, false, false, false, false, false, false, false, false] rfl rfl (take_ofW HT_.out HW_.out (by kernel_rfl)) (fun _ _ _ h => h) (Or.inl ⟨by rfl, ?_⟩) hHeld ?_ ?_
                                    rotate_left
                                    · rintro w' ⟨s0, s1, s2, s3, s4, s5, s6⟩
                                      go_simp
                                      with_reducible rfl
                                    rotate_left
                                    · simp only [Act.put, List.setIfInBounds_toArray, List.set_cons_zero, List.set_cons_succ, i64_w, i32_w]
                                      rfl
                                    refine take_ (i := 3) (N := some 56) (v := ?_) (a' := ?_) #[true, true, true, true, true, false, false, false, false, false, false, false, false] rfl rfl (take_ofW HT_.out HW_.out (by kernel_rfl)) (fun _ _ _ h => h) (Or.inl ⟨by rfl, ?_⟩) hHeld ?_ ?_
                                    rotate_left
                                    · rintro w' ⟨s0, s1, s2, s3, s4, s5, s6⟩
                                      go_simp
                                      with_reducible rfl
                                    rotate_left
                                    · simp only [Act.put, List.setIfInBounds_toArray, List.set_cons_zero, List.set_cons_succ, i64_w, i32_w]
                                      rfl
                                    refine pure_ (i := 5) (N := some 58) (v := ?_) (a' := ?_) #[true, true, true, true, true, true, false, false, false, false, false, false, false] rfl rfl (any_of HT_.out (by kernel_rfl)) (fun _ _ _ h => h) (Or.inl ⟨by rfl, ?_⟩) ?_ ?_
                                    rotate_left
                                    · intro w'
                                      go_simp
                                      with_reducible rfl
                                    rotate_left
                                    · simp only [Act.put, List.setIfInBounds_toArray, List.set_cons_zero, List.set_cons_succ, i64_w, i32_w]
                                      rfl
                                    refine take_ (i := 6) (N := some 59) (v := ?_) (a' := ?_) #[true, true, true, true, true, true, true, false, false, false, false, false, false] rfl rfl (take_ofW HT_.out HW_.out (by kernel_rfl)) (fun _ _ _ h => h) (Or.inl ⟨by rfl, ?_⟩) hHeld ?_ ?_
                                    rotate_left
                                    · rintro w' ⟨s0, s1, s2, s3, s4, s5, s6⟩
                                      go_simp
                                      with_reducible rfl
                                    rotate_left
                                    · simp only [Act.put, List.setIfInBounds_toArray, List.set_cons_zero, List.set_cons_succ, i64_w, i32_w]
                                      rfl
                                    refine pure_ (i := 7) (N := some 60) (v := ?_) (a' := ?_) #[true, true, true, true, true, true, true, true, false, false, false, false, false] rfl rfl (any_of HT_.out (by kernel_rfl)) (fun _ _ _ h => h) (Or.inl ⟨by rfl, ?_⟩) ?_ ?_
                                    rotate_left
                                    · intro w'
                                      go_simp
                                      with_reducible rfl
                                    rotate_left
                                    · simp only [Act.put, List.setIfInBounds_toArray, List.set_cons_zero, List.set_cons_succ, i64_w, i32_w]
                                      rfl
                                    refine pure_ (i := 8) (N := some 61) (v := ?_) (a' := ?_) #[true, true, true, true, true, true, true, true, true, false, false, false, false] rfl rfl (any_of HT_.out (by kernel_rfl)) (fun _ _ _ h => h) (Or.inl ⟨by rfl, ?_⟩) ?_ ?_
                                    rotate_left
                                    · intro w'
                                      go_simp
                                      with_reducible rfl
                                    rotate_left
                                    · simp only [Act.put, List.setIfInBounds_toArray, List.set_cons_zero, List.set_cons_succ, i64_w, i32_w]
                                      rfl
                                    refine pure_ (i := 9) (N := some 62) (v := ?_) (a' := ?_) #[true, true, true, true, true, true, true, true, true, true, false, false, false] rfl rfl (any_of HT_.out (by kernel_rfl)) (fun _ _ _ h => h) (Or.inl ⟨by rfl, ?_⟩) ?_ ?_
                                    rotate_left
                                    · intro w'
                                      go_simp
                                      with_reducible rfl
                                    rotate_left
                                    · simp only [Act.put, List.setIfInBounds_toArray, List.set_cons_zero, List.set_cons_succ, i64_w, i32_w]
                                      rfl
                                    refine pure_ (i := 10) (N := some 63) (v := ?_) (a' := ?_) #[true, true, true, true, true, true, true, true, true, true, true, false, false] rfl rfl (any_of HT_.out (by kernel_rfl)) (fun _ _ _ h => h) (Or.inl ⟨by rfl, ?_⟩) ?_ ?_
                                    rotate_left
                                    · intro w'
                                      go_simp
                                      with_reducible rfl
                                    rotate_left
                                    · simp only [Act.put, List.setIfInBounds_toArray, List.set_cons_zero, List.set_cons_succ, i64_w, i32_w]
                                      rfl
                                    refine pure_ (i := 11) (N := some 64) (v := ?_) (a' := ?_) #[true, true, true, true, true, true, true, true, true, true, true, true, false] rfl rfl (any_of HT_.out (by kernel_rfl)) (fun _ _ _ h => h) (Or.inl ⟨by rfl, ?_⟩) ?_ ?_
                                    rotate_left
                                    · intro w'
                                      go_simp
                                      with_reducible rfl
                                    rotate_left
                                    · simp only [Act.put, List.setIfInBounds_toArray, List.set_cons_zero, List.set_cons_succ, i64_w, i32_w]
                                      rfl
                                    refine last_ (i := 12) (N := none) #[true, true, true, true, true, true, true, true, true, true, true, true, true] rfl rfl (one_of HT_.out (by kernel_rfl)) (by decide) (fun K hK => ?_)
                                    have hs37 : w36.cell? ⟨gb118, 2, none⟩ = some (.int .i64 0) := (blk_cell BK118.out 2).trans rfl
                                    have hfs37 := blk_frozen BK118.out 2
                                    have hns37_0 := NB112_118.out
                                    have hms37_0 := NB118_112.out
                                    refine skip_ (w1 := ?_) (by rfl) rfl ?_ ?_
                                    rotate_left
                                    · go_simp
                                      rfl
                                    refine hK.out _ _ ?_
                                    clear hK K
                                    refine done_ (done_of HT_.out (by kernel_rfl)) ?_
                                    try go_wp2
                                    have n0_ : Aside0 (Kd.R k27 27 (w36.setCell ⟨gb118, 2, none⟩ (.int .i64 (wrap64 (Int.tdiv (wrap64 (x119001_17 * (wrap64 (Int.tmod (rd l0_2 x24_2) 101)))) 100)))) w.heap.size (fun k_ => k_ ≠ gb118) u3 x3_2) := ⟨by (with_reducible repeat (first | apply Kd.R_alloc | apply Kd.R_drewN | apply Kd.R_drew)); exact Kd.R_mono (Kd.R_far (p := ⟨gb118, 2, none⟩) (Kd.R_mono HO_3.out (fun k_ hk => (⟨hk, hk⟩ : _ ∧ k_ ≠ gb118))) (fun _ hk => hk.2) (.int .i64 (wrap64 (Int.tdiv (wrap64 (x119001_17 * (wrap64 (Int.tmod (rd l0_2 x24_2) 101)))) 100)))) (fun _ hk => hk.1)⟩
                                    have n1_ : Aside0 ((w36.setCell ⟨gb118, 2, none⟩ (.int .i64 (wrap64 (Int.tdiv (wrap64 (x119001_17 * (wrap64 (Int.tmod (rd l0_2 x24_2) 101)))) 100)))).heap[gb112]? = some (.cells #[.slice (some ad117) l0_0.length c0_0, .slice A0_1 l0_1.length c0_1, .slice (some ad120) l0_2.length c0_2] 25 (0, 0))) := ⟨by (with_reducible repeat (first | refine blk_drewN ?_ _ | refine blk_drew ?_ | refine blk_alloc ?_ _)); refine blk_far ?_ NB112_118.out _; (with_reducible repeat (first | refine blk_drewN ?_ _ | refine blk_drew ?_ | refine blk_alloc ?_ _)); exact BK112.out⟩
                                    have n2_ : Aside0 ((w36.setCell ⟨gb118, 2, none⟩ (.int .i64 (wrap64 (Int.tdiv (wrap64 (x119001_17 * (wrap64 (Int.tmod (rd l0_2 x24_2) 101)))) 100)))).heap[gb118]? = some (.cells #[.int .i64 (wrap64 (Int.tmod (rd l0_0 x24_2) 3)), .int .i64 x119001_17, .int .i64 (wrap64 (Int.tdiv (wrap64 (x119001_17 * (wrap64 (Int.tmod (rd l0_2 x24_2) 101)))) 100))] 27 (0, 0))) := ⟨by (with_reducible repeat (first | refine blk_drewN ?_ _ | refine blk_drew ?_ | refine blk_alloc ?_ _)); refine blk_put (cs := #[.int .i64 (wrap64 (Int.tmod (rd l0_0 x24_2) 3)), .int .i64 x119001_17, .int .i64 0]) ?_ 2 _ rfl; (with_reducible repeat (first | refine blk_drewN ?_ _ | refine blk_drew ?_ | refine blk_alloc ?_ _)); exact BK118.out⟩
                                    have n3_ : Aside0 (Below w.heap.size w (w36.setCell ⟨gb118, 2, none⟩ (.int .i64 (wrap64 (Int.tdiv (wrap64 (x119001_17 * (wrap64 (Int.tmod (rd l0_2 x24_2) 101)))) 100))))) := ⟨by repeat (first | (with_reducible first | exact HB.out | apply below_alloc | apply pw_below_drewN | apply below_drew1 | refine below_set ?_ GE112.out | refine below_set ?_ GE118.out) | exact HB.out)⟩
                                    (try clear HO_3)
                                    (try clear BK112)
                                    (try clear BK118)
                                    (try clear HB)
                                    generalize (w36.setCell ⟨gb118, 2, none⟩ (.int .i64 (wrap64 (Int.tdiv (wrap64 (x119001_17 * (wrap64 (Int.tmod (rd l0_2 x24_2) 101)))) 100)))) = w38 at n0_ n1_ n2_ n3_ ⊢
                                    have HO_3 := n0_
                                    have BK112 := n1_
                                    have BK118 := n2_
                                    have HB := n3_
                                    clear n0_ n1_ n2_ n3_
                                    have n0_ := Aside0.mk (Kd.R_drew HO_3.out)
                                    have n1_ := Aside0.mk (blk_drew BK112.out)
                                    have n2_ := Aside0.mk (blk_drew BK118.out)
                                    have n3_ := Aside0.mk (below_drew1 HB.out)
                                    clear HO_3
                                    clear BK112
                                    clear BK118
                                    clear HB
                                    have HO_3 := n0_
                                    have BK112 := n1_
                                    have BK118 := n2_
                                    have HB := n3_
                                    clear n0_ n1_ n2_ n3_
                                    obtain ⟨Ao40, co40, eo40⟩ := Kd.R_slice HO_3.out
                                    (first | subst eo40 | (injection eo40 with f1_ f2_ f3_; have f4_ := f1_.symm; have f5_ := f3_.symm; clear f1_ f2_ f3_; subst f4_; subst f5_))
                                    have p121 : 0 ≤ ((ji29) : Int) := of_decide_eq_true (by first | (with_reducible assumption) | assumption)
                                    have q121 : (ji29) < (x3_2.length : Int) := of_decide_eq_true (by first | (with_reducible assumption) | assumption)
                                    obtain ⟨ad121, e121, hx121_0, hx121_1, hx121_2⟩ := at_T27 (Kd.R_reads' HO_3.out).2.2 (ji29) p121 q121
                                    cases e121
                                    replace p121 := eq_true p121
                                    replace q121 := eq_true q121
                                    have p32 : 0 ≤ ((ji29) : Int) := of_decide_eq_true (by first | (with_reducible assumption) | assumption)
                                    have q32 : ((ji29) : Int) < ((x3_2.length : Int) : Int) := of_decide_eq_true (by first | (with_reducible assumption) | assumption)
                                    obtain ⟨go32, co32, eo32, gb32, gl32, cl32, HG32⟩ := Kd.R_form HO_3.out (by omega)
                                    (first | cases eo32 | (injection eo32 with ea_ en_ ec_; (first | subst ea_ | (injection ea_ with ea_; subst ea_)); subst ec_; clear en_))
                                    have GB32 := Aside0.mk gb32
                                    have GG32 := Aside0.mk HG32
                                    clear gb32 gl32 HG32
                                    (first | simp only [add_plain] at hx121_0 | skip)
                                    (first | simp only [add_plain] at hx121_1 | skip)
                                    (first | simp only [add_plain] at hx121_2 | skip)
                                    obtain ⟨ce32, hcl32, hM32, hcc32, hfr32⟩ := Kd.R_elem HO_3.out z27 ((ji29) : Int) p32 q32
                                    obtain rfl := k27_openM hM32
                                    have hx32_0 : World.cell? _ ⟨go32, ((ji29) : Int).toNat * 3, none⟩ = some (.int .i64 ((rd_T27 x3_2 (ji29)).f0)) := hcc32 0 _ rfl
                                    have hx32_1 : World.cell? _ ⟨go32, ((ji29) : Int).toNat * 3 + 1, none⟩ = some (.int .i64 ((rd_T27 x3_2 (ji29)).f1)) := hcc32 1 _ rfl
                                    have hx32_2 : World.cell? _ ⟨go32, ((ji29) : Int).toNat * 3 + 2, none⟩ = some (.int .i64 ((rd_T27 x3_2 (ji29)).f2)) := hcc32 2 _ rfl
                                    have hf32_0 : World.frozen? _ ⟨go32, ((ji29) : Int).toNat * 3, none⟩ = false := hfr32 0
                                    have hf32_1 : World.frozen? _ ⟨go32, ((ji29) : Int).toNat * 3 + 1, none⟩ = false := hfr32 1
                                    have hf32_2 : World.frozen? _ ⟨go32, ((ji29) : Int).toNat * 3 + 2, none⟩ = false := hfr32 2
                                    clear hcl32 hcc32 hfr32 hM32
                                    replace p32 := eq_true p32
                                    replace q32 := eq_true q32
                                    obtain ⟨ce41, hcl41, hM41, hcc41, hfr41⟩ := Kd.R_elem HO_3.out z27 ((ji29) : Int) (of_decide_eq_true (by first | (with_reducible assumption) | assumption)) (by have h_ : ((ji29) : Int) < ((x3_2.length : Int) : Int) := of_decide_eq_true (by first | (with_reducible assumption) | assumption); first | exact h_ | (have e_ := (Kd.R_reads' HO_3.out).1; omega) | simpa using h_)
                                    obtain rfl := k27_openM hM41
                                    have HP41 := (Kd.R_seg HO_3.out ((ji29) : Int) (of_decide_eq_true (by first | (with_reducible assumption) | assumption)) (by have h_ : ((ji29) : Int) < ((x3_2.length : Int) : Int) := of_decide_eq_true (by first | (with_reducible assumption) | assumption); first | exact h_ | (have e_ := (Kd.R_reads' HO_3.out).1; omega) | simpa using h_) (seg := [.int .i64 (wrap64 (((rd_T27 x3_2 (ji29)).f1) - x119001_17))]) (j := 1) hcl41 hcc41 (show 2 ≤ 3 from by decide) (x' := (⟨(rd_T27 x3_2 (ji29)).f0, wrap64 (((rd_T27 x3_2 (ji29)).f1) - x119001_17), (rd_T27 x3_2 (ji29)).f2⟩ : S27)) (k27_mkM _ _ _ (⟨(rd_T27 x3_2 (ji29)).f0, wrap64 (((rd_T27 x3_2 (ji29)).f1) - x119001_17), (rd_T27 x3_2 (ji29)).f2⟩ : S27) ) (fun _ hk => hk)).1
                                    rw [← Ny122.out] at HP41
                                    have HQ41 := Aside0.mk HP41
                                    clear hcl41 hcc41 hfr41 hM41 HP41
                                    refine start_ (n := 13) (S := fun w' => w'.cell? ⟨gb118, 0, none⟩ = some (.int .i64 (wrap64 (Int.tmod (rd l0_0 x24_2) 3))) ∧ w'.cell? ⟨gb118, 1, none⟩ = some (.int .i64 x119001_17) ∧ w'.cell? ⟨gb118, 2, none⟩ = some (.int .i64 (wrap64 (Int.tdiv (wrap64 (x119001_17 * (wrap64 (Int.tmod (rd l0_2 x24_2) 101)))) 100))) ∧ w'.cell? ⟨go32, (((ji29)).toNat * 3), none⟩ = some (.int .i64 ((rd_T27 x3_2 (ji29)).f0)) ∧ w'.cell? ⟨go32, (((ji29)).toNat * 3) + 1, none⟩ = some (.int .i64 ((rd_T27 x3_2 (ji29)).f1)) ∧ w'.cell? ⟨go32, (((ji29)).toNat * 3) + 2, none⟩ = some (.int .i64 ((rd_T27 x3_2 (ji29)).f2))) (ds := [12]) #[false, false, false, false, false, false, false, false, false, false, false, false, false] (by kernel_rfl) rfl rfl ⟨(blk_cell BK118.out 0).trans rfl, (blk_cell BK118.out 1).trans rfl, (blk_cell BK118.out 2).trans rfl, hx121_0, hx121_1, hx121_2⟩ (fun hHeld => ?_); refine with_tabW hawalalaw07_Book_Accounts.tab16 hawalalaw07_Book_Accounts.bits16 (fun HT_ HW_ => ?_)
                                    generalize w38.drew = w39 at HO_3 BK112 BK118 HB GG32 HQ41 hf32_0 hf32_1 hf32_2 hx121_0 hx121_1 hx121_2 hx32_0 hx32_1 hx32_2 hHeld ⊢
                                    refine pure_ (i := 0) (N := some 65) (v := ?_) (a' := ?_) #[true, false, false, false, false, false, false, false, false, false, false, false, false] rfl rfl (any_of HT_.out (by kernel_rfl)) (fun _ _ _ h => h) (Or.inl ⟨by rfl, ?_⟩) ?_ ?_
                                    rotate_left
                                    · intro w'
                                      go_simp
                                      with_reducible rfl
                                    rotate_left
                                    · simp only [Act.put, List.setIfInBounds_toArray, List.set_cons_zero, List.set_cons_succ, i64_w, i32_w]
                                      rfl
                                    refine pure_ (i := 1) (N := some 66) (v := ?_) (a' := ?_) #[true, true, false, false, false, false, false, false, false, false, false, false, false] rfl rfl (any_of HT_.out (by kernel_rfl)) (fun _ _ _ h => h) (Or.inl ⟨by rfl, ?_⟩) ?_ ?_
                                    rotate_left
                                    · intro w'
                                      go_simp
                                      with_reducible rfl
                                    rotate_left
                                    · simp only [Act.put, List.setIfInBounds_toArray, List.set_cons_zero, List.set_cons_succ, i64_w, i32_w]
                                      rfl
                                    refine pure_ (i := 7) (N := some 72) (v := ?_) (a' := ?_) #[true, true, false, false, false, false, false, true, false, false, false, false, false] rfl rfl (any_of HT_.out (by kernel_rfl)) (fun _ _ _ h => h) (Or.inl ⟨by rfl, ?_⟩) ?_ ?_
                                    rotate_left
                                    · intro w'
                                      go_simp
                                      with_reducible rfl
                                    rotate_left
                                    · simp only [Act.put, List.setIfInBounds_toArray, List.set_cons_zero, List.set_cons_succ, i64_w, i32_w]
                                      rfl
                                    refine take_ (i := 2) (N := some 67) (v := ?_) (a' := ?_) #[true, true, true, false, false, false, false, true, false, false, false, false, false] rfl rfl (take_ofW HT_.out HW_.out (by kernel_rfl)) (fun _ _ _ h => h) (Or.inl ⟨by rfl, ?_⟩) hHeld ?_ ?_
                                    rotate_left
                                    · rintro w' ⟨s0, s1, s2, s3, s4, s5⟩
                                      go_simp
                                      with_reducible rfl
                                    rotate_left
                                    · simp only [Act.put, List.setIfInBounds_toArray, List.set_cons_zero, List.set_cons_succ, i64_w, i32_w]
                                      rfl
                                    refine pure_ (i := 3) (N := some 68) (v := ?_) (a' := ?_) #[true, true, true, true, false, false, false, true, false, false, false, false, false] rfl rfl (any_of HT_.out (by kernel_rfl)) (fun _ _ _ h => h) (Or.inl ⟨by rfl, ?_⟩) ?_ ?_
                                    rotate_left
                                    · intro w'
                                      go_simp
                                      with_reducible rfl
                                    rotate_left
                                    · simp only [Act.put, List.setIfInBounds_toArray, List.set_cons_zero, List.set_cons_succ, i64_w, i32_w]
                                      rfl
                                    refine pure_ (i := 4) (N := some 69) (v := ?_) (a' := ?_) #[true, true, true, true, true, false, false, true, false, false, false, false, false] rfl rfl (any_of HT_.out (by kernel_rfl)) (fun _ _ _ h => h) (Or.inl ⟨by rfl, ?_⟩) ?_ ?_
                                    rotate_left
                                    · intro w'
                                      go_simp
                                      with_reducible rfl
                                    rotate_left
                                    · simp only [Act.put, List.setIfInBounds_toArray, List.set_cons_zero, List.set_cons_succ, i64_w, i32_w]
                                      rfl
                                    refine pure_ (i := 5) (N := some 70) (v := ?_) (a' := ?_) #[true, true, true, true, true, true, false, true, false, false, false, false, false] rfl rfl (any_of HT_.out (by kernel_rfl)) (fun _ _ _ h => h) (Or.inl ⟨by rfl, ?_⟩) ?_ ?_
                                    rotate_left
                                    · intro w'
                                      go_simp
                                      with_reducible rfl
                                    rotate_left
                                    · simp only [Act.put, List.setIfInBounds_toArray, List.set_cons_zero, List.set_cons_succ, i64_w, i32_w]
                                      rfl
                                    refine take_ (i := 6) (N := some 71) (v := ?_) (a' := ?_) #[true, true, true, true, true, true, true, true, false, false, false, false, false] rfl rfl (take_ofW HT_.out HW_.out (by kernel_rfl)) (fun _ _ _ h => h) (Or.inl ⟨by rfl, ?_⟩) hHeld ?_ ?_
                                    rotate_left
                                    · rintro w' ⟨s0, s1, s2, s3, s4, s5⟩
                                      go_simp
                                      with_reducible rfl
                                    rotate_left
                                    · simp only [Act.put, List.setIfInBounds_toArray, List.set_cons_zero, List.set_cons_succ, i64_w, i32_w]
                                      rfl
                                    refine take_ (i := 8) (N := some 73) (v := ?_) (a' := ?_) #[true, true, true, true, true, true, true, true, true, false, false, false, false] rfl rfl (take_ofW HT_.out HW_.out (by kernel_rfl)) (fun _ _ _ h => h) (Or.inl ⟨by rfl, ?_⟩) hHeld ?_ ?_
                                    rotate_left
                                    · rintro w' ⟨s0, s1, s2, s3, s4, s5⟩
                                      go_simp
                                      with_reducible rfl
                                    rotate_left
                                    · simp only [Act.put, List.setIfInBounds_toArray, List.set_cons_zero, List.set_cons_succ, i64_w, i32_w]
                                      rfl
                                    refine pure_ (i := 9) (N := some 74) (v := ?_) (a' := ?_) #[true, true, true, true, true, true, true, true, true, true, false, false, false] rfl rfl (any_of HT_.out (by kernel_rfl)) (fun _ _ _ h => h) (Or.inl ⟨by rfl, ?_⟩) ?_ ?_
                                    rotate_left
                                    · intro w'
                                      go_simp
                                      with_reducible rfl
                                    rotate_left
                                    · simp only [Act.put, List.setIfInBounds_toArray, List.set_cons_zero, List.set_cons_succ, i64_w, i32_w]
                                      rfl
                                    refine pure_ (i := 10) (N := some 75) (v := ?_) (a' := ?_) #[true, true, true, true, true, true, true, true, true, true, true, false, false] rfl rfl (any_of HT_.out (by kernel_rfl)) (fun _ _ _ h => h) (Or.inl ⟨by rfl, ?_⟩) ?_ ?_
                                    rotate_left
                                    · intro w'
                                      go_simp
                                      with_reducible rfl
                                    rotate_left
                                    · simp only [Act.put, List.setIfInBounds_toArray, List.set_cons_zero, List.set_cons_succ, i64_w, i32_w]
                                      rfl
                                    refine pure_ (i := 11) (N := some 76) (v := ?_) (a' := ?_) #[true, true, true, true, true, true, true, true, true, true, true, true, false] rfl rfl (any_of HT_.out (by kernel_rfl)) (fun _ _ _ h => h) (Or.inl ⟨by rfl, ?_⟩) ?_ ?_
                                    rotate_left
                                    · intro w'
                                      go_simp
                                      with_reducible rfl
                                    rotate_left
                                    · simp only [Act.put, List.setIfInBounds_toArray, List.set_cons_zero, List.set_cons_succ, i64_w, i32_w]
                                      rfl
                                    refine last_ (i := 12) (N := none) #[true, true, true, true, true, true, true, true, true, true, true, true, true] rfl rfl (one_of HT_.out (by kernel_rfl)) (by decide) (fun K hK => ?_)
                                    refine skip_ (w1 := ?_) (by rfl) rfl ?_ ?_
                                    rotate_left
                                    · go_simp
                                      rfl
                                    refine hK.out _ _ ?_
                                    clear hK K
                                    refine done_ (done_of HT_.out (by kernel_rfl)) ?_
                                    have hcz42_0 : w39.cell? ⟨gb118, 0, none⟩ = some (.int .i64 (wrap64 (Int.tmod (rd l0_0 x24_2) 3))) := (blk_cell BK118.out 0).trans rfl
                                    have hcz42_1 : w39.cell? ⟨gb118, 1, none⟩ = some (.int .i64 x119001_17) := (blk_cell BK118.out 1).trans rfl
                                    have hcz42_2 : w39.cell? ⟨gb118, 2, none⟩ = some (.int .i64 (wrap64 (Int.tdiv (wrap64 (x119001_17 * (wrap64 (Int.tmod (rd l0_2 x24_2) 101)))) 100))) := (blk_cell BK118.out 2).trans rfl
                                    have hfz42_0 := blk_frozen BK118.out 0
                                    have hfz42_1 := blk_frozen BK118.out 1
                                    have hfz42_2 := blk_frozen BK118.out 2
                                    (try (have hnrz42_0 : (go32 : Nat) ≠ gb118 := by first | exact (by have h_ := Kd.R_away HO_3.out (fun _ hk => hk); intro e_; exact h_ (by rw [e_]; rfl)) | exact fun h_ => ((by have h_ := Kd.R_away HO_3.out (fun _ hk => hk); intro e_; exact h_ (by rw [e_]; rfl))) h_.symm))
                                    (try (have hnsz42_0 := hnrz42_0.symm))
                                    try go_wp2_with (first | ((with_reducible refine gate_builtin (b := .append) (xs := #[.tmp 77, .tmp 79]) rfl ?_); at_builtin; refine Kd.R_append k27 (w0 := w) w.heap.size rfl (.tmp 77) (.tmp 79) 28 27 (.agg #[(.int .i64 0), (.int .i64 0), (.int .i64 0)]) 24 rfl Try.underlying28 info27 rfl (by decide) (by omega) (.slice (some ⟨go32, 0, none⟩) x3_2.length co40) y122 (⟨(wrap64 (Int.tmod (rd l0_0 x24_2) 3)), x119001_17, wrap64 (Int.tdiv (wrap64 (x119001_17 * (wrap64 (Int.tmod (rd l0_2 x24_2) 101)))) 100)⟩ : S27) [.int .i64 (wrap64 (Int.tmod (rd l0_0 x24_2) 3)), .int .i64 x119001_17, .int .i64 (wrap64 (Int.tdiv (wrap64 (x119001_17 * (wrap64 (Int.tmod (rd l0_2 x24_2) 101)))) 100))] (fun k_ => k_ ≠ gb118) (fun _ => False) rfl (by first | (go_simp; done) | (go_simp; rfl)) ?aP (fun _ hk => hk.elim) ?aF ?aO ?aB ?aS ?aL ?_; (case aP => exact k27_mkM _ _ _ (⟨(wrap64 (Int.tmod (rd l0_0 x24_2) 3)), x119001_17, wrap64 (Int.tdiv (wrap64 (x119001_17 * (wrap64 (Int.tmod (rd l0_2 x24_2) 101)))) 100)⟩ : S27)); (case aB => exact (by repeat (first | (with_reducible first | exact HB.out | apply below_alloc | apply pw_below_drewN | apply below_drew1 | refine below_set ?_ GB32.out | refine below_set ?_ GE112.out | refine below_set ?_ GE118.out) | exact HB.out))); (case aF => exact (fun k_ hk => Kd.freshB (g := gb118) (o := .cells #[.int .i64 (wrap64 (Int.tmod (rd l0_0 x24_2) 3)), .int .i64 x119001_17, .int .i64 (wrap64 (Int.tdiv (wrap64 (x119001_17 * (wrap64 (Int.tmod (rd l0_2 x24_2) 101)))) 100))] 27 (0, 0)) (by (with_reducible repeat (first | refine blk_drewN ?_ _ | refine blk_drew ?_ | refine blk_alloc ?_ _)); refine blk_far ?_ (by have h_ := Kd.R_away HO_3.out (fun _ hk => hk); intro e_; exact h_ (by rw [e_]; rfl)) _; (with_reducible repeat (first | refine blk_drewN ?_ _ | refine blk_drew ?_ | refine blk_alloc ?_ _)); exact BK118.out) k_ hk)); (case aO => exact (by (with_reducible repeat (first | apply Kd.R_alloc | apply Kd.R_drewN | apply Kd.R_drew)); exact HQ41.out)); (case aS => exact (below_size (by repeat (first | (with_reducible first | exact HB.out | apply below_alloc | apply pw_below_drewN | apply below_drew1 | refine below_set ?_ GB32.out | refine below_set ?_ GE112.out | refine below_set ?_ GE118.out) | exact HB.out)))); (case aL => have := LMc33.out; omega); intro v124 w43 ho hb hg hat; rw [← Ny123.out] at ho; have n0_ := Aside0.mk (blk_grown (g := gb112) (o := .cells #[.slice (some ad117) l0_0.length c0_0, .slice A0_1 l0_1.length c0_1, .slice (some ad120) l0_2.length c0_2] 25 (0, 0)) (by (with_reducible repeat (first | refine blk_drewN ?_ _ | refine blk_drew ?_ | refine blk_alloc ?_ _)); refine blk_far ?_ (by have h_ := Kd.R_ne HO_3.out BK112.out (by decide); intro e_; exact h_ (by rw [e_]; rfl)) _; (with_reducible repeat (first | refine blk_drewN ?_ _ | refine blk_drew ?_ | refine blk_alloc ?_ _)); exact BK112.out) hg (Kd.R_ne HO_3.out BK112.out (by decide))); have n1_ := Aside0.mk (blk_grown (g := gb118) (o := .cells #[.int .i64 (wrap64 (Int.tmod (rd l0_0 x24_2) 3)), .int .i64 x119001_17, .int .i64 (wrap64 (Int.tdiv (wrap64 (x119001_17 * (wrap64 (Int.tmod (rd l0_2 x24_2) 101)))) 100))] 27 (0, 0)) (by (with_reducible repeat (first | refine blk_drewN ?_ _ | refine blk_drew ?_ | refine blk_alloc ?_ _)); refine blk_far ?_ (by have h_ := Kd.R_away HO_3.out (fun _ hk => hk); intro e_; exact h_ (by rw [e_]; rfl)) _; (with_reducible repeat (first | refine blk_drewN ?_ _ | refine blk_drew ?_ | refine blk_alloc ?_ _)); exact BK118.out) hg (Kd.R_away HO_3.out (fun _ hk => hk))); have n2_ := Aside0.mk (hb); have n3_ := Aside0.mk (ho); clear BK112; clear BK118; clear HB; clear HO_3; have BK112 := n0_; have BK118 := n1_; have HB := n2_; have HO125 := n3_; clear n0_ n1_ n2_ n3_; clear ho hb hg hat))
                                    go_roundg kj17
                                    case measure => have := HK1.out; have := HK2.out; have := HJ17.out; omega
                                    case rel => exact ⟨(y123), (wrap64 (x24_2 + 1)), (by first | rfl | (simp; done) | (simp [*]; done)), H', ⟨by have := HK1.out; have := HK2.out; have := HJ17.out; omega⟩, ⟨by (try simp only [hl3_1]); (with_reducible repeat (first | apply Kd.R_alloc | apply Kd.R_drewN | apply Kd.R_drew)); exact Kd.R_mono HO125.out (fun _ hk => trivial)⟩, ⟨by (try simp only [hl3_1]); (with_reducible repeat (first | refine blk_drewN ?_ _ | refine blk_drew ?_ | refine blk_alloc ?_ _)); exact BK112.out⟩, ⟨by repeat (first | (with_reducible first | exact HB.out | apply below_alloc | apply pw_below_drewN | apply below_drew1 | refine below_set ?_ GE112.out | refine below_set ?_ GE118.out) | exact HB.out)⟩⟩
                                  · rw [if_neg c33] at H
                                    exact absurd H (by simp)
                                · rw [if_neg c31] at H
                                  exact absurd H (by simp)
                              · rw [if_neg c30] at H
                                exact absurd H (by simp)
                            · rw [if_neg c28] at H
                              exact absurd H (by simp)
                          · rw [if_neg c27] at H
                            have c27b0 : decide (x24_2 < (l0_2.length : Int)) = false := decide_eq_false c27
                            (try (have c27h0_hl3_1 := c27b0; rw [hl3_1] at c27h0_hl3_1))
                            clear c27
                            obtain ⟨ji44, hji44⟩ : ∃ j_ : Int, (wrap64 (3 * (wrap64 (Int.tmod (rd l0_0 x24_2) 3)))) = j_ := ⟨_, rfl⟩
                            replace H : (if 0 ≤ (ji44) then (if (ji44) < (x3_2.length : Int) then ((some (x3_2.set ((ji44) : Int).toNat (⟨(rd_T27 x3_2 (ji44)).f0, wrap64 (((rd_T27 x3_2 (ji44)).f1) - x119001_17), (rd_T27 x3_2 (ji44)).f2⟩ : S27) : List (S27))).bind fun y127 => (if y127.length < 5864062014805 then (hawalalaw07_Book_Accounts.l1 kj17 (y127 ++ [(⟨(wrap64 (Int.tmod (rd l0_0 x24_2) 3)), x119001_17, 0⟩ : S27)]) l0_0 (l0_0.length : Int) (wrap64 (x24_2 + 1)) l0_0 l0_1 l0_2) else (none))) else (none)) else (none)) = some r := by first | (rw [hji44] at H; exact H) | (simp only [hji44] at H ⊢; exact H)
                            have hji44w : (IntKind.i64.wrap (3 * (wrap64 (Int.tmod (rd l0_0 x24_2) 3)))) = ji44 := (i64_w _).trans hji44
                            by_cases c45 : 0 ≤ (ji44)
                            · rw [if_pos c45] at H
                              have c45b0 : decide (0 ≤ (ji44)) = true := decide_eq_true c45
                              clear c45
                              by_cases c46 : (ji44) < (x3_2.length : Int)
                              · rw [if_pos c46] at H
                                have c46b0 : decide ((ji44) < (x3_2.length : Int)) = true := decide_eq_true c46
                                (try (have c46h0_hl3_1 := c46b0; rw [hl3_1] at c46h0_hl3_1))
                                clear c46
                                obtain ⟨y127, hy127⟩ : ∃ y_ : List (S27), y_ = (x3_2.set ((ji44) : Int).toNat (⟨(rd_T27 x3_2 (ji44)).f0, wrap64 (((rd_T27 x3_2 (ji44)).f1) - x119001_17), (rd_T27 x3_2 (ji44)).f2⟩ : S27)) := ⟨_, rfl⟩
                                replace H : (if y127.length < 5864062014805 then (hawalalaw07_Book_Accounts.l1 kj17 (y127 ++ [(⟨(wrap64 (Int.tmod (rd l0_0 x24_2) 3)), x119001_17, 0⟩ : S27)]) l0_0 (l0_0.length : Int) (wrap64 (x24_2 + 1)) l0_0 l0_1 l0_2) else (none)) = some r := by first | (rw [hy127]; with_reducible exact H) | (have H2_ := (Option.bind_some _ _).symm.trans H; rw [hy127]; with_reducible exact H2_) | (have H2_ := (Option.bind_some _ _).symm.trans H; with_reducible exact H2_) | with_reducible exact H | (rw [hy127]; exact H) | exact H
                                have Ny127 := Aside0.mk hy127
                                clear hy127
                                by_cases c48 : y127.length < 5864062014805
                                · rw [if_pos c48] at H
                                  have LMc48 := Aside0.mk c48
                                  clear c48
                                  obtain ⟨y128, hy128⟩ : ∃ y_ : List (S27), y_ = (y127 ++ [(⟨(wrap64 (Int.tmod (rd l0_0 x24_2) 3)), x119001_17, 0⟩ : S27)]) := ⟨_, rfl⟩
                                  replace H : (hawalalaw07_Book_Accounts.l1 kj17 y128 l0_0 (l0_0.length : Int) (wrap64 (x24_2 + 1)) l0_0 l0_1 l0_2) = some r := by first | (rw [hy128]; with_reducible exact H) | (have H2_ := (Option.bind_some _ _).symm.trans H; rw [hy128]; with_reducible exact H2_) | (have H2_ := (Option.bind_some _ _).symm.trans H; with_reducible exact H2_) | with_reducible exact H | (rw [hy128]; exact H) | exact H
                                  have Ny128 := Aside0.mk hy128
                                  clear hy128
                                  have H' := Aside0.mk H
                                  clear H
                                  have hnb49 := NB112_118.out
                                  have hnc49 := NB118_112.out
                                  have hcz50_0 : wc.cell? ⟨gb112, 0, none⟩ = some (.slice (some ad117) l0_0.length c0_0) := (blk_cell BK112.out 0).trans rfl
                                  have hcz50_1 : wc.cell? ⟨gb112, 1, none⟩ = some (.slice A0_1 l0_1.length c0_1) := (blk_cell BK112.out 1).trans rfl
                                  have hcz50_2 : wc.cell? ⟨gb112, 2, none⟩ = some (.slice A0_2 l0_2.length c0_2) := (blk_cell BK112.out 2).trans rfl
                                  have hfz50_0 := blk_frozen BK112.out 0
                                  have hfz50_1 := blk_frozen BK112.out 1
                                  have hfz50_2 := blk_frozen BK112.out 2
                                  try go_wp2
                                  have n0_ := Aside0.mk (Kd.R_drew HO_3.out)
                                  have n1_ := Aside0.mk (blk_drew BK112.out)
                                  have n2_ := Aside0.mk (blk_drew BK118.out)
                                  have n3_ := Aside0.mk (below_drew1 HB.out)
                                  clear HO_3
                                  clear BK112
                                  clear BK118
                                  clear HB
                                  have HO_3 := n0_
                                  have BK112 := n1_
                                  have BK118 := n2_
                                  have HB := n3_
                                  clear n0_ n1_ n2_ n3_
                                  obtain ⟨Ao52, co52, eo52⟩ := Kd.R_slice HO_3.out
                                  (first | subst eo52 | (injection eo52 with f1_ f2_ f3_; have f4_ := f1_.symm; have f5_ := f3_.symm; clear f1_ f2_ f3_; subst f4_; subst f5_))
                                  have p126 : 0 ≤ ((ji44) : Int) := of_decide_eq_true (by first | (with_reducible assumption) | assumption)
                                  have q126 : (ji44) < (x3_2.length : Int) := of_decide_eq_true (by first | (with_reducible assumption) | assumption)
                                  obtain ⟨ad126, e126, hx126_0, hx126_1, hx126_2⟩ := at_T27 (Kd.R_reads' HO_3.out).2.2 (ji44) p126 q126
                                  cases e126
                                  replace p126 := eq_true p126
                                  replace q126 := eq_true q126
                                  have p47 : 0 ≤ ((ji44) : Int) := of_decide_eq_true (by first | (with_reducible assumption) | assumption)
                                  have q47 : ((ji44) : Int) < ((x3_2.length : Int) : Int) := of_decide_eq_true (by first | (with_reducible assumption) | assumption)
                                  obtain ⟨go47, co47, eo47, gb47, gl47, cl47, HG47⟩ := Kd.R_form HO_3.out (by omega)
                                  (first | cases eo47 | (injection eo47 with ea_ en_ ec_; (first | subst ea_ | (injection ea_ with ea_; subst ea_)); subst ec_; clear en_))
                                  have GB47 := Aside0.mk gb47
                                  have GG47 := Aside0.mk HG47
                                  clear gb47 gl47 HG47
                                  (first | simp only [add_plain] at hx126_0 | skip)
                                  (first | simp only [add_plain] at hx126_1 | skip)
                                  (first | simp only [add_plain] at hx126_2 | skip)
                                  obtain ⟨ce47, hcl47, hM47, hcc47, hfr47⟩ := Kd.R_elem HO_3.out z27 ((ji44) : Int) p47 q47
                                  obtain rfl := k27_openM hM47
                                  have hx47_0 : World.cell? _ ⟨go47, ((ji44) : Int).toNat * 3, none⟩ = some (.int .i64 ((rd_T27 x3_2 (ji44)).f0)) := hcc47 0 _ rfl
                                  have hx47_1 : World.cell? _ ⟨go47, ((ji44) : Int).toNat * 3 + 1, none⟩ = some (.int .i64 ((rd_T27 x3_2 (ji44)).f1)) := hcc47 1 _ rfl
                                  have hx47_2 : World.cell? _ ⟨go47, ((ji44) : Int).toNat * 3 + 2, none⟩ = some (.int .i64 ((rd_T27 x3_2 (ji44)).f2)) := hcc47 2 _ rfl
                                  have hf47_0 : World.frozen? _ ⟨go47, ((ji44) : Int).toNat * 3, none⟩ = false := hfr47 0
                                  have hf47_1 : World.frozen? _ ⟨go47, ((ji44) : Int).toNat * 3 + 1, none⟩ = false := hfr47 1
                                  have hf47_2 : World.frozen? _ ⟨go47, ((ji44) : Int).toNat * 3 + 2, none⟩ = false := hfr47 2
                                  clear hcl47 hcc47 hfr47 hM47
                                  replace p47 := eq_true p47
                                  replace q47 := eq_true q47
                                  obtain ⟨ce53, hcl53, hM53, hcc53, hfr53⟩ := Kd.R_elem HO_3.out z27 ((ji44) : Int) (of_decide_eq_true (by first | (with_reducible assumption) | assumption)) (by have h_ : ((ji44) : Int) < ((x3_2.length : Int) : Int) := of_decide_eq_true (by first | (with_reducible assumption) | assumption); first | exact h_ | (have e_ := (Kd.R_reads' HO_3.out).1; omega) | simpa using h_)
                                  obtain rfl := k27_openM hM53
                                  have HP53 := (Kd.R_seg HO_3.out ((ji44) : Int) (of_decide_eq_true (by first | (with_reducible assumption) | assumption)) (by have h_ : ((ji44) : Int) < ((x3_2.length : Int) : Int) := of_decide_eq_true (by first | (with_reducible assumption) | assumption); first | exact h_ | (have e_ := (Kd.R_reads' HO_3.out).1; omega) | simpa using h_) (seg := [.int .i64 (wrap64 (((rd_T27 x3_2 (ji44)).f1) - x119001_17))]) (j := 1) hcl53 hcc53 (show 2 ≤ 3 from by decide) (x' := (⟨(rd_T27 x3_2 (ji44)).f0, wrap64 (((rd_T27 x3_2 (ji44)).f1) - x119001_17), (rd_T27 x3_2 (ji44)).f2⟩ : S27)) (k27_mkM _ _ _ (⟨(rd_T27 x3_2 (ji44)).f0, wrap64 (((rd_T27 x3_2 (ji44)).f1) - x119001_17), (rd_T27 x3_2 (ji44)).f2⟩ : S27) ) (fun _ hk => hk)).1
                                  rw [← Ny127.out] at HP53
                                  have HQ53 := Aside0.mk HP53
                                  clear hcl53 hcc53 hfr53 hM53 HP53
                                  refine start_ (n := 13) (S := fun w' => w'.cell? ⟨gb118, 0, none⟩ = some (.int .i64 (wrap64 (Int.tmod (rd l0_0 x24_2) 3))) ∧ w'.cell? ⟨gb118, 1, none⟩ = some (.int .i64 x119001_17) ∧ w'.cell? ⟨gb118, 2, none⟩ = some (.int .i64 0) ∧ w'.cell? ⟨go47, (((ji44)).toNat * 3), none⟩ = some (.int .i64 ((rd_T27 x3_2 (ji44)).f0)) ∧ w'.cell? ⟨go47, (((ji44)).toNat * 3) + 1, none⟩ = some (.int .i64 ((rd_T27 x3_2 (ji44)).f1)) ∧ w'.cell? ⟨go47, (((ji44)).toNat * 3) + 2, none⟩ = some (.int .i64 ((rd_T27 x3_2 (ji44)).f2))) (ds := [12]) #[false, false, false, false, false, false, false, false, false, false, false, false, false] (by kernel_rfl) rfl rfl ⟨(blk_cell BK118.out 0).trans rfl, (blk_cell BK118.out 1).trans rfl, (blk_cell BK118.out 2).trans rfl, hx126_0, hx126_1, hx126_2⟩ (fun hHeld => ?_); refine with_tabW hawalalaw07_Book_Accounts.tab16 hawalalaw07_Book_Accounts.bits16 (fun HT_ HW_ => ?_)
                                  generalize wc.drew = w51 at HO_3 BK112 BK118 HB GG47 HQ53 hf47_0 hf47_1 hf47_2 hx126_0 hx126_1 hx126_2 hx47_0 hx47_1 hx47_2 hHeld ⊢
                                  refine pure_ (i := 0) (N := some 65) (v := ?_) (a' := ?_) #[true, false, false, false, false, false, false, false, false, false, false, false, false] rfl rfl (any_of HT_.out (by kernel_rfl)) (fun _ _ _ h => h) (Or.inl ⟨by rfl, ?_⟩) ?_ ?_
                                  rotate_left
                                  · intro w'
                                    go_simp
                                    with_reducible rfl
                                  rotate_left
                                  · simp only [Act.put, List.setIfInBounds_toArray, List.set_cons_zero, List.set_cons_succ, i64_w, i32_w]
                                    rfl
                                  refine pure_ (i := 1) (N := some 66) (v := ?_) (a' := ?_) #[true, true, false, false, false, false, false, false, false, false, false, false, false] rfl rfl (any_of HT_.out (by kernel_rfl)) (fun _ _ _ h => h) (Or.inl ⟨by rfl, ?_⟩) ?_ ?_
                                  rotate_left
                                  · intro w'
                                    go_simp
                                    with_reducible rfl
                                  rotate_left
                                  · simp only [Act.put, List.setIfInBounds_toArray, List.set_cons_zero, List.set_cons_succ, i64_w, i32_w]
                                    rfl
                                  refine pure_ (i := 7) (N := some 72) (v := ?_) (a' := ?_) #[true, true, false, false, false, false, false, true, false, false, false, false, false] rfl rfl (any_of HT_.out (by kernel_rfl)) (fun _ _ _ h => h) (Or.inl ⟨by rfl, ?_⟩) ?_ ?_
                                  rotate_left
                                  · intro w'
                                    go_simp
                                    with_reducible rfl
                                  rotate_left
                                  · simp only [Act.put, List.setIfInBounds_toArray, List.set_cons_zero, List.set_cons_succ, i64_w, i32_w]
                                    rfl
                                  refine take_ (i := 2) (N := some 67) (v := ?_) (a' := ?_) #[true, true, true, false, false, false, false, true, false, false, false, false, false] rfl rfl (take_ofW HT_.out HW_.out (by kernel_rfl)) (fun _ _ _ h => h) (Or.inl ⟨by rfl, ?_⟩) hHeld ?_ ?_
                                  rotate_left
                                  · rintro w' ⟨s0, s1, s2, s3, s4, s5⟩
                                    go_simp
                                    with_reducible rfl
                                  rotate_left
                                  · simp only [Act.put, List.setIfInBounds_toArray, List.set_cons_zero, List.set_cons_succ, i64_w, i32_w]
                                    rfl
                                  refine pure_ (i := 3) (N := some 68) (v := ?_) (a' := ?_) #[true, true, true, true, false, false, false, true, false, false, false, false, false] rfl rfl (any_of HT_.out (by kernel_rfl)) (fun _ _ _ h => h) (Or.inl ⟨by rfl, ?_⟩) ?_ ?_
                                  rotate_left
                                  · intro w'
                                    go_simp
                                    with_reducible rfl
                                  rotate_left
                                  · simp only [Act.put, List.setIfInBounds_toArray, List.set_cons_zero, List.set_cons_succ, i64_w, i32_w]
                                    rfl
                                  refine pure_ (i := 4) (N := some 69) (v := ?_) (a' := ?_) #[true, true, true, true, true, false, false, true, false, false, false, false, false] rfl rfl (any_of HT_.out (by kernel_rfl)) (fun _ _ _ h => h) (Or.inl ⟨by rfl, ?_⟩) ?_ ?_
                                  rotate_left
                                  · intro w'
                                    go_simp
                                    with_reducible rfl
                                  rotate_left
                                  · simp only [Act.put, List.setIfInBounds_toArray, List.set_cons_zero, List.set_cons_succ, i64_w, i32_w]
                                    rfl
                                  refine pure_ (i := 5) (N := some 70) (v := ?_) (a' := ?_) #[true, true, true, true, true, true, false, true, false, false, false, false, false] rfl rfl (any_of HT_.out (by kernel_rfl)) (fun _ _ _ h => h) (Or.inl ⟨by rfl, ?_⟩) ?_ ?_
                                  rotate_left
                                  · intro w'
                                    go_simp
                                    with_reducible rfl
                                  rotate_left
                                  · simp only [Act.put, List.setIfInBounds_toArray, List.set_cons_zero, List.set_cons_succ, i64_w, i32_w]
                                    rfl
                                  refine take_ (i := 6) (N := some 71) (v := ?_) (a' := ?_) #[true, true, true, true, true, true, true, true, false, false, false, false, false] rfl rfl (take_ofW HT_.out HW_.out (by kernel_rfl)) (fun _ _ _ h => h) (Or.inl ⟨by rfl, ?_⟩) hHeld ?_ ?_
                                  rotate_left
                                  · rintro w' ⟨s0, s1, s2, s3, s4, s5⟩
                                    go_simp
                                    with_reducible rfl
                                  rotate_left
                                  · simp only [Act.put, List.setIfInBounds_toArray, List.set_cons_zero, List.set_cons_succ, i64_w, i32_w]
                                    rfl
                                  refine take_ (i := 8) (N := some 73) (v := ?_) (a' := ?_) #[true, true, true, true, true, true, true, true, true, false, false, false, false] rfl rfl (take_ofW HT_.out HW_.out (by kernel_rfl)) (fun _ _ _ h => h) (Or.inl ⟨by rfl, ?_⟩) hHeld ?_ ?_
                                  rotate_left
                                  · rintro w' ⟨s0, s1, s2, s3, s4, s5⟩
                                    go_simp
                                    with_reducible rfl
                                  rotate_left
                                  · simp only [Act.put, List.setIfInBounds_toArray, List.set_cons_zero, List.set_cons_succ, i64_w, i32_w]
                                    rfl
                                  refine pure_ (i := 9) (N := some 74) (v := ?_) (a' := ?_) #[true, true, true, true, true, true, true, true, true, true, false, false, false] rfl rfl (any_of HT_.out (by kernel_rfl)) (fun _ _ _ h => h) (Or.inl ⟨by rfl, ?_⟩) ?_ ?_
                                  rotate_left
                                  · intro w'
                                    go_simp
                                    with_reducible rfl
                                  rotate_left
                                  · simp only [Act.put, List.setIfInBounds_toArray, List.set_cons_zero, List.set_cons_succ, i64_w, i32_w]
                                    rfl
                                  refine pure_ (i := 10) (N := some 75) (v := ?_) (a' := ?_) #[true, true, true, true, true, true, true, true, true, true, true, false, false] rfl rfl (any_of HT_.out (by kernel_rfl)) (fun _ _ _ h => h) (Or.inl ⟨by rfl, ?_⟩) ?_ ?_
                                  rotate_left
                                  · intro w'
                                    go_simp
                                    with_reducible rfl
                                  rotate_left
                                  · simp only [Act.put, List.setIfInBounds_toArray, List.set_cons_zero, List.set_cons_succ, i64_w, i32_w]
                                    rfl
                                  refine pure_ (i := 11) (N := some 76) (v := ?_) (a' := ?_) #[true, true, true, true, true, true, true, true, true, true, true, true, false] rfl rfl (any_of HT_.out (by kernel_rfl)) (fun _ _ _ h => h) (Or.inl ⟨by rfl, ?_⟩) ?_ ?_
                                  rotate_left
                                  · intro w'
                                    go_simp
                                    with_reducible rfl
                                  rotate_left
                                  · simp only [Act.put, List.setIfInBounds_toArray, List.set_cons_zero, List.set_cons_succ, i64_w, i32_w]
                                    rfl
                                  refine last_ (i := 12) (N := none) #[true, true, true, true, true, true, true, true, true, true, true, true, true] rfl rfl (one_of HT_.out (by kernel_rfl)) (by decide) (fun K hK => ?_)
                                  refine skip_ (w1 := ?_) (by rfl) rfl ?_ ?_
                                  rotate_left
                                  · go_simp
                                    rfl
                                  refine hK.out _ _ ?_
                                  clear hK K
                                  refine done_ (done_of HT_.out (by kernel_rfl)) ?_
                                  have hcz54_0 : w51.cell? ⟨gb118, 0, none⟩ = some (.int .i64 (wrap64 (Int.tmod (rd l0_0 x24_2) 3))) := (blk_cell BK118.out 0).trans rfl
                                  have hcz54_1 : w51.cell? ⟨gb118, 1, none⟩ = some (.int .i64 x119001_17) := (blk_cell BK118.out 1).trans rfl
                                  have hcz54_2 : w51.cell? ⟨gb118, 2, none⟩ = some (.int .i64 0) := (blk_cell BK118.out 2).trans rfl
                                  have hfz54_0 := blk_frozen BK118.out 0
                                  have hfz54_1 := blk_frozen BK118.out 1
                                  have hfz54_2 := blk_frozen BK118.out 2
                                  (try (have hnrz54_0 : (go47 : Nat) ≠ gb118 := by first | exact (by have h_ := Kd.R_away HO_3.out (fun _ hk => hk); intro e_; exact h_ (by rw [e_]; rfl)) | exact fun h_ => ((by have h_ := Kd.R_away HO_3.out (fun _ hk => hk); intro e_; exact h_ (by rw [e_]; rfl))) h_.symm))
                                  (try (have hnsz54_0 := hnrz54_0.symm))
                                  try go_wp2_with (first | ((with_reducible refine gate_builtin (b := .append) (xs := #[.tmp 77, .tmp 79]) rfl ?_); at_builtin; refine Kd.R_append k27 (w0 := w) w.heap.size rfl (.tmp 77) (.tmp 79) 28 27 (.agg #[(.int .i64 0), (.int .i64 0), (.int .i64 0)]) 24 rfl Try.underlying28 info27 rfl (by decide) (by omega) (.slice (some ⟨go47, 0, none⟩) x3_2.length co52) y127 (⟨(wrap64 (Int.tmod (rd l0_0 x24_2) 3)), x119001_17, 0⟩ : S27) [.int .i64 (wrap64 (Int.tmod (rd l0_0 x24_2) 3)), .int .i64 x119001_17, .int .i64 0] (fun k_ => k_ ≠ gb118) (fun _ => False) rfl (by first | (go_simp; done) | (go_simp; rfl)) ?aP (fun _ hk => hk.elim) ?aF ?aO ?aB ?aS ?aL ?_; (case aP => exact k27_mkM _ _ _ (⟨(wrap64 (Int.tmod (rd l0_0 x24_2) 3)), x119001_17, 0⟩ : S27)); (case aB => exact (by repeat (first | (with_reducible first | exact HB.out | apply below_alloc | apply pw_below_drewN | apply below_drew1 | refine below_set ?_ GB47.out | refine below_set ?_ GE112.out | refine below_set ?_ GE118.out) | exact HB.out))); (case aF => exact (fun k_ hk => Kd.freshB (g := gb118) (o := .cells #[.int .i64 (wrap64 (Int.tmod (rd l0_0 x24_2) 3)), .int .i64 x119001_17, .int .i64 0] 27 (0, 0)) (by (with_reducible repeat (first | refine blk_drewN ?_ _ | refine blk_drew ?_ | refine blk_alloc ?_ _)); refine blk_far ?_ (by have h_ := Kd.R_away HO_3.out (fun _ hk => hk); intro e_; exact h_ (by rw [e_]; rfl)) _; (with_reducible repeat (first | refine blk_drewN ?_ _ | refine blk_drew ?_ | refine blk_alloc ?_ _)); exact BK118.out) k_ hk)); (case aO => exact (by (with_reducible repeat (first | apply Kd.R_alloc | apply Kd.R_drewN | apply Kd.R_drew)); exact HQ53.out)); (case aS => exact (below_size (by repeat (first | (with_reducible first | exact HB.out | apply below_alloc | apply pw_below_drewN | apply below_drew1 | refine below_set ?_ GB47.out | refine below_set ?_ GE112.out | refine below_set ?_ GE118.out) | exact HB.out)))); (case aL => have := LMc48.out; omega); intro v129 w55 ho hb hg hat; rw [← Ny128.out] at ho; have n0_ := Aside0.mk (blk_grown (g := gb112) (o := .cells #[.slice (some ad117) l0_0.length c0_0, .slice A0_1 l0_1.length c0_1, .slice A0_2 l0_2.length c0_2] 25 (0, 0)) (by (with_reducible repeat (first | refine blk_drewN ?_ _ | refine blk_drew ?_ | refine blk_alloc ?_ _)); refine blk_far ?_ (by have h_ := Kd.R_ne HO_3.out BK112.out (by decide); intro e_; exact h_ (by rw [e_]; rfl)) _; (with_reducible repeat (first | refine blk_drewN ?_ _ | refine blk_drew ?_ | refine blk_alloc ?_ _)); exact BK112.out) hg (Kd.R_ne HO_3.out BK112.out (by decide))); have n1_ := Aside0.mk (blk_grown (g := gb118) (o := .cells #[.int .i64 (wrap64 (Int.tmod (rd l0_0 x24_2) 3)), .int .i64 x119001_17, .int .i64 0] 27 (0, 0)) (by (with_reducible repeat (first | refine blk_drewN ?_ _ | refine blk_drew ?_ | refine blk_alloc ?_ _)); refine blk_far ?_ (by have h_ := Kd.R_away HO_3.out (fun _ hk => hk); intro e_; exact h_ (by rw [e_]; rfl)) _; (with_reducible repeat (first | refine blk_drewN ?_ _ | refine blk_drew ?_ | refine blk_alloc ?_ _)); exact BK118.out) hg (Kd.R_away HO_3.out (fun _ hk => hk))); have n2_ := Aside0.mk (hb); have n3_ := Aside0.mk (ho); clear BK112; clear BK118; clear HB; clear HO_3; have BK112 := n0_; have BK118 := n1_; have HB := n2_; have HO130 := n3_; clear n0_ n1_ n2_ n3_; clear ho hb hg hat))
                                  go_roundg kj17
                                  case measure => have := HK1.out; have := HK2.out; have := HJ17.out; omega
                                  case rel => exact ⟨(y128), (wrap64 (x24_2 + 1)), (by first | rfl | (simp; done) | (simp [*]; done)), H', ⟨by have := HK1.out; have := HK2.out; have := HJ17.out; omega⟩, ⟨by (try simp only [hl3_1]); (with_reducible repeat (first | apply Kd.R_alloc | apply Kd.R_drewN | apply Kd.R_drew)); exact Kd.R_mono HO130.out (fun _ hk => trivial)⟩, ⟨by (try simp only [hl3_1]); (with_reducible repeat (first | refine blk_drewN ?_ _ | refine blk_drew ?_ | refine blk_alloc ?_ _)); exact BK112.out⟩, ⟨by repeat (first | (with_reducible first | exact HB.out | apply below_alloc | apply pw_below_drewN | apply below_drew1 | refine below_set ?_ GE112.out | refine below_set ?_ GE118.out) | exact HB.out)⟩⟩
                                · rw [if_neg c48] at H
                                  exact absurd H (by simp)
                              · rw [if_neg c46] at H
                                exact absurd H (by simp)
                            · rw [if_neg c45] at H
                              exact absurd H (by simp)
                  · rw [if_neg c16] at H
                    exact absurd H (by simp)
                · rw [if_neg c15] at H
                  exact absurd H (by simp)
              · rw [if_neg c14] at H
                have c14b0 : decide (x24_2 < (l0_0.length : Int)) = false := decide_eq_false c14
                (try (have c14h0_hl3_1 := c14b0; rw [hl3_1] at c14h0_hl3_1))
                clear c14
                obtain rfl := Option.some.inj H
                go_wp2
                go_ret
                exact ⟨_, by first | rfl | (simp [errW_none, errW_some] <;> rfl) | (simp [*, errW_none, errW_some] <;> rfl), by (with_reducible repeat (first | apply Kd.R_alloc | apply Kd.R_drewN | apply Kd.R_drew)); exact HO_3.out, by repeat (first | (with_reducible first | exact HB.out | apply below_alloc | apply pw_below_drewN | apply below_drew1 | refine below_set ?_ GE112.out) | exact HB.out)⟩
  · rw [if_neg c2] at H
    exact absurd H (by simp)

end Go.Proofs.Ytajeobncbcpllaa.PAll
