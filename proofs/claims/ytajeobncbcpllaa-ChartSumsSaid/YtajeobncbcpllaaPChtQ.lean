/- What the functions of this chapter come to (printed by eq.py out of the program, by the engine; each equation is checked by Lean's kernel). No conditions. -/
import Derived.Test.YtajeobncbcpllaaE30
import Derived.Test.YtajeobncbcpllaaProg
set_option linter.all false
set_option linter.unusedVariables false
set_option linter.unusedSimpArgs false
set_option linter.deprecated false
namespace Go.Eng.Cht
open Go.Proofs Go.Eng
def aOwn : Nat → List Bool := fun f => match f with
  | 10 => [true]
  | 20 => [true]
  | _ => []
def aMv : Nat → List Bool := fun _ => []
def aProm : Nat → List Nat := fun f => match f with
  | 20 => [1]
  | _ => []
def aNils : Nat → List Nat := fun f => match f with
  | 10 => [2]
  | 13 => [2]
  | 20 => [0]
  | _ => []
def aKeep : Nat → Nat → List Nat := fun f b => match f, b with
  | 4, 0 => [1, 5]
  | 6, 0 => [1, 5, 15, 16, 17]
  | 10, 0 => [1, 3, 10, 11]
  | 10, 2 => [1, 3, 22, 23, 24]
  | 11, 0 => [13, 14, 15]
  | 12, 0 => [13, 14, 15]
  | 14, 0 => [0, 1, 12, 13]
  | 16, 0 => [2, 3, 6, 7, 8]
  | 20, 0 => [1, 3]
  | 20, 2 => [1, 2, 3, 6]
  | _, _ => []
def A : Ann := ⟨0, aOwn, aMv, aProm, aKeep, aNils⟩
abbrev X : Outer := (fun _ _ _ => none)
noncomputable abbrev CF : Nat → CallF := callF Try.prog A X
set_option maxRecDepth 1000000
set_option maxHeartbeats 0
abbrev KboundsError : K := (.strct (.prod (.int .i64) (.prod (.int .i64) (.prod .bool (.int .u8)))))
abbrev TboundsError : Type := (Int) × (Int) × (Bool) × Int
abbrev KerrorAddressString : K := (.strct (.prod .str (.int .u64)))
abbrev TerrorAddressString : Type := (List Int) × Int
abbrev KBook : K := (.strct (.prod (.slice (.int .u8)) (.prod (.slice (.int .u32)) (.slice (.int .u8)))))
abbrev TBook : Type := (List (Int)) × (List (Int)) × List (Int)
abbrev KAccount : K := (.strct (.prod (.int .i64) (.prod (.int .i64) (.int .i64))))
abbrev TAccount : Type := (Int) × (Int) × Int
abbrev n_law07_ChartSums : Nat := 6
abbrev n_law07_awake : Nat := 9
abbrev n_law07_Book_Accounts : Nat := 10
abbrev n_chart_Sums : Nat := 16
abbrev n_chart_New : Nat := 20
abbrev n_chart_Number : Nat := 19
abbrev n_chart_Right : Nat := 11
/-- hawala/hawalalaw07.ChartSums -/
noncomputable def h_law07_ChartSums (k m : Nat) (raw_ : List (TAccount)) (t15 : List (TAccount)) (t16 : Int) (t17 : Int) (want_ : Int) (want_1 : Int) (want_2 : Int) : Option (Bool) := headB Try.prog A (CF k) k ⟨[(false, .bool)], []⟩ 6 [] [.r, .r, .r, .r, .l, .r, .l] m ⟨[(1, .val false [.sl KAccount raw_]), (5, .val false [.ptr 5 0 0 []]), (15, .val false [.sl KAccount t15]), (16, .val false [.int .i64 t16]), (17, .val false [.int .i64 t17])], [(5, .box [.int .i64 want_, .int .i64 want_1, .int .i64 want_2])]⟩
/-- (hawala/hawalalaw07.Book).Accounts -/
noncomputable def h_law07_Book_Accounts (k m : Nat) (t10 : Int) (t11 : Int) (b_ : List (Int)) (b_1 : List (Int)) (b_2 : List (Int)) (as_ : List (TAccount)) : Option ((List (TAccount))) := headB Try.prog A (CF k) k ⟨[(true, (.slice KAccount))], []⟩ 10 [] [.r, .r, .l, .r, .l] m ⟨[(1, .val false [.ptr 1 0 0 []]), (3, .val false [.vw 3 0]), (10, .val false [.int .i64 t10]), (11, .val false [.int .i64 t11])], [(1, .box [.sl (.int .u8) b_, .sl (.int .u32) b_1, .sl (.int .u8) b_2]), (3, .row KAccount as_ 0 [] false)]⟩
/-- (hawala/hawalalaw07.Book).Accounts -/
noncomputable def h_law07_Book_Accounts_1 (k m : Nat) (t22 : List (Int)) (t23 : Int) (t24 : Int) (b_ : List (Int)) (b_1 : List (Int)) (b_2 : List (Int)) (as_ : List (TAccount)) : Option ((List (TAccount))) := headB Try.prog A (CF k) k ⟨[(true, (.slice KAccount))], []⟩ 10 [] [.r, .r, .r, .l, .r, .l] m ⟨[(1, .val false [.ptr 1 0 0 []]), (3, .val false [.vw 3 0]), (22, .val false [.sl (.int .u8) t22]), (23, .val false [.int .i64 t23]), (24, .val false [.int .i64 t24])], [(1, .box [.sl (.int .u8) b_, .sl (.int .u32) b_1, .sl (.int .u8) b_2]), (3, .row KAccount as_ 0 [] false)]⟩
/-- hawala/chart.Sums -/
noncomputable def h_chart_Sums (k m : Nat) (t6 : List (TAccount)) (t7 : Int) (t8 : Int) (t2 : Int) (t21 : Int) (t22 : Int) (out_ : Int) (out_1 : Int) (out_2 : Int) : Option (TAccount) := headB Try.prog A (CF k) k ⟨[(false, KAccount)], []⟩ 16 [] [.r, .r, .l, .r, .l] m ⟨[(2, .val false [.ptr 2 0 0 []]), (3, .val false [.ptr 3 0 0 []]), (6, .val false [.sl KAccount t6]), (7, .val false [.int .i64 t7]), (8, .val false [.int .i64 t8])], [(2, .box [.int .i64 t2, .int .i64 t21, .int .i64 t22]), (3, .box [.int .i64 out_, .int .i64 out_1, .int .i64 out_2])]⟩
/-- hawala/chart.New -/
noncomputable def h_chart_New (k m : Nat) (t3 : Int) (out_ : List (TAccount)) : Option ((List (TAccount))) := headB Try.prog A (CF k) k ⟨[(true, (.slice KAccount))], []⟩ 20 [] [.r, .r, .l, .r, .l] m ⟨[(1, .val false [.vw 1 0]), (3, .val false [.int .i64 t3])], [(1, .row KAccount out_ 0 [] false)]⟩
/-- hawala/chart.New -/
noncomputable def h_chart_New_1 (k m1 m : Nat) (c_ : Int) (t3 : Int) (t6 : Int) (out_ : List (TAccount)) : Option ((List (TAccount))) := headB Try.prog A (CF k) k ⟨[(true, (.slice KAccount))], []⟩ 20 [] [.r, .r, .l, .r, .l, .lp m1, .r, .r, .l, .l, .r, .r, .l] m ⟨[(1, .val false [.vw 1 0]), (2, .val false [.int .i64 c_]), (3, .val false [.int .i64 t3]), (6, .val false [.int .i64 t6])], [(1, .row KAccount out_ 0 [] false)]⟩
/-- hawala/chart.Right -/
noncomputable def h_chart_Right (k m : Nat) (t13 : List (TAccount)) (t14 : Int) (t15 : Int) : Option (Bool) := headB Try.prog A (CF k) k ⟨[(false, .bool)], []⟩ 11 [] [.r, .r, .l, .r, .l] m ⟨[(13, .val false [.sl KAccount t13]), (14, .val false [.int .i64 t14]), (15, .val false [.int .i64 t15])], []⟩
/-- hawala/hawalalaw07.ChartSums -/
theorem f_law07_ChartSums (k : Nat) (b_ : TBook) (raw_ : List (TAccount)) : CF (k + 1) ⟨[(false, .bool)], []⟩ n_law07_ChartSums [inj KBook b_, inj (.slice KAccount) raw_] =
 (((CF k ⟨[(false, .bool)], []⟩ n_law07_awake []).bind fun (r : Bool) =>
 (bif (!r) then some false
 else ((CF k ⟨[(true, (.slice KAccount))], []⟩ n_law07_Book_Accounts [inj KBook b_]).bind fun (r_1 : (List (TAccount))) =>
 ((CF k ⟨[(false, KAccount)], []⟩ n_chart_Sums [inj (.slice KAccount) r_1]).bind fun (r_2 : TAccount) =>
 (bif (!(decide (r_2.1 = (0 : Int)) && (decide (r_2.2.1 = (0 : Int)) && (decide (r_2.2.2 = (0 : Int)) && true)))) then some false
 else (h_law07_ChartSums k k raw_ raw_ (raw_.length : Int) (0 : Int) (0 : Int) (0 : Int) (0 : Int))))))) : Option (Bool)) := by kernel_rfl
theorem h_law07_ChartSums_s (k m : Nat) (raw_ : List (TAccount)) (t15 : List (TAccount)) (t16 : Int) (t17 : Int) (want_ : Int) (want_1 : Int) (want_2 : Int) (e1 : Int) (h_e1 : e1 = (w64 (t17 + (1 : Int)))) (e2 : (Int × (Int × Int))) (h_e2 : e2 = (List.getD t15 (Int.toNat t17) ((0 : Int), (0 : Int), (0 : Int)))) (e3 : Int) (h_e3 : e3 = (w64 ((selInt e2.1 [want_, want_1, want_2]) + e2.2.1))) : h_law07_ChartSums k (m + 1) raw_ t15 t16 t17 want_ want_1 want_2 =
 (bif decide (t17 < t16) then (bif (inb t17 t15.length) then (bif decide ((0 : Int) ≤ e2.1) then (bif decide (e2.1 < (3 : Int)) then (bif (inb e2.1 3) then (bif (inb e2.1 3) then (h_law07_ChartSums k m raw_ t15 t16 e1 (bif decide (e2.1 = (0 : Int)) then e3
 else want_) (bif decide (e2.1 = (1 : Int)) then e3
 else want_1) (bif decide (e2.1 = (2 : Int)) then e3
 else want_2))
 else none)
 else none)
 else (h_law07_ChartSums k m raw_ t15 t16 e1 want_ want_1 want_2))
 else (h_law07_ChartSums k m raw_ t15 t16 e1 want_ want_1 want_2))
 else none)
 else ((CF k ⟨[(false, KAccount)], []⟩ n_chart_Sums [inj (.slice KAccount) raw_]).bind fun (r : TAccount) =>
 some (decide (r.1 = want_) && (decide (r.2.1 = want_1) && (decide (r.2.2 = want_2) && true))))) := by
  subst h_e1 h_e2 h_e3
  kernel_rfl
theorem h_law07_ChartSums_z (k  : Nat) (raw_ : List (TAccount)) (t15 : List (TAccount)) (t16 : Int) (t17 : Int) (want_ : Int) (want_1 : Int) (want_2 : Int) : h_law07_ChartSums k 0 raw_ t15 t16 t17 want_ want_1 want_2 = none := by kernel_rfl
/-- hawala/hawalalaw07.awake -/
theorem f_law07_awake (k : Nat) : CF (k + 1) ⟨[(false, .bool)], []⟩ n_law07_awake [] =
 (((CF k ⟨[(true, (.slice KAccount))], []⟩ n_chart_New []).bind fun (r : (List (TAccount))) =>
 (bif decide ((r.length : Int) = (9 : Int)) then (bif (inb (5 : Int) r.length) then (bif decide ((List.getD r 5 ((0 : Int), (0 : Int), (0 : Int))).1 = (1 : Int)) then ((CF k ⟨[(false, (.int .i64))], []⟩ n_chart_Number [inj (.int .i64) (2 : Int), inj (.int .i64) (1 : Int)]).bind fun (r_1 : Int) =>
 (bif decide (r_1 = (5 : Int)) then ((CF k ⟨[(false, .bool)], []⟩ n_chart_Right [inj (.slice KAccount) r]).bind fun (r_2 : Bool) =>
 some r_2)
 else some false))
 else some false)
 else none)
 else some false)) : Option (Bool)) := by kernel_rfl
/-- (hawala/hawalalaw07.Book).Accounts -/
theorem f_law07_Book_Accounts (k : Nat) (b_ : TBook) : CF (k + 1) ⟨[(true, (.slice KAccount))], []⟩ n_law07_Book_Accounts [inj KBook b_] =
 ((h_law07_Book_Accounts k k (9 : Int) (0 : Int) b_.1 b_.2.1 b_.2.2 (List.replicate 9 ((0 : Int), (0 : Int), (0 : Int)))) : Option ((List (TAccount)))) := by kernel_rfl
theorem h_law07_Book_Accounts_s (k m : Nat) (t10 : Int) (t11 : Int) (b_ : List (Int)) (b_1 : List (Int)) (b_2 : List (Int)) (as_ : List (TAccount)) : h_law07_Book_Accounts k (m + 1) t10 t11 b_ b_1 b_2 as_ =
 (bif decide (t11 < t10) then (bif (inb t11 as_.length) then (h_law07_Book_Accounts k m t10 (w64 (t11 + (1 : Int))) b_ b_1 b_2 (List.set as_ (Int.toNat t11) ((w64 (Int.tdiv t11 (3 : Int))), (List.getD as_ (Int.toNat t11) ((0 : Int), (0 : Int), (0 : Int))).2)))
 else none)
 else (h_law07_Book_Accounts_1 k k b_ (b_.length : Int) (0 : Int) b_ b_1 b_2 as_)) := by kernel_rfl
theorem h_law07_Book_Accounts_z (k  : Nat) (t10 : Int) (t11 : Int) (b_ : List (Int)) (b_1 : List (Int)) (b_2 : List (Int)) (as_ : List (TAccount)) : h_law07_Book_Accounts k 0 t10 t11 b_ b_1 b_2 as_ = none := by kernel_rfl
theorem h_law07_Book_Accounts_1_s (k m : Nat) (t22 : List (Int)) (t23 : Int) (t24 : Int) (b_ : List (Int)) (b_1 : List (Int)) (b_2 : List (Int)) (as_ : List (TAccount)) (e1 : Int) (h_e1 : e1 = (b_2.length : Int)) (e2 : Int) (h_e2 : e2 = (w64 (t24 + (1 : Int)))) (e3 : Int) (h_e3 : e3 = (w64 (Int.tmod (List.getD t22 (Int.toNat t24) (0 : Int)) (3 : Int)))) (e4 : Int) (h_e4 : e4 = (w64 (Int.tmod (List.getD b_1 (Int.toNat t24) (0 : Int)) (100000 : Int)))) (e5 : Int) (h_e5 : e5 = (w64 (Int.tmod (List.getD b_2 (Int.toNat t24) (0 : Int)) (101 : Int)))) (e6 : Int) (h_e6 : e6 = (w64 ((3 : Int) * e3))) (e7 : (List (Int × (Int × Int)))) (h_e7 : e7 = [(e3, (0 : Int), (0 : Int))]) (e8 : (Int × (Int × Int))) (h_e8 : e8 = (List.getD as_ (Int.toNat e6) ((0 : Int), (0 : Int), (0 : Int)))) (e9 : (List (Int × (Int × Int)))) (h_e9 : e9 = [(e3, e4, (0 : Int))]) (e10 : (List (Int × (Int × Int)))) (h_e10 : e10 = [(e3, (0 : Int), (w64 (Int.tdiv (w64 ((0 : Int) * e5)) (100 : Int))))]) (e11 : (List (Int × (Int × Int)))) (h_e11 : e11 = [(e3, e4, (w64 (Int.tdiv (w64 (e4 * e5)) (100 : Int))))]) (e12 : (List (Int × (Int × Int)))) (h_e12 : e12 = (List.set as_ (Int.toNat e6) (e8.1, (w64 (e8.2.1 - (0 : Int))), e8.2.2))) (e13 : (List (Int × (Int × Int)))) (h_e13 : e13 = (List.set as_ (Int.toNat e6) (e8.1, (w64 (e8.2.1 - e4)), e8.2.2))) : h_law07_Book_Accounts_1 k (m + 1) t22 t23 t24 b_ b_1 b_2 as_ =
 (bif decide (t24 < t23) then (bif (inb t24 t22.length) then (bif decide (t24 = (8 : Int)) then some as_
 else (bif decide (t24 < (b_1.length : Int)) then (bif (inb t24 b_1.length) then (bif decide (t24 < e1) then (bif (inb t24 b_2.length) then (bif (inb e6 as_.length) then (bif (inb e6 as_.length) then (bif decide (((e13.length + e11.length) * 24) ≤ 211106232532992) then (h_law07_Book_Accounts_1 k m t22 t23 e2 b_ b_1 b_2 (e13 ++ e11))
 else none)
 else none)
 else none)
 else none)
 else (bif (inb e6 as_.length) then (bif (inb e6 as_.length) then (bif decide (((e13.length + e9.length) * 24) ≤ 211106232532992) then (h_law07_Book_Accounts_1 k m t22 t23 e2 b_ b_1 b_2 (e13 ++ e9))
 else none)
 else none)
 else none))
 else none)
 else (bif decide (t24 < e1) then (bif (inb t24 b_2.length) then (bif (inb e6 as_.length) then (bif (inb e6 as_.length) then (bif decide (((e12.length + e10.length) * 24) ≤ 211106232532992) then (h_law07_Book_Accounts_1 k m t22 t23 e2 b_ b_1 b_2 (e12 ++ e10))
 else none)
 else none)
 else none)
 else none)
 else (bif (inb e6 as_.length) then (bif (inb e6 as_.length) then (bif decide (((e12.length + e7.length) * 24) ≤ 211106232532992) then (h_law07_Book_Accounts_1 k m t22 t23 e2 b_ b_1 b_2 (e12 ++ e7))
 else none)
 else none)
 else none))))
 else none)
 else some as_) := by
  subst h_e1 h_e2 h_e3 h_e4 h_e5 h_e6 h_e7 h_e8 h_e9 h_e10 h_e11 h_e12 h_e13
  kernel_rfl
theorem h_law07_Book_Accounts_1_z (k  : Nat) (t22 : List (Int)) (t23 : Int) (t24 : Int) (b_ : List (Int)) (b_1 : List (Int)) (b_2 : List (Int)) (as_ : List (TAccount)) : h_law07_Book_Accounts_1 k 0 t22 t23 t24 b_ b_1 b_2 as_ = none := by kernel_rfl
/-- hawala/chart.Sums -/
theorem f_chart_Sums (k : Nat) (as_ : List (TAccount)) : CF (k + 1) ⟨[(false, KAccount)], []⟩ n_chart_Sums [inj (.slice KAccount) as_] =
 ((h_chart_Sums k k as_ (as_.length : Int) (0 : Int) (0 : Int) (0 : Int) (0 : Int) (0 : Int) (0 : Int) (0 : Int)) : Option (TAccount)) := by kernel_rfl
theorem h_chart_Sums_s (k m : Nat) (t6 : List (TAccount)) (t7 : Int) (t8 : Int) (t2 : Int) (t21 : Int) (t22 : Int) (out_ : Int) (out_1 : Int) (out_2 : Int) (e1 : Int) (h_e1 : e1 = (w64 (t8 + (1 : Int)))) (e2 : (Int × (Int × Int))) (h_e2 : e2 = (List.getD t6 (Int.toNat t8) ((0 : Int), (0 : Int), (0 : Int)))) (e3 : Int) (h_e3 : e3 = (w64 ((selInt e2.1 [out_, out_1, out_2]) + e2.2.1))) : h_chart_Sums k (m + 1) t6 t7 t8 t2 t21 t22 out_ out_1 out_2 =
 (bif decide (t8 < t7) then (bif (inb t8 t6.length) then (bif decide ((0 : Int) ≤ e2.1) then (bif decide (e2.1 < (3 : Int)) then (bif (inb e2.1 3) then (bif (inb e2.1 3) then (h_chart_Sums k m t6 t7 e1 t2 t21 t22 (bif decide (e2.1 = (0 : Int)) then e3
 else out_) (bif decide (e2.1 = (1 : Int)) then e3
 else out_1) (bif decide (e2.1 = (2 : Int)) then e3
 else out_2))
 else none)
 else none)
 else (h_chart_Sums k m t6 t7 e1 t2 t21 t22 out_ out_1 out_2))
 else (h_chart_Sums k m t6 t7 e1 t2 t21 t22 out_ out_1 out_2))
 else none)
 else some (out_, out_1, out_2)) := by
  subst h_e1 h_e2 h_e3
  kernel_rfl
theorem h_chart_Sums_z (k  : Nat) (t6 : List (TAccount)) (t7 : Int) (t8 : Int) (t2 : Int) (t21 : Int) (t22 : Int) (out_ : Int) (out_1 : Int) (out_2 : Int) : h_chart_Sums k 0 t6 t7 t8 t2 t21 t22 out_ out_1 out_2 = none := by kernel_rfl
/-- hawala/chart.New -/
theorem f_chart_New (k : Nat) : CF (k + 1) ⟨[(true, (.slice KAccount))], []⟩ n_chart_New [] =
 ((h_chart_New k k (0 : Int) []) : Option ((List (TAccount)))) := by kernel_rfl
theorem h_chart_New_s (k m : Nat) (t3 : Int) (out_ : List (TAccount)) : h_chart_New k (m + 1) t3 out_ =
 (bif decide (t3 < (3 : Int)) then (h_chart_New_1 k m k t3 t3 (0 : Int) out_)
 else some out_) := by kernel_rfl
theorem h_chart_New_z (k  : Nat) (t3 : Int) (out_ : List (TAccount)) : h_chart_New k 0 t3 out_ = none := by kernel_rfl
theorem h_chart_New_1_s (k m1 m : Nat) (c_ : Int) (t3 : Int) (t6 : Int) (out_ : List (TAccount)) (e1 : (List (Int × (Int × Int)))) (h_e1 : e1 = [(c_, (0 : Int), (0 : Int))]) : h_chart_New_1 k m1 (m + 1) c_ t3 t6 out_ =
 (bif decide (t6 < (3 : Int)) then (bif decide (((out_.length + e1.length) * 24) ≤ 211106232532992) then (h_chart_New_1 k m1 m c_ t3 (w64 (t6 + (1 : Int))) (out_ ++ e1))
 else none)
 else (h_chart_New k m1 (w64 (t3 + (1 : Int))) out_)) := by
  subst h_e1
  kernel_rfl
theorem h_chart_New_1_z (k m1 : Nat) (c_ : Int) (t3 : Int) (t6 : Int) (out_ : List (TAccount)) : h_chart_New_1 k m1 0 c_ t3 t6 out_ = none := by kernel_rfl
/-- hawala/chart.Number -/
theorem f_chart_Number (k : Nat) (k_ : Int) (cur_ : Int) : CF (k + 1) ⟨[(false, (.int .i64))], []⟩ n_chart_Number [inj (.int .i64) k_, inj (.int .i64) cur_] =
 ((bif decide (k_ < (0 : Int)) then some (-1 : Int)
 else (bif decide ((2 : Int) < k_) then some (-1 : Int)
 else (bif decide (cur_ < (0 : Int)) then some (-1 : Int)
 else (bif decide ((3 : Int) ≤ cur_) then some (-1 : Int)
 else some (w64 ((w64 ((3 : Int) * cur_)) + k_)))))) : Option (Int)) := by kernel_rfl
/-- hawala/chart.Right -/
theorem f_chart_Right (k : Nat) (as_ : List (TAccount)) (e1 : Int) (h_e1 : e1 = (as_.length : Int)) : CF (k + 1) ⟨[(false, .bool)], []⟩ n_chart_Right [inj (.slice KAccount) as_] =
 ((bif decide (e1 < (9 : Int)) then some false
 else (bif decide ((64 : Int) < e1) then some false
 else (h_chart_Right k k as_ e1 (0 : Int)))) : Option (Bool)) := by
  subst h_e1
  kernel_rfl
theorem h_chart_Right_s (k m : Nat) (t13 : List (TAccount)) (t14 : Int) (t15 : Int) (e1 : Int) (h_e1 : e1 = (w64 (t15 + (1 : Int)))) (e2 : (Int × (Int × Int))) (h_e2 : e2 = (List.getD t13 (Int.toNat t15) ((0 : Int), (0 : Int), (0 : Int)))) : h_chart_Right k (m + 1) t13 t14 t15 =
 (bif decide (t15 < t14) then (bif (inb t15 t13.length) then (bif decide (e2.1 < (0 : Int)) then some false
 else (bif decide ((3 : Int) ≤ e2.1) then some false
 else (bif decide ((1125899906842624 : Int) < e2.2.1) then some false
 else (bif decide (e2.2.1 < (-1125899906842624 : Int)) then some false
 else (bif decide (t15 < (9 : Int)) then (bif (!decide (e2.1 = (w64 (Int.tdiv t15 (3 : Int))))) then some false
 else (bif (!decide (e2.2.2 = (0 : Int))) then some false
 else (bif decide ((9 : Int) ≤ t15) then (bif decide (e2.2.2 < (0 : Int)) then some false
 else (bif decide (e2.2.1 < e2.2.2) then some false
 else (h_chart_Right k m t13 t14 e1)))
 else (h_chart_Right k m t13 t14 e1))))
 else (bif decide ((9 : Int) ≤ t15) then (bif decide (e2.2.2 < (0 : Int)) then some false
 else (bif decide (e2.2.1 < e2.2.2) then some false
 else (h_chart_Right k m t13 t14 e1)))
 else (h_chart_Right k m t13 t14 e1)))))))
 else none)
 else some true) := by
  subst h_e1 h_e2
  kernel_rfl
theorem h_chart_Right_z (k  : Nat) (t13 : List (TAccount)) (t14 : Int) (t15 : Int) : h_chart_Right k 0 t13 t14 t15 = none := by kernel_rfl
end Go.Eng.Cht
