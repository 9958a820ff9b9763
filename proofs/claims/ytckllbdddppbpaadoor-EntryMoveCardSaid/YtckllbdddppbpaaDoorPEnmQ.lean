/- What the functions of this chapter come to (printed by eq.py out of the program, by the engine; each equation is checked by Lean's kernel). No conditions. -/
import Derived.Test.YtckllbdddppbpaaDoorE30
import Derived.Test.YtckllbdddppbpaaDoorProg
set_option linter.all false
set_option linter.unusedVariables false
set_option linter.unusedSimpArgs false
set_option linter.deprecated false
namespace Go.Eng.Enm
open Go.Proofs Go.Eng
def aOwn : Nat → List Bool := fun f => match f with
  | 5 => [true]
  | _ => []
def aMv : Nat → List Bool := fun _ => []
def aProm : Nat → List Nat := fun _ => []
def aNils : Nat → List Nat := fun f => match f with
  | 5 => [2]
  | 6 => [8]
  | 7 => [8]
  | _ => []
def aKeep : Nat → Nat → List Nat := fun f b => match f, b with
  | 5, 0 => [1, 3, 10, 11]
  | 5, 2 => [1, 3, 22, 23, 24]
  | 8, 0 => [0, 1, 12, 13]
  | 10, 0 => [0, 5, 13, 14, 15]
  | _, _ => []
def aCut : Nat → Nat → Option (List Nat) := fun f b => match f, b with
  | 6, 9 => some [0, 1, 2, 3]
  | 6, 15 => some [1, 2, 3, 14, 15, 16, 17]
  | 7, 3 => some [0, 1, 2, 3]
  | 7, 5 => some [0, 1, 2, 3]
  | 7, 10 => some [1, 2, 3, 10, 11]
  | 10, 8 => some [0, 5, 7, 13, 14, 15]
  | 10, 11 => some [0, 5, 7, 10, 13, 14, 15]
  | _, _ => none
def A : Ann := ⟨35, aOwn, aMv, aProm, aKeep, aNils, aCut⟩
abbrev X : Outer := (XNum 9)
noncomputable abbrev CF : Nat → CallF := callF Tryd.prog A X
set_option maxRecDepth 1000000
set_option maxHeartbeats 0
abbrev KboundsError : K := (.strct (.prod (.int .i64) (.prod (.int .i64) (.prod .bool (.int .u8)))))
abbrev TboundsError : Type := (Int) × (Int) × (Bool) × Int
abbrev KerrorAddressString : K := (.strct (.prod .str (.int .u64)))
abbrev TerrorAddressString : Type := (List Int) × Int
abbrev KBook : K := (.strct (.prod (.slice (.int .u8)) (.prod (.slice (.int .u32)) (.slice (.int .u8)))))
abbrev TBook : Type := (List (Int)) × (List (Int)) × List (Int)
abbrev KEntry : K := (.strct (.prod (.int .i64) (.int .i64)))
abbrev TEntry : Type := (Int) × Int
abbrev KAccount : K := (.strct (.prod (.int .i64) (.prod (.int .i64) (.int .i64))))
abbrev TAccount : Type := (Int) × (Int) × Int
abbrev KValueError : K := (.strct (.prod .str (.int .u8)))
abbrev TValueError : Type := (List Int) × Int
abbrev KUncommonType : K := (.strct (.prod (.int .i32) (.prod (.int .u16) (.prod (.int .u16) (.prod (.int .u32) (.int .u32))))))
abbrev TUncommonType : Type := (Int) × (Int) × (Int) × (Int) × Int
abbrev KMethod : K := (.strct (.prod (.int .i32) (.prod (.int .i32) (.prod (.int .i32) (.int .i32)))))
abbrev TMethod : Type := (Int) × (Int) × (Int) × Int
abbrev n_law08_EntryMove : Nat := 3
abbrev n_law08_awake : Nat := 4
abbrev n_law07_Book_Accounts : Nat := 5
abbrev n_entry_Move : Nat := 6
abbrev n_law08_move : Nat := 7
abbrev n_law08_Same : Nat := 8
abbrev n_api_Number : Nat := 9
abbrev n_entry_Balanced : Nat := 10
abbrev n_chart_Of : Nat := 11
abbrev n_money_Amount : Nat := 12
abbrev n_chart_Number : Nat := 13
abbrev n_money_Rates : Nat := 15
abbrev n_money_Convert : Nat := 14
abbrev n_money_May : Nat := 17
abbrev n_money_Add : Nat := 18
abbrev n_money_Rate_right : Nat := 19
/-- (hawala/hawalalaw07.Book).Accounts -/
noncomputable def h_law07_Book_Accounts (k m : Nat) (t10 : Int) (t11 : Int) (b_ : List (Int)) (b_1 : List (Int)) (b_2 : List (Int)) (as_ : List (TAccount)) : Option ((List (TAccount))) := headB Tryd.prog A (CF k) k ⟨[(true, (.slice KAccount))], []⟩ 5 [] [.r, .r, .l, .r, .l] m ⟨[(1, .val false [.ptr 1 0 0 []]), (3, .val false [.vw 3 0]), (10, .val false [.int .i64 t10]), (11, .val false [.int .i64 t11])], [(1, .box [.sl (.int .u8) b_, .sl (.int .u32) b_1, .sl (.int .u8) b_2]), (3, .row KAccount as_ 0 [] false)]⟩
/-- (hawala/hawalalaw07.Book).Accounts -/
noncomputable def h_law07_Book_Accounts_1 (k m : Nat) (t22 : List (Int)) (t23 : Int) (t24 : Int) (b_ : List (Int)) (b_1 : List (Int)) (b_2 : List (Int)) (as_ : List (TAccount)) : Option ((List (TAccount))) := headB Tryd.prog A (CF k) k ⟨[(true, (.slice KAccount))], []⟩ 5 [] [.r, .r, .r, .l, .r, .l] m ⟨[(1, .val false [.ptr 1 0 0 []]), (3, .val false [.vw 3 0]), (22, .val false [.sl (.int .u8) t22]), (23, .val false [.int .i64 t23]), (24, .val false [.int .i64 t24])], [(1, .box [.sl (.int .u8) b_, .sl (.int .u32) b_1, .sl (.int .u8) b_2]), (3, .row KAccount as_ 0 [] false)]⟩
/-- hawala/entry.Move -/
noncomputable def h_entry_Move (k m : Nat) (as_ : List (TAccount)) (from_ : Int) (to_ : Int) (amount_ : Int) : Option ((List (TEntry)) × (Option Int)) := headB Tryd.prog A (CF k) k ⟨[(false, (.slice KEntry)), (false, .err)], []⟩ 6 [] [.r, .r, .r, .r, .l] m ⟨[(0, .val false [.sl KAccount as_]), (1, .val false [.int .i64 from_]), (2, .val false [.int .i64 to_]), (3, .val false [.int .i64 amount_])], []⟩
/-- hawala/entry.Move -/
noncomputable def h_entry_Move_1 (k m : Nat) (from_ : Int) (to_ : Int) (amount_ : Int) (a_ : Int) (b_ : Int) (x_ : Int) (y_ : Int) : Option ((List (TEntry)) × (Option Int)) := headB Tryd.prog A (CF k) k ⟨[(false, (.slice KEntry)), (false, .err)], []⟩ 6 [] [.r, .r, .r, .r, .r, .r, .r, .r, .l] m ⟨[(1, .val false [.int .i64 from_]), (2, .val false [.int .i64 to_]), (3, .val false [.int .i64 amount_]), (14, .val false [.int .i64 a_]), (15, .val false [.int .i64 b_]), (16, .val false [.int .i64 x_]), (17, .val false [.int .i64 y_])], []⟩
/-- hawala/hawalalaw08.move -/
noncomputable def h_law08_move (k m : Nat) (as_ : List (TAccount)) (from_ : Int) (to_ : Int) (amount_ : Int) : Option ((List (TEntry)) × Int) := headB Tryd.prog A (CF k) k ⟨[(false, (.slice KEntry)), (false, (.int .i64))], []⟩ 7 [] [.r, .r, .l, .l] m ⟨[(0, .val false [.sl KAccount as_]), (1, .val false [.int .i64 from_]), (2, .val false [.int .i64 to_]), (3, .val false [.int .i64 amount_])], []⟩
/-- hawala/hawalalaw08.move -/
noncomputable def h_law08_move_1 (k m : Nat) (as_ : List (TAccount)) (from_ : Int) (to_ : Int) (amount_ : Int) : Option ((List (TEntry)) × Int) := headB Tryd.prog A (CF k) k ⟨[(false, (.slice KEntry)), (false, (.int .i64))], []⟩ 7 [] [.r, .r, .r, .l] m ⟨[(0, .val false [.sl KAccount as_]), (1, .val false [.int .i64 from_]), (2, .val false [.int .i64 to_]), (3, .val false [.int .i64 amount_])], []⟩
/-- hawala/hawalalaw08.move -/
noncomputable def h_law08_move_2 (k m : Nat) (from_ : Int) (to_ : Int) (amount_ : Int) (a_ : Int) (b_ : Int) : Option ((List (TEntry)) × Int) := headB Tryd.prog A (CF k) k ⟨[(false, (.slice KEntry)), (false, (.int .i64))], []⟩ 7 [] [.r, .r, .r, .r, .r, .r, .l] m ⟨[(1, .val false [.int .i64 from_]), (2, .val false [.int .i64 to_]), (3, .val false [.int .i64 amount_]), (10, .val false [.int .i64 a_]), (11, .val false [.int .i64 b_])], []⟩
/-- hawala/hawalalaw08.Same -/
noncomputable def h_law08_Same (k m : Nat) (a_ : List (TEntry)) (b_ : List (TEntry)) (t12 : Int) (t13 : Int) : Option (Bool) := headB Tryd.prog A (CF k) k ⟨[(false, .bool)], []⟩ 8 [] [.r, .r, .l, .r, .l] m ⟨[(0, .val false [.sl KEntry a_]), (1, .val false [.sl KEntry b_]), (12, .val false [.int .i64 t12]), (13, .val false [.int .i64 t13])], []⟩
/-- hawala/entry.Balanced -/
noncomputable def h_entry_Balanced (k m : Nat) (as_ : List (TAccount)) (t13 : List (TEntry)) (t14 : Int) (t15 : Int) (sums_ : Int) (sums_1 : Int) (sums_2 : Int) : Option (Bool) := headB Tryd.prog A (CF k) k ⟨[(false, .bool)], []⟩ 10 [] [.r, .r, .l, .r, .l] m ⟨[(0, .val false [.sl KAccount as_]), (5, .val false [.ptr 5 0 0 []]), (13, .val false [.sl KEntry t13]), (14, .val false [.int .i64 t14]), (15, .val false [.int .i64 t15])], [(5, .box [.int .i64 sums_, .int .i64 sums_1, .int .i64 sums_2])]⟩
/-- hawala/entry.Balanced -/
noncomputable def h_entry_Balanced_1 (k m1 m : Nat) (as_ : List (TAccount)) (t13 : List (TEntry)) (t14 : Int) (t15 : Int) (sums_ : Int) (sums_1 : Int) (sums_2 : Int) (e_ : Int) (e_1 : Int) : Option (Bool) := headB Tryd.prog A (CF k) k ⟨[(false, .bool)], []⟩ 10 [] [.r, .r, .l, .r, .l, .lp m1, .r, .r, .l, .l, .r, .r, .l] m ⟨[(0, .val false [.sl KAccount as_]), (5, .val false [.ptr 5 0 0 []]), (7, .val false [.ptr 7 0 0 []]), (13, .val false [.sl KEntry t13]), (14, .val false [.int .i64 t14]), (15, .val false [.int .i64 t15])], [(5, .box [.int .i64 sums_, .int .i64 sums_1, .int .i64 sums_2]), (7, .box [.int .i64 e_, .int .i64 e_1])]⟩
/-- hawala/entry.Balanced -/
noncomputable def h_entry_Balanced_2 (k m1 m : Nat) (as_ : List (TAccount)) (c_ : Int) (t13 : List (TEntry)) (t14 : Int) (t15 : Int) (sums_ : Int) (sums_1 : Int) (sums_2 : Int) (e_ : Int) (e_1 : Int) : Option (Bool) := headB Tryd.prog A (CF k) k ⟨[(false, .bool)], []⟩ 10 [] [.r, .r, .l, .r, .l, .lp m1, .r, .r, .l, .l, .r, .r, .r, .r, .l] m ⟨[(0, .val false [.sl KAccount as_]), (5, .val false [.ptr 5 0 0 []]), (7, .val false [.ptr 7 0 0 []]), (10, .val false [.int .i64 c_]), (13, .val false [.sl KEntry t13]), (14, .val false [.int .i64 t14]), (15, .val false [.int .i64 t15])], [(5, .box [.int .i64 sums_, .int .i64 sums_1, .int .i64 sums_2]), (7, .box [.int .i64 e_, .int .i64 e_1])]⟩
/-- hawala/hawalalaw08.EntryMove -/
theorem f_law08_EntryMove (k : Nat) (b_ : TBook) (from_ : Int) (to_ : Int) (amount_ : Int) : CF (k + 1) ⟨[(false, .bool)], []⟩ n_law08_EntryMove [inj KBook b_, inj (.int .i8) from_, inj (.int .i8) to_, inj (.int .i64) amount_] =
 (((CF k ⟨[(false, .bool)], []⟩ n_law08_awake []).bind fun (r : Bool) =>
 (bif (!r) then some false
 else ((CF k ⟨[(true, (.slice KAccount))], []⟩ n_law07_Book_Accounts [inj KBook b_]).bind fun (r_1 : (List (TAccount))) =>
 ((CF k ⟨[(false, (.slice KEntry)), (false, .err)], []⟩ n_entry_Move [inj (.slice KAccount) r_1, inj (.int .i64) (w64 from_), inj (.int .i64) (w64 to_), inj (.int .i64) amount_]).bind fun (r_2 : (List (TEntry)) × (Option Int)) =>
 ((CF k ⟨[(false, (.slice KEntry)), (false, (.int .i64))], []⟩ n_law08_move [inj (.slice KAccount) r_1, inj (.int .i64) (w64 from_), inj (.int .i64) (w64 to_), inj (.int .i64) amount_]).bind fun (r_3 : (List (TEntry)) × Int) =>
 ((CF k ⟨[(false, .bool)], []⟩ n_law08_Same [inj (.slice KEntry) r_2.1, inj (.slice KEntry) r_3.1]).bind fun (r_4 : Bool) =>
 (bif r_4 then ((CF k ⟨[(false, (.int .i64))], []⟩ n_api_Number [inj .err r_2.2]).bind fun (r_5 : Int) =>
 some (decide (r_5 = r_3.2)))
 else some false))))))) : Option (Bool)) := by kernel_rfl
/-- hawala/hawalalaw08.awake -/
theorem f_law08_awake (k : Nat) : CF (k + 1) ⟨[(false, .bool)], []⟩ n_law08_awake [] =
 (((CF k ⟨[(true, (.slice KAccount))], []⟩ n_law07_Book_Accounts [inj KBook ([(0 : Int), (1 : Int)], [], [])]).bind fun (r : (List (TAccount))) =>
 ((CF k ⟨[(false, (.slice KEntry)), (false, .err)], []⟩ n_entry_Move [inj (.slice KAccount) r, inj (.int .i64) (9 : Int), inj (.int .i64) (10 : Int), inj (.int .i64) (10 : Int)]).bind fun (r_1 : (List (TEntry)) × (Option Int)) =>
 (bif (!r_1.2.isSome) then (bif decide ((r_1.1.length : Int) = (4 : Int)) then (bif (inb (0 : Int) r_1.1.length) then (bif (decide ((List.getD r_1.1 0 ((0 : Int), (0 : Int))).1 = (9 : Int)) && (decide ((List.getD r_1.1 0 ((0 : Int), (0 : Int))).2 = (-10 : Int)) && true)) then (bif (inb (3 : Int) r_1.1.length) then (bif (decide ((List.getD r_1.1 3 ((0 : Int), (0 : Int))).1 = (10 : Int)) && (decide ((List.getD r_1.1 3 ((0 : Int), (0 : Int))).2 = (9 : Int)) && true)) then ((CF k ⟨[(false, .bool)], []⟩ n_entry_Balanced [inj (.slice KAccount) r, inj (.slice KEntry) r_1.1]).bind fun (r_2 : Bool) =>
 some r_2)
 else some false)
 else none)
 else some false)
 else none)
 else some false)
 else some false))) : Option (Bool)) := by kernel_rfl
/-- (hawala/hawalalaw07.Book).Accounts -/
theorem f_law07_Book_Accounts (k : Nat) (b_ : TBook) : CF (k + 1) ⟨[(true, (.slice KAccount))], []⟩ n_law07_Book_Accounts [inj KBook b_] =
 ((h_law07_Book_Accounts k k (9 : Int) (0 : Int) b_.1 b_.2.1 b_.2.2 (List.replicate 9 ((0 : Int), (0 : Int), (0 : Int)))) : Option ((List (TAccount)))) := by kernel_rfl
theorem h_law07_Book_Accounts_s (k m : Nat) (t10 : Int) (t11 : Int) (b_ : List (Int)) (b_1 : List (Int)) (b_2 : List (Int)) (as_ : List (TAccount)) : h_law07_Book_Accounts k (m + 1) t10 t11 b_ b_1 b_2 as_ =
 (bif decide (t11 < t10) then (bif (inb t11 as_.length) then (h_law07_Book_Accounts k m t10 (w64 (t11 + (1 : Int))) b_ b_1 b_2 (List.set as_ (Int.toNat t11) ((w64 (Int.tdiv t11 (3 : Int))), (List.getD as_ (Int.toNat t11) ((0 : Int), (0 : Int), (0 : Int))).2)))
 else none)
 else (h_law07_Book_Accounts_1 k k b_ (b_.length : Int) (0 : Int) b_ b_1 b_2 as_)) := by kernel_rfl
theorem h_law07_Book_Accounts_z (k  : Nat) (t10 : Int) (t11 : Int) (b_ : List (Int)) (b_1 : List (Int)) (b_2 : List (Int)) (as_ : List (TAccount)) : h_law07_Book_Accounts k 0 t10 t11 b_ b_1 b_2 as_ = none := by kernel_rfl
theorem h_law07_Book_Accounts_1_s (k m : Nat) (t22 : List (Int)) (t23 : Int) (t24 : Int) (b_ : List (Int)) (b_1 : List (Int)) (b_2 : List (Int)) (as_ : List (TAccount)) (e1 : Int) (h_e1 : e1 = (b_2.length : Int)) (e2 : Int) (h_e2 : e2 = (w64 (t24 + (1 : Int)))) (e3 : Int) (h_e3 : e3 = (w64 (Int.tmod (List.getD t22 (Int.toNat t24) (0 : Int)) (3 : Int)))) (e4 : Int) (h_e4 : e4 = (w64 (Int.tmod (List.getD b_2 (Int.toNat t24) (0 : Int)) (101 : Int)))) (e5 : Int) (h_e5 : e5 = (w64 (Int.tmod (List.getD b_1 (Int.toNat t24) (0 : Int)) (100000 : Int)))) (e6 : Int) (h_e6 : e6 = (w64 ((3 : Int) * e3))) (e7 : (List (Int × (Int × Int)))) (h_e7 : e7 = [(e3, (0 : Int), (0 : Int))]) (e8 : (Int × (Int × Int))) (h_e8 : e8 = (List.getD as_ (Int.toNat e6) ((0 : Int), (0 : Int), (0 : Int)))) (e9 : (List (Int × (Int × Int)))) (h_e9 : e9 = [(e3, e5, (0 : Int))]) (e10 : (List (Int × (Int × Int)))) (h_e10 : e10 = [(e3, (0 : Int), (w64 (Int.tdiv (w64 ((0 : Int) * e4)) (100 : Int))))]) (e11 : (List (Int × (Int × Int)))) (h_e11 : e11 = [(e3, e5, (w64 (Int.tdiv (w64 (e5 * e4)) (100 : Int))))]) (e12 : (List (Int × (Int × Int)))) (h_e12 : e12 = (List.set as_ (Int.toNat e6) (e8.1, (w64 (e8.2.1 - (0 : Int))), e8.2.2))) (e13 : (List (Int × (Int × Int)))) (h_e13 : e13 = (List.set as_ (Int.toNat e6) (e8.1, (w64 (e8.2.1 - e5)), e8.2.2))) : h_law07_Book_Accounts_1 k (m + 1) t22 t23 t24 b_ b_1 b_2 as_ =
 (bif decide (t24 < t23) then (bif (inb t24 t22.length) then (bif decide (t24 = (8 : Int)) then some as_
 else (bif decide (t24 < (b_1.length : Int)) then (bif (inb t24 b_1.length) then (bif decide (t24 < e1) then (bif (inb t24 b_2.length) then (bif (inb e6 as_.length) then (bif (inb e6 as_.length) then (bif decide (((e13.length + e11.length) * 24) ≤ 211106232532992) then (h_law07_Book_Accounts_1 k m t22 t23 e2 b_ b_1 b_2 (e13 ++ e11))
 else none)
 else none)
 else none)
 else none)
 else (bif (inb e6 as_.length) then (bif (inb e6 as_.length) then (bif decide (((e13.length + e9.length) * 24) ≤ 211106232532992) then (h_law07_Book_Accounts_1 k m t22 t23 e2 b_ b_1 b_2 (e13 ++ e9))
 else none)
 else none)
 else none))
 else none)
 else (bif decide (t24 < e1) then (bif (inb t24 b_2.length) then (bif (inb e6 as_.length) then (bif (inb e6 as_.length) then (bif decide (((e12.length + e10.length) * 24) ≤ 211106232532992) then (h_law07_Book_Accounts_1 k m t22 t23 e2 b_ b_1 b_2 (e12 ++ e10))
 else none)
 else none)
 else none)
 else none)
 else (bif (inb e6 as_.length) then (bif (inb e6 as_.length) then (bif decide (((e12.length + e7.length) * 24) ≤ 211106232532992) then (h_law07_Book_Accounts_1 k m t22 t23 e2 b_ b_1 b_2 (e12 ++ e7))
 else none)
 else none)
 else none))))
 else none)
 else some as_) := by
  subst h_e1 h_e2 h_e3 h_e4 h_e5 h_e6 h_e7 h_e8 h_e9 h_e10 h_e11 h_e12 h_e13
  kernel_rfl
theorem h_law07_Book_Accounts_1_z (k  : Nat) (t22 : List (Int)) (t23 : Int) (t24 : Int) (b_ : List (Int)) (b_1 : List (Int)) (b_2 : List (Int)) (as_ : List (TAccount)) : h_law07_Book_Accounts_1 k 0 t22 t23 t24 b_ b_1 b_2 as_ = none := by kernel_rfl
/-- hawala/entry.Move -/
theorem f_entry_Move (k : Nat) (as_ : List (TAccount)) (from_ : Int) (to_ : Int) (amount_ : Int) : CF (k + 1) ⟨[(false, (.slice KEntry)), (false, .err)], []⟩ n_entry_Move [inj (.slice KAccount) as_, inj (.int .i64) from_, inj (.int .i64) to_, inj (.int .i64) amount_] =
 (((CF k ⟨[(false, (.int .i64)), (false, .bool)], []⟩ n_chart_Of [inj (.slice KAccount) as_, inj (.int .i64) from_]).bind fun (r : Int × Bool) =>
 (bif (!r.2) then some ([], some (2 : Int))
 else ((CF k ⟨[(false, (.int .i64)), (false, .bool)], []⟩ n_chart_Of [inj (.slice KAccount) as_, inj (.int .i64) to_]).bind fun (r_1 : Int × Bool) =>
 (bif (!r_1.2) then some ([], some (2 : Int))
 else (bif decide (from_ = to_) then some ([], some (1 : Int))
 else ((CF k ⟨[(false, .bool)], []⟩ n_money_Amount [inj (.int .i64) amount_]).bind fun (r_2 : Bool) =>
 (bif (!r_2) then some ([], some (1 : Int))
 else (h_entry_Move k k as_ from_ to_ amount_)))))))) : Option ((List (TEntry)) × (Option Int))) := by kernel_rfl
theorem h_entry_Move_s (k m : Nat) (as_ : List (TAccount)) (from_ : Int) (to_ : Int) (amount_ : Int) (e1 : Int) (h_e1 : e1 = (List.getD as_ (Int.toNat to_) ((0 : Int), (0 : Int), (0 : Int))).1) (e2 : Int) (h_e2 : e2 = (List.getD as_ (Int.toNat from_) ((0 : Int), (0 : Int), (0 : Int))).1) : h_entry_Move k (m + 1) as_ from_ to_ amount_ =
 (bif (inb from_ as_.length) then (bif (inb to_ as_.length) then (bif decide (e2 = e1) then some ([(from_, (w64 ((0 : Int) - amount_))), (to_, amount_)], none)
 else ((CF k ⟨[(false, (.int .i64))], []⟩ n_chart_Number [inj (.int .i64) (1 : Int), inj (.int .i64) e2]).bind fun (r : Int) =>
 ((CF k ⟨[(false, (.int .i64))], []⟩ n_chart_Number [inj (.int .i64) (1 : Int), inj (.int .i64) e1]).bind fun (r_1 : Int) =>
 (bif decide (r < (0 : Int)) then some ([], some (2 : Int))
 else (bif decide (r_1 < (0 : Int)) then some ([], some (2 : Int))
 else (h_entry_Move_1 k k from_ to_ amount_ e2 e1 r r_1))))))
 else none)
 else none) := by
  subst h_e1 h_e2
  kernel_rfl
theorem h_entry_Move_z (k  : Nat) (as_ : List (TAccount)) (from_ : Int) (to_ : Int) (amount_ : Int) : h_entry_Move k 0 as_ from_ to_ amount_ = none := by kernel_rfl
theorem h_entry_Move_1_s (k m : Nat) (from_ : Int) (to_ : Int) (amount_ : Int) (a_ : Int) (b_ : Int) (x_ : Int) (y_ : Int) : h_entry_Move_1 k (m + 1) from_ to_ amount_ a_ b_ x_ y_ =
 ((CF k ⟨[(false, (.strct (.prod (.strct (.prod KEntry (.prod KEntry KEntry))) (.prod (.strct (.prod KEntry (.prod KEntry KEntry))) (.strct (.prod KEntry (.prod KEntry KEntry)))))))], []⟩ n_money_Rates []).bind fun (r : (((TEntry) × (TEntry) × TEntry) × ((TEntry) × (TEntry) × TEntry) × (TEntry) × (TEntry) × TEntry)) =>
 (bif (inb a_ 3) then (bif (inb b_ 3) then ((CF k ⟨[(false, (.int .i64)), (false, (.int .i64)), (false, .err)], []⟩ n_money_Convert [inj (.int .i64) amount_, inj KEntry ((selInt b_ [(selInt a_ [r.1.1.1, r.2.1.1.1, r.2.2.1.1]), (selInt a_ [r.1.2.1.1, r.2.1.2.1.1, r.2.2.2.1.1]), (selInt a_ [r.1.2.2.1, r.2.1.2.2.1, r.2.2.2.2.1])]), (selInt b_ [(selInt a_ [r.1.1.2, r.2.1.1.2, r.2.2.1.2]), (selInt a_ [r.1.2.1.2, r.2.1.2.1.2, r.2.2.2.1.2]), (selInt a_ [r.1.2.2.2, r.2.1.2.2.2, r.2.2.2.2.2])]))]).bind fun (r_1 : Int × Int × (Option Int)) =>
 (bif r_1.2.2.isSome then some ([], r_1.2.2)
 else (bif decide (r_1.1 = (0 : Int)) then some ([], some (1 : Int))
 else some ([(from_, (w64 ((0 : Int) - amount_))), (x_, amount_), (y_, (w64 ((0 : Int) - r_1.1))), (to_, r_1.1)], none))))
 else none)
 else none)) := by kernel_rfl
theorem h_entry_Move_1_z (k  : Nat) (from_ : Int) (to_ : Int) (amount_ : Int) (a_ : Int) (b_ : Int) (x_ : Int) (y_ : Int) : h_entry_Move_1 k 0 from_ to_ amount_ a_ b_ x_ y_ = none := by kernel_rfl
/-- hawala/hawalalaw08.move -/
theorem f_law08_move (k : Nat) (as_ : List (TAccount)) (from_ : Int) (to_ : Int) (amount_ : Int) (e1 : Int) (h_e1 : e1 = (as_.length : Int)) : CF (k + 1) ⟨[(false, (.slice KEntry)), (false, (.int .i64))], []⟩ n_law08_move [inj (.slice KAccount) as_, inj (.int .i64) from_, inj (.int .i64) to_, inj (.int .i64) amount_] =
 ((bif decide (from_ < (0 : Int)) then some ([], (2 : Int))
 else (bif decide (to_ < (0 : Int)) then some ([], (2 : Int))
 else (bif decide (e1 ≤ from_) then some ([], (2 : Int))
 else (bif decide (e1 ≤ to_) then some ([], (2 : Int))
 else (h_law08_move k k as_ from_ to_ amount_))))) : Option ((List (TEntry)) × Int)) := by
  subst h_e1
  kernel_rfl
theorem h_law08_move_s (k m : Nat) (as_ : List (TAccount)) (from_ : Int) (to_ : Int) (amount_ : Int) : h_law08_move k (m + 1) as_ from_ to_ amount_ =
 (bif decide (from_ = to_) then some ([], (1 : Int))
 else (bif decide (amount_ < (1 : Int)) then some ([], (1 : Int))
 else (bif decide ((1099511627776 : Int) < amount_) then some ([], (1 : Int))
 else (h_law08_move_1 k k as_ from_ to_ amount_)))) := by kernel_rfl
theorem h_law08_move_z (k  : Nat) (as_ : List (TAccount)) (from_ : Int) (to_ : Int) (amount_ : Int) : h_law08_move k 0 as_ from_ to_ amount_ = none := by kernel_rfl
theorem h_law08_move_1_s (k m : Nat) (as_ : List (TAccount)) (from_ : Int) (to_ : Int) (amount_ : Int) (e1 : Int) (h_e1 : e1 = (List.getD as_ (Int.toNat to_) ((0 : Int), (0 : Int), (0 : Int))).1) (e2 : Int) (h_e2 : e2 = (List.getD as_ (Int.toNat from_) ((0 : Int), (0 : Int), (0 : Int))).1) : h_law08_move_1 k (m + 1) as_ from_ to_ amount_ =
 (bif (inb from_ as_.length) then (bif (inb to_ as_.length) then (bif decide (e2 = e1) then some ([(from_, (w64 ((0 : Int) - amount_))), (to_, amount_)], (0 : Int))
 else (bif decide (e2 < (0 : Int)) then some ([], (2 : Int))
 else (bif decide ((2 : Int) < e2) then some ([], (2 : Int))
 else (bif decide (e1 < (0 : Int)) then some ([], (2 : Int))
 else (bif decide ((2 : Int) < e1) then some ([], (2 : Int))
 else (h_law08_move_2 k k from_ to_ amount_ e2 e1))))))
 else none)
 else none) := by
  subst h_e1 h_e2
  kernel_rfl
theorem h_law08_move_1_z (k  : Nat) (as_ : List (TAccount)) (from_ : Int) (to_ : Int) (amount_ : Int) : h_law08_move_1 k 0 as_ from_ to_ amount_ = none := by kernel_rfl
theorem h_law08_move_2_s (k m : Nat) (from_ : Int) (to_ : Int) (amount_ : Int) (a_ : Int) (b_ : Int) : h_law08_move_2 k (m + 1) from_ to_ amount_ a_ b_ =
 ((CF k ⟨[(false, (.strct (.prod (.strct (.prod KEntry (.prod KEntry KEntry))) (.prod (.strct (.prod KEntry (.prod KEntry KEntry))) (.strct (.prod KEntry (.prod KEntry KEntry)))))))], []⟩ n_money_Rates []).bind fun (r : (((TEntry) × (TEntry) × TEntry) × ((TEntry) × (TEntry) × TEntry) × (TEntry) × (TEntry) × TEntry)) =>
 (bif (inb a_ 3) then (bif (inb b_ 3) then ((CF k ⟨[(false, (.int .i64)), (false, (.int .i64)), (false, .err)], []⟩ n_money_Convert [inj (.int .i64) amount_, inj KEntry ((selInt b_ [(selInt a_ [r.1.1.1, r.2.1.1.1, r.2.2.1.1]), (selInt a_ [r.1.2.1.1, r.2.1.2.1.1, r.2.2.2.1.1]), (selInt a_ [r.1.2.2.1, r.2.1.2.2.1, r.2.2.2.2.1])]), (selInt b_ [(selInt a_ [r.1.1.2, r.2.1.1.2, r.2.2.1.2]), (selInt a_ [r.1.2.1.2, r.2.1.2.1.2, r.2.2.2.1.2]), (selInt a_ [r.1.2.2.2, r.2.1.2.2.2, r.2.2.2.2.2])]))]).bind fun (r_1 : Int × Int × (Option Int)) =>
 (bif r_1.2.2.isSome then ((CF k ⟨[(false, (.int .i64))], []⟩ n_api_Number [inj .err r_1.2.2]).bind fun (r_2 : Int) =>
 some ([], r_2))
 else (bif decide (r_1.1 < (1 : Int)) then some ([], (1 : Int))
 else some ([(from_, (w64 ((0 : Int) - amount_))), ((w64 ((w64 ((3 : Int) * a_)) + (1 : Int))), amount_), ((w64 ((w64 ((3 : Int) * b_)) + (1 : Int))), (w64 ((0 : Int) - r_1.1))), (to_, r_1.1)], (0 : Int)))))
 else none)
 else none)) := by kernel_rfl
theorem h_law08_move_2_z (k  : Nat) (from_ : Int) (to_ : Int) (amount_ : Int) (a_ : Int) (b_ : Int) : h_law08_move_2 k 0 from_ to_ amount_ a_ b_ = none := by kernel_rfl
/-- hawala/hawalalaw08.Same -/
theorem f_law08_Same (k : Nat) (a_ : List (TEntry)) (b_ : List (TEntry)) (e1 : Int) (h_e1 : e1 = (a_.length : Int)) : CF (k + 1) ⟨[(false, .bool)], []⟩ n_law08_Same [inj (.slice KEntry) a_, inj (.slice KEntry) b_] =
 ((bif (!decide (e1 = (b_.length : Int))) then some false
 else (h_law08_Same k k a_ b_ e1 (0 : Int))) : Option (Bool)) := by
  subst h_e1
  kernel_rfl
theorem h_law08_Same_s (k m : Nat) (a_ : List (TEntry)) (b_ : List (TEntry)) (t12 : Int) (t13 : Int) (e1 : (Int × Int)) (h_e1 : e1 = (List.getD a_ (Int.toNat t13) ((0 : Int), (0 : Int)))) (e2 : (Int × Int)) (h_e2 : e2 = (List.getD b_ (Int.toNat t13) ((0 : Int), (0 : Int)))) : h_law08_Same k (m + 1) a_ b_ t12 t13 =
 (bif decide (t13 < t12) then (bif (inb t13 a_.length) then (bif (inb t13 b_.length) then (bif (!(decide (e1.1 = e2.1) && (decide (e1.2 = e2.2) && true))) then some false
 else (h_law08_Same k m a_ b_ t12 (w64 (t13 + (1 : Int)))))
 else none)
 else none)
 else some true) := by
  subst h_e1 h_e2
  kernel_rfl
theorem h_law08_Same_z (k  : Nat) (a_ : List (TEntry)) (b_ : List (TEntry)) (t12 : Int) (t13 : Int) : h_law08_Same k 0 a_ b_ t12 t13 = none := by kernel_rfl
/-- hawala/api.Number -/
theorem f_api_Number (k : Nat) (e_ : Option Int) : CF (k + 1) ⟨[(false, (.int .i64))], []⟩ n_api_Number [inj .err e_] =
 (some (e_.getD (0 : Int)) : Option (Int)) := by kernel_rfl
/-- hawala/entry.Balanced -/
theorem f_entry_Balanced (k : Nat) (as_ : List (TAccount)) (es_ : List (TEntry)) : CF (k + 1) ⟨[(false, .bool)], []⟩ n_entry_Balanced [inj (.slice KAccount) as_, inj (.slice KEntry) es_] =
 ((h_entry_Balanced k k as_ es_ (es_.length : Int) (0 : Int) (0 : Int) (0 : Int) (0 : Int)) : Option (Bool)) := by kernel_rfl
theorem h_entry_Balanced_s (k m : Nat) (as_ : List (TAccount)) (t13 : List (TEntry)) (t14 : Int) (t15 : Int) (sums_ : Int) (sums_1 : Int) (sums_2 : Int) (e1 : (Int × Int)) (h_e1 : e1 = (List.getD t13 (Int.toNat t15) ((0 : Int), (0 : Int)))) : h_entry_Balanced k (m + 1) as_ t13 t14 t15 sums_ sums_1 sums_2 =
 (bif decide (t15 < t14) then (bif (inb t15 t13.length) then ((CF k ⟨[(false, (.int .i64)), (false, .bool)], []⟩ n_chart_Of [inj (.slice KAccount) as_, inj (.int .i64) e1.1]).bind fun (r : Int × Bool) =>
 (bif (!r.2) then some false
 else ((CF k ⟨[(false, .bool)], []⟩ n_money_May [inj (.int .i64) e1.2]).bind fun (r_1 : Bool) =>
 (bif (!r_1) then some false
 else (h_entry_Balanced_1 k m k as_ t13 t14 t15 sums_ sums_1 sums_2 e1.1 e1.2)))))
 else none)
 else some (decide (sums_ = (0 : Int)) && (decide (sums_1 = (0 : Int)) && (decide (sums_2 = (0 : Int)) && true)))) := by
  subst h_e1
  kernel_rfl
theorem h_entry_Balanced_z (k  : Nat) (as_ : List (TAccount)) (t13 : List (TEntry)) (t14 : Int) (t15 : Int) (sums_ : Int) (sums_1 : Int) (sums_2 : Int) : h_entry_Balanced k 0 as_ t13 t14 t15 sums_ sums_1 sums_2 = none := by kernel_rfl
theorem h_entry_Balanced_1_s (k m1 m : Nat) (as_ : List (TAccount)) (t13 : List (TEntry)) (t14 : Int) (t15 : Int) (sums_ : Int) (sums_1 : Int) (sums_2 : Int) (e_ : Int) (e_1 : Int) (e1 : Int) (h_e1 : e1 = (List.getD as_ (Int.toNat e_) ((0 : Int), (0 : Int), (0 : Int))).1) : h_entry_Balanced_1 k m1 (m + 1) as_ t13 t14 t15 sums_ sums_1 sums_2 e_ e_1 =
 (bif (inb e_ as_.length) then (bif decide (e1 < (0 : Int)) then some false
 else (bif decide ((3 : Int) ≤ e1) then some false
 else (h_entry_Balanced_2 k m1 k as_ e1 t13 t14 t15 sums_ sums_1 sums_2 e_ e_1)))
 else none) := by
  subst h_e1
  kernel_rfl
theorem h_entry_Balanced_1_z (k m1 : Nat) (as_ : List (TAccount)) (t13 : List (TEntry)) (t14 : Int) (t15 : Int) (sums_ : Int) (sums_1 : Int) (sums_2 : Int) (e_ : Int) (e_1 : Int) : h_entry_Balanced_1 k m1 0 as_ t13 t14 t15 sums_ sums_1 sums_2 e_ e_1 = none := by kernel_rfl
theorem h_entry_Balanced_2_s (k m1 m : Nat) (as_ : List (TAccount)) (c_ : Int) (t13 : List (TEntry)) (t14 : Int) (t15 : Int) (sums_ : Int) (sums_1 : Int) (sums_2 : Int) (e_ : Int) (e_1 : Int) : h_entry_Balanced_2 k m1 (m + 1) as_ c_ t13 t14 t15 sums_ sums_1 sums_2 e_ e_1 =
 (bif (inb c_ 3) then ((CF k ⟨[(false, (.int .i64)), (false, .err)], []⟩ n_money_Add [inj (.int .i64) (selInt c_ [sums_, sums_1, sums_2]), inj (.int .i64) e_1]).bind fun (r : Int × (Option Int)) =>
 (bif r.2.isSome then some false
 else (bif (inb c_ 3) then (h_entry_Balanced k m1 as_ t13 t14 (w64 (t15 + (1 : Int))) (bif decide (c_ = (0 : Int)) then r.1
 else sums_) (bif decide (c_ = (1 : Int)) then r.1
 else sums_1) (bif decide (c_ = (2 : Int)) then r.1
 else sums_2))
 else none)))
 else none) := by kernel_rfl
theorem h_entry_Balanced_2_z (k m1 : Nat) (as_ : List (TAccount)) (c_ : Int) (t13 : List (TEntry)) (t14 : Int) (t15 : Int) (sums_ : Int) (sums_1 : Int) (sums_2 : Int) (e_ : Int) (e_1 : Int) : h_entry_Balanced_2 k m1 0 as_ c_ t13 t14 t15 sums_ sums_1 sums_2 e_ e_1 = none := by kernel_rfl
/-- hawala/chart.Of -/
theorem f_chart_Of (k : Nat) (as_ : List (TAccount)) (k_ : Int) : CF (k + 1) ⟨[(false, (.int .i64)), (false, .bool)], []⟩ n_chart_Of [inj (.slice KAccount) as_, inj (.int .i64) k_] =
 ((bif decide (k_ < (0 : Int)) then some ((0 : Int), false)
 else (bif decide ((as_.length : Int) ≤ k_) then some ((0 : Int), false)
 else (bif decide (k_ < (9 : Int)) then some ((Int.tmod k_ (3 : Int)), true)
 else some ((3 : Int), true)))) : Option (Int × Bool)) := by kernel_rfl
/-- hawala/money.Amount -/
theorem f_money_Amount (k : Nat) (n_ : Int) : CF (k + 1) ⟨[(false, .bool)], []⟩ n_money_Amount [inj (.int .i64) n_] =
 ((bif decide ((1 : Int) ≤ n_) then some (decide (n_ ≤ (1099511627776 : Int)))
 else some false) : Option (Bool)) := by kernel_rfl
/-- hawala/chart.Number -/
theorem f_chart_Number (k : Nat) (k_ : Int) (cur_ : Int) : CF (k + 1) ⟨[(false, (.int .i64))], []⟩ n_chart_Number [inj (.int .i64) k_, inj (.int .i64) cur_] =
 ((bif decide (k_ < (0 : Int)) then some (-1 : Int)
 else (bif decide ((2 : Int) < k_) then some (-1 : Int)
 else (bif decide (cur_ < (0 : Int)) then some (-1 : Int)
 else (bif decide ((3 : Int) ≤ cur_) then some (-1 : Int)
 else some (w64 ((w64 ((3 : Int) * cur_)) + k_)))))) : Option (Int)) := by kernel_rfl
/-- hawala/money.Rates -/
theorem f_money_Rates (k : Nat) : CF (k + 1) ⟨[(false, (.strct (.prod (.strct (.prod KEntry (.prod KEntry KEntry))) (.prod (.strct (.prod KEntry (.prod KEntry KEntry))) (.strct (.prod KEntry (.prod KEntry KEntry)))))))], []⟩ n_money_Rates [] =
 (some ((((1 : Int), (1 : Int)), ((9 : Int), (10 : Int)), (150 : Int), (1 : Int)), (((11 : Int), (10 : Int)), ((1 : Int), (1 : Int)), (160 : Int), (1 : Int)), ((1 : Int), (151 : Int)), ((1 : Int), (161 : Int)), (1 : Int), (1 : Int)) : Option ((((TEntry) × (TEntry) × TEntry) × ((TEntry) × (TEntry) × TEntry) × (TEntry) × (TEntry) × TEntry))) := by kernel_rfl
/-- hawala/money.Convert -/
theorem f_money_Convert (k : Nat) (n_ : Int) (r_ : TEntry) (e1 : Int) (h_e1 : e1 = (w64 (n_ * r_.1))) (e2 : Int) (h_e2 : e2 = (w64 (Int.tdiv e1 r_.2))) : CF (k + 1) ⟨[(false, (.int .i64)), (false, (.int .i64)), (false, .err)], []⟩ n_money_Convert [inj (.int .i64) n_, inj KEntry r_] =
 (((CF k ⟨[(false, .bool)], []⟩ n_money_Amount [inj (.int .i64) n_]).bind fun (r : Bool) =>
 (bif (!r) then some ((0 : Int), (0 : Int), some (13 : Int))
 else ((CF k ⟨[(false, .bool)], []⟩ n_money_Rate_right [inj KEntry r_]).bind fun (r_1 : Bool) =>
 (bif (!r_1) then some ((0 : Int), (0 : Int), some (13 : Int))
 else (bif (!decide (r_.2 = (0 : Int))) then (bif decide ((1099511627776 : Int) < e2) then some ((0 : Int), (0 : Int), some (4 : Int))
 else (bif (!decide (r_.2 = (0 : Int))) then (bif (!decide (r_.2 = (0 : Int))) then some (e2, (Int.tmod e1 r_.2), none)
 else none)
 else none))
 else none))))) : Option (Int × Int × (Option Int))) := by
  subst h_e1 h_e2
  kernel_rfl
/-- hawala/money.May -/
theorem f_money_May (k : Nat) (n_ : Int) : CF (k + 1) ⟨[(false, .bool)], []⟩ n_money_May [inj (.int .i64) n_] =
 ((bif decide ((-1125899906842624 : Int) ≤ n_) then some (decide (n_ ≤ (1125899906842624 : Int)))
 else some false) : Option (Bool)) := by kernel_rfl
/-- hawala/money.Add -/
theorem f_money_Add (k : Nat) (a_ : Int) (b_ : Int) : CF (k + 1) ⟨[(false, (.int .i64)), (false, .err)], []⟩ n_money_Add [inj (.int .i64) a_, inj (.int .i64) b_] =
 (((CF k ⟨[(false, .bool)], []⟩ n_money_May [inj (.int .i64) a_]).bind fun (r : Bool) =>
 (bif (!r) then some ((0 : Int), some (4 : Int))
 else ((CF k ⟨[(false, .bool)], []⟩ n_money_May [inj (.int .i64) b_]).bind fun (r_1 : Bool) =>
 (bif (!r_1) then some ((0 : Int), some (4 : Int))
 else ((CF k ⟨[(false, .bool)], []⟩ n_money_May [inj (.int .i64) (w64 (a_ + b_))]).bind fun (r_2 : Bool) =>
 (bif (!r_2) then some ((0 : Int), some (4 : Int))
 else some ((w64 (a_ + b_)), none))))))) : Option (Int × (Option Int))) := by kernel_rfl
/-- (hawala/money.Rate).right -/
theorem f_money_Rate_right (k : Nat) (r_ : TEntry) : CF (k + 1) ⟨[(false, .bool)], []⟩ n_money_Rate_right [inj KEntry r_] =
 ((bif decide ((1 : Int) ≤ r_.1) then (bif decide (r_.1 ≤ (1024 : Int)) then (bif decide ((1 : Int) ≤ r_.2) then some (decide (r_.2 ≤ (1024 : Int)))
 else some false)
 else some false)
 else some false) : Option (Bool)) := by kernel_rfl
end Go.Eng.Enm
