/- What the functions of this chapter come to (printed by eq.py out of the program, by the engine; each equation is checked by Lean's kernel). No conditions. -/
import Derived.Test.YtogifgnfhepipaaDoorE30
import Derived.Test.YtogifgnfhepipaaDoorProg
set_option linter.all false
set_option linter.unusedVariables false
set_option linter.unusedSimpArgs false
set_option linter.deprecated false
namespace Go.Eng.Led
open Go.Proofs Go.Eng
def aOwn : Nat → List Bool := fun f => match f with
  | 9 => [true]
  | 13 => [true]
  | 25 => [true]
  | _ => []
def aMv : Nat → List Bool := fun _ => []
def aProm : Nat → List Nat := fun f => match f with
  | 13 => [5]
  | 17 => [3]
  | _ => []
def aNils : Nat → List Nat := fun f => match f with
  | 9 => [2]
  | 10 => [6]
  | 11 => [6]
  | 13 => [4]
  | 14 => [4]
  | 15 => [4]
  | 17 => [2]
  | 20 => [8]
  | 21 => [6]
  | 25 => [2]
  | _ => []
def aKeep : Nat → Nat → List Nat := fun f b => match f, b with
  | 3, 1 => [2, 7, 8, 10, 11, 12, 13, 135, 136]
  | 4, 0 => [4, 9, 39, 40, 41]
  | 6, 0 => [2, 3, 4, 9, 20, 21, 22]
  | 9, 0 => [1, 3, 10, 11]
  | 9, 2 => [1, 3, 22, 23, 24]
  | 13, 0 => [0, 5, 6, 12, 13, 14]
  | 13, 2 => [5, 49, 50]
  | 14, 0 => [6, 20, 21, 22]
  | 14, 2 => [6, 48, 49, 50]
  | 15, 0 => [6, 18, 19, 20]
  | 15, 2 => [6, 11]
  | 16, 0 => [0, 1, 12, 13]
  | 17, 0 => [0, 3, 4]
  | 18, 0 => [13, 14, 15]
  | 19, 0 => [2, 3, 6, 7, 8]
  | 27, 0 => [0, 5, 13, 14, 15]
  | _, _ => []
def aCut : Nat → Nat → Option (List Nat) := fun f b => match f, b with
  | 3, 6 => some [2, 7, 8, 9]
  | 3, 9 => some [2, 7, 8, 9, 10, 11, 12, 13, 14]
  | 3, 16 => some [2, 7, 8, 10, 11, 12, 13]
  | 3, 18 => some [2, 7, 8, 10, 11, 12, 13]
  | 3, 25 => some [2, 7, 8, 10, 11, 12, 13, 16, 17, 18, 135, 136]
  | 4, 7 => some [3, 4, 9, 10]
  | 5, 10 => some [2, 3, 9]
  | 6, 10 => some [2, 3, 4, 9, 20, 21, 22]
  | 6, 13 => some [2, 3, 4, 9, 20, 21, 22]
  | 18, 3 => some [0]
  | 18, 8 => some [3, 4, 13, 14, 15]
  | 20, 9 => some [0, 1, 2, 3]
  | 20, 15 => some [1, 2, 3, 14, 15, 16, 17]
  | 27, 8 => some [0, 5, 7, 13, 14, 15]
  | 27, 11 => some [0, 5, 7, 10, 13, 14, 15]
  | _, _ => none
def A : Ann := ⟨34, aOwn, aMv, aProm, aKeep, aNils, aCut⟩
abbrev X : Outer := (XNum 12)
noncomputable abbrev CF : Nat → CallF := callF Tryd.prog A X
set_option maxRecDepth 1000000
set_option maxHeartbeats 0
abbrev KboundsError : K := (.strct (.prod (.int .i64) (.prod (.int .i64) (.prod .bool (.int .u8)))))
abbrev TboundsError : Type := (Int) × (Int) × (Bool) × Int
abbrev KerrorAddressString : K := (.strct (.prod .str (.int .u64)))
abbrev TerrorAddressString : Type := (List Int) × Int
abbrev KBook : K := (.strct (.prod (.slice (.int .u8)) (.prod (.slice (.int .u32)) (.slice (.int .u8)))))
abbrev TBook : Type := (List (Int)) × (List (Int)) × List (Int)
abbrev KAccount : K := (.strct (.prod (.int .i64) (.prod (.int .i64) (.int .i64))))
abbrev TAccount : Type := (Int) × (Int) × Int
abbrev KEntry : K := (.strct (.prod (.int .i64) (.int .i64)))
abbrev TEntry : Type := (Int) × Int
abbrev KPair : K := (.strct (.prod (.int .u8) (.int .i32)))
abbrev TPair : Type := (Int) × Int
abbrev KValueError : K := (.strct (.prod .str (.int .u8)))
abbrev TValueError : Type := (List Int) × Int
abbrev KUncommonType : K := (.strct (.prod (.int .i32) (.prod (.int .u16) (.prod (.int .u16) (.prod (.int .u32) (.int .u32))))))
abbrev TUncommonType : Type := (Int) × (Int) × (Int) × (Int) × Int
abbrev KMethod : K := (.strct (.prod (.int .i32) (.prod (.int .i32) (.prod (.int .i32) (.int .i32)))))
abbrev TMethod : Type := (Int) × (Int) × (Int) × Int
abbrev n_law09_LedgerHold : Nat := 3
abbrev n_law09_LedgerPost : Nat := 4
abbrev n_law09_LedgerBack : Nat := 5
abbrev n_law09_LedgerRight : Nat := 6
abbrev n_law09_LedgerSpend : Nat := 7
abbrev n_law09_awake : Nat := 8
abbrev n_law07_Book_Accounts : Nat := 9
abbrev n_ledger_Hold : Nat := 10
abbrev n_ledger_Release : Nat := 11
abbrev n_api_Number : Nat := 12
abbrev n_law08_Entries : Nat := 13
abbrev n_ledger_Post : Nat := 14
abbrev n_law09_post : Nat := 15
abbrev n_law07_Same : Nat := 16
abbrev n_entry_Back : Nat := 17
abbrev n_chart_Right : Nat := 18
abbrev n_chart_Sums : Nat := 19
abbrev n_entry_Move : Nat := 20
abbrev n_ledger_Spend : Nat := 21
abbrev n_chart_IsClient : Nat := 22
abbrev n_money_Amount : Nat := 23
abbrev n_chart_Free : Nat := 24
abbrev n_chart_Clone : Nat := 25
abbrev n_entry_Balanced : Nat := 27
abbrev n_money_Add : Nat := 28
abbrev n_chart_Of : Nat := 29
abbrev n_chart_Number : Nat := 30
abbrev n_money_Rates : Nat := 32
abbrev n_money_Convert : Nat := 31
abbrev n_money_May : Nat := 37
abbrev n_money_Rate_right : Nat := 38
/-- hawala/hawalalaw09.LedgerHold -/
noncomputable def h_law09_LedgerHold (k m : Nat) (amount_ : Int) (n_ : Int) (is_ : Bool) (as_ : List (TAccount)) : Option (Bool) := headB Tryd.prog A (CF k) k ⟨[(false, .bool)], []⟩ 3 [] [.r, .r, .r, .r, .r, .l] m ⟨[(2, .val false [.int .i64 amount_]), (7, .val false [.vw 7 0]), (8, .val false [.int .i64 n_]), (9, .val false [.bool is_])], [(7, .row KAccount as_ 0 [] false)]⟩
/-- hawala/hawalalaw09.LedgerHold -/
noncomputable def h_law09_LedgerHold_1 (k m : Nat) (amount_ : Int) (n_ : Int) (is_ : Bool) (x_ : List (TAccount)) (e_ : Option Int) (y_ : List (TAccount)) (f_ : Option Int) (ok_ : Bool) (as_ : List (TAccount)) : Option (Bool) := headB Tryd.prog A (CF k) k ⟨[(false, .bool)], []⟩ 3 [] [.r, .r, .r, .r, .r, .r, .r, .r, .l, .l, .l] m ⟨[(2, .val false [.int .i64 amount_]), (7, .val false [.vw 7 0]), (8, .val false [.int .i64 n_]), (9, .val false [.bool is_]), (10, .val false [.sl KAccount x_]), (11, .val false [.err e_]), (12, .val false [.sl KAccount y_]), (13, .val false [.err f_]), (14, .val false [.bool ok_])], [(7, .row KAccount as_ 0 [] true)]⟩
/-- hawala/hawalalaw09.LedgerHold -/
noncomputable def h_law09_LedgerHold_2 (k m : Nat) (amount_ : Int) (n_ : Int) (x_ : List (TAccount)) (e_ : Option Int) (y_ : List (TAccount)) (f_ : Option Int) (as_ : List (TAccount)) : Option (Bool) := headB Tryd.prog A (CF k) k ⟨[(false, .bool)], []⟩ 3 [] [.r, .r, .r, .r, .r, .r, .r, .r, .r, .r, .r, .l, .l] m ⟨[(2, .val false [.int .i64 amount_]), (7, .val false [.vw 7 0]), (8, .val false [.int .i64 n_]), (10, .val false [.sl KAccount x_]), (11, .val false [.err e_]), (12, .val false [.sl KAccount y_]), (13, .val false [.err f_])], [(7, .row KAccount as_ 0 [] true)]⟩
/-- hawala/hawalalaw09.LedgerHold -/
noncomputable def h_law09_LedgerHold_3 (k m : Nat) (amount_ : Int) (n_ : Int) (x_ : List (TAccount)) (e_ : Option Int) (y_ : List (TAccount)) (f_ : Option Int) (as_ : List (TAccount)) : Option (Bool) := headB Tryd.prog A (CF k) k ⟨[(false, .bool)], []⟩ 3 [] [.r, .r, .r, .r, .r, .r, .r, .r, .r, .r, .r, .r, .l, .l] m ⟨[(2, .val false [.int .i64 amount_]), (7, .val false [.vw 7 0]), (8, .val false [.int .i64 n_]), (10, .val false [.sl KAccount x_]), (11, .val false [.err e_]), (12, .val false [.sl KAccount y_]), (13, .val false [.err f_])], [(7, .row KAccount as_ 0 [] true)]⟩
/-- hawala/hawalalaw09.LedgerHold -/
noncomputable def h_law09_LedgerHold_4 (k m : Nat) (amount_ : Int) (n_ : Int) (x_ : List (TAccount)) (e_ : Option Int) (y_ : List (TAccount)) (f_ : Option Int) (t135 : Int) (t136 : Int) (as_ : List (TAccount)) : Option (Bool) := headB Tryd.prog A (CF k) k ⟨[(false, .bool)], []⟩ 3 [] [.r, .r, .r, .r, .r, .r, .r, .r, .r, .r, .r, .r, .l, .r, .l] m ⟨[(2, .val false [.int .i64 amount_]), (7, .val false [.vw 7 0]), (8, .val false [.int .i64 n_]), (10, .val false [.sl KAccount x_]), (11, .val false [.err e_]), (12, .val false [.sl KAccount y_]), (13, .val false [.err f_]), (135, .val false [.int .i64 t135]), (136, .val false [.int .i64 t136])], [(7, .row KAccount as_ 0 [] true)]⟩
/-- hawala/hawalalaw09.LedgerHold -/
noncomputable def h_law09_LedgerHold_5 (k m1 m : Nat) (amount_ : Int) (n_ : Int) (x_ : List (TAccount)) (e_ : Option Int) (y_ : List (TAccount)) (f_ : Option Int) (i_ : Int) (t135 : Int) (t136 : Int) (as_ : List (TAccount)) (w_ : Int) (w_1 : Int) (w_2 : Int) (v_ : Int) (v_1 : Int) (v_2 : Int) : Option (Bool) := headB Tryd.prog A (CF k) k ⟨[(false, .bool)], []⟩ 3 [] [.r, .r, .r, .r, .r, .r, .r, .r, .r, .r, .r, .r, .l, .r, .l, .lp m1, .r, .r, .l, .l, .r, .r, .r, .l] m ⟨[(2, .val false [.int .i64 amount_]), (7, .val false [.vw 7 0]), (8, .val false [.int .i64 n_]), (10, .val false [.sl KAccount x_]), (11, .val false [.err e_]), (12, .val false [.sl KAccount y_]), (13, .val false [.err f_]), (16, .val false [.int .i64 i_]), (17, .val false [.ptr 17 0 0 []]), (18, .val false [.ptr 18 0 0 []]), (135, .val false [.int .i64 t135]), (136, .val false [.int .i64 t136])], [(7, .row KAccount as_ 0 [] true), (17, .box [.int .i64 w_, .int .i64 w_1, .int .i64 w_2]), (18, .box [.int .i64 v_, .int .i64 v_1, .int .i64 v_2])]⟩
/-- hawala/hawalalaw09.LedgerPost -/
noncomputable def h_law09_LedgerPost (k m : Nat) (raw_ : List (TEntry)) (b_ : List (Int)) (b_1 : List (Int)) (b_2 : List (Int)) (as_ : List (TAccount)) (es_ : List (TEntry)) : Option (Bool) := headB Tryd.prog A (CF k) k ⟨[(false, .bool)], []⟩ 4 [] [.r, .r, .r, .r, .r, .l, .l] m ⟨[(3, .val false [.sl KEntry raw_]), (4, .val false [.ptr 4 0 0 []]), (9, .val false [.vw 9 0]), (10, .val false [.vw 10 0])], [(4, .box [.sl (.int .u8) b_, .sl (.int .u32) b_1, .sl (.int .u8) b_2]), (9, .row KAccount as_ 0 [] true), (10, .row KEntry es_ 0 [] false)]⟩
/-- hawala/hawalalaw09.LedgerPost -/
noncomputable def h_law09_LedgerPost_1 (k m : Nat) (t40 : Int) (t41 : Int) (b_ : List (Int)) (b_1 : List (Int)) (b_2 : List (Int)) (as_ : List (TAccount)) (t39 : List (List (TEntry))) : Option (Bool) := headB Tryd.prog A (CF k) k ⟨[(false, .bool)], []⟩ 4 [] [.r, .r, .r, .r, .r, .l, .r, .l] m ⟨[(4, .val false [.ptr 4 0 0 []]), (9, .val false [.vw 9 0]), (39, .val false [.vw 39 0]), (40, .val false [.int .i64 t40]), (41, .val false [.int .i64 t41])], [(4, .box [.sl (.int .u8) b_, .sl (.int .u32) b_1, .sl (.int .u8) b_2]), (9, .row KAccount as_ 0 [] true), (39, .row (.slice KEntry) t39 0 [] false)]⟩
/-- hawala/hawalalaw09.LedgerBack -/
noncomputable def h_law09_LedgerBack (k m : Nat) (k_ : Int) (amount_ : Int) (as_ : List (TAccount)) : Option (Bool) := headB Tryd.prog A (CF k) k ⟨[(false, .bool)], []⟩ 5 [] [.r, .r, .r, .r, .r, .l] m ⟨[(2, .val false [.int .u8 k_]), (3, .val false [.int .u16 amount_]), (9, .val false [.vw 9 0])], [(9, .row KAccount as_ 0 [] true)]⟩
/-- hawala/hawalalaw09.LedgerRight -/
noncomputable def h_law09_LedgerRight (k m : Nat) (k_ : Int) (amount_ : Int) (t20 : List (TPair)) (t21 : Int) (t22 : Int) (b_ : List (Int)) (b_1 : List (Int)) (b_2 : List (Int)) (as_ : List (TAccount)) : Option (Bool) := headB Tryd.prog A (CF k) k ⟨[(false, .bool)], []⟩ 6 [] [.r, .r, .r, .l, .r, .l] m ⟨[(2, .val false [.int .u8 k_]), (3, .val false [.int .u16 amount_]), (4, .val false [.ptr 4 0 0 []]), (9, .val false [.vw 9 0]), (20, .val false [.sl KPair t20]), (21, .val false [.int .i64 t21]), (22, .val false [.int .i64 t22])], [(4, .box [.sl (.int .u8) b_, .sl (.int .u32) b_1, .sl (.int .u8) b_2]), (9, .row KAccount as_ 0 [] false)]⟩
/-- hawala/hawalalaw09.LedgerRight -/
noncomputable def h_law09_LedgerRight_1 (k m1 m : Nat) (k_ : Int) (amount_ : Int) (as_ : List (TAccount)) (t20 : List (TPair)) (t21 : Int) (t22 : Int) (b_ : List (Int)) (b_1 : List (Int)) (b_2 : List (Int)) (as_1 : List (TAccount)) : Option (Bool) := headB Tryd.prog A (CF k) k ⟨[(false, .bool)], []⟩ 6 [] [.r, .r, .r, .l, .r, .l, .lp m1, .r, .r, .l, .l, .r, .r, .l, .l] m ⟨[(2, .val false [.int .u8 k_]), (3, .val false [.int .u16 amount_]), (4, .val false [.ptr 4 0 0 []]), (9, .val false [.sl KAccount as_]), (20, .val false [.sl KPair t20]), (21, .val false [.int .i64 t21]), (22, .val false [.int .i64 t22])], [(4, .box [.sl (.int .u8) b_, .sl (.int .u32) b_1, .sl (.int .u8) b_2]), (9, .row KAccount as_1 0 [] true)]⟩
/-- hawala/hawalalaw09.LedgerRight -/
noncomputable def h_law09_LedgerRight_2 (k m1 m : Nat) (k_ : Int) (amount_ : Int) (t20 : List (TPair)) (t21 : Int) (t22 : Int) (b_ : List (Int)) (b_1 : List (Int)) (b_2 : List (Int)) (as_ : List (TAccount)) : Option (Bool) := headB Tryd.prog A (CF k) k ⟨[(false, .bool)], []⟩ 6 [] [.r, .r, .r, .l, .r, .l, .lp m1, .r, .r, .l, .l, .r, .r, .l, .l] m ⟨[(2, .val false [.int .u8 k_]), (3, .val false [.int .u16 amount_]), (4, .val false [.ptr 4 0 0 []]), (9, .val false [.vw 9 0]), (20, .val false [.sl KPair t20]), (21, .val false [.int .i64 t21]), (22, .val false [.int .i64 t22])], [(4, .box [.sl (.int .u8) b_, .sl (.int .u32) b_1, .sl (.int .u8) b_2]), (9, .row KAccount as_ 0 [] true)]⟩
/-- hawala/hawalalaw09.LedgerRight -/
noncomputable def h_law09_LedgerRight_3 (k m1 m : Nat) (k_ : Int) (amount_ : Int) (as_ : List (TAccount)) (t20 : List (TPair)) (t21 : Int) (t22 : Int) (b_ : List (Int)) (b_1 : List (Int)) (b_2 : List (Int)) (as_1 : List (TAccount)) : Option (Bool) := headB Tryd.prog A (CF k) k ⟨[(false, .bool)], []⟩ 6 [] [.r, .r, .r, .l, .r, .l, .lp m1, .r, .r, .l, .l, .r, .r, .r, .l] m ⟨[(2, .val false [.int .u8 k_]), (3, .val false [.int .u16 amount_]), (4, .val false [.ptr 4 0 0 []]), (9, .val false [.sl KAccount as_]), (20, .val false [.sl KPair t20]), (21, .val false [.int .i64 t21]), (22, .val false [.int .i64 t22])], [(4, .box [.sl (.int .u8) b_, .sl (.int .u32) b_1, .sl (.int .u8) b_2]), (9, .row KAccount as_1 0 [] true)]⟩
/-- hawala/hawalalaw09.LedgerRight -/
noncomputable def h_law09_LedgerRight_4 (k m1 m : Nat) (k_ : Int) (amount_ : Int) (t20 : List (TPair)) (t21 : Int) (t22 : Int) (b_ : List (Int)) (b_1 : List (Int)) (b_2 : List (Int)) (as_ : List (TAccount)) : Option (Bool) := headB Tryd.prog A (CF k) k ⟨[(false, .bool)], []⟩ 6 [] [.r, .r, .r, .l, .r, .l, .lp m1, .r, .r, .l, .l, .r, .r, .r, .l] m ⟨[(2, .val false [.int .u8 k_]), (3, .val false [.int .u16 amount_]), (4, .val false [.ptr 4 0 0 []]), (9, .val false [.vw 9 0]), (20, .val false [.sl KPair t20]), (21, .val false [.int .i64 t21]), (22, .val false [.int .i64 t22])], [(4, .box [.sl (.int .u8) b_, .sl (.int .u32) b_1, .sl (.int .u8) b_2]), (9, .row KAccount as_ 0 [] true)]⟩
/-- hawala/hawalalaw09.LedgerRight -/
noncomputable def h_law09_LedgerRight_5 (k m : Nat) (k_ : Int) (amount_ : Int) (as_ : List (TAccount)) (t20 : List (TPair)) (t21 : Int) (t22 : Int) (b_ : List (Int)) (b_1 : List (Int)) (b_2 : List (Int)) (as_1 : List (TAccount)) : Option (Bool) := headB Tryd.prog A (CF k) k ⟨[(false, .bool)], []⟩ 6 [] [.r, .r, .r, .l, .r, .l] m ⟨[(2, .val false [.int .u8 k_]), (3, .val false [.int .u16 amount_]), (4, .val false [.ptr 4 0 0 []]), (9, .val false [.sl KAccount as_]), (20, .val false [.sl KPair t20]), (21, .val false [.int .i64 t21]), (22, .val false [.int .i64 t22])], [(4, .box [.sl (.int .u8) b_, .sl (.int .u32) b_1, .sl (.int .u8) b_2]), (9, .row KAccount as_1 0 [] true)]⟩
/-- hawala/hawalalaw09.LedgerRight -/
noncomputable def h_law09_LedgerRight_6 (k m : Nat) (k_ : Int) (amount_ : Int) (t20 : List (TPair)) (t21 : Int) (t22 : Int) (b_ : List (Int)) (b_1 : List (Int)) (b_2 : List (Int)) (as_ : List (TAccount)) : Option (Bool) := headB Tryd.prog A (CF k) k ⟨[(false, .bool)], []⟩ 6 [] [.r, .r, .r, .l, .r, .l] m ⟨[(2, .val false [.int .u8 k_]), (3, .val false [.int .u16 amount_]), (4, .val false [.ptr 4 0 0 []]), (9, .val false [.vw 9 0]), (20, .val false [.sl KPair t20]), (21, .val false [.int .i64 t21]), (22, .val false [.int .i64 t22])], [(4, .box [.sl (.int .u8) b_, .sl (.int .u32) b_1, .sl (.int .u8) b_2]), (9, .row KAccount as_ 0 [] true)]⟩
/-- (hawala/hawalalaw07.Book).Accounts -/
noncomputable def h_law07_Book_Accounts (k m : Nat) (t10 : Int) (t11 : Int) (b_ : List (Int)) (b_1 : List (Int)) (b_2 : List (Int)) (as_ : List (TAccount)) : Option ((List (TAccount))) := headB Tryd.prog A (CF k) k ⟨[(true, (.slice KAccount))], []⟩ 9 [] [.r, .r, .l, .r, .l] m ⟨[(1, .val false [.ptr 1 0 0 []]), (3, .val false [.vw 3 0]), (10, .val false [.int .i64 t10]), (11, .val false [.int .i64 t11])], [(1, .box [.sl (.int .u8) b_, .sl (.int .u32) b_1, .sl (.int .u8) b_2]), (3, .row KAccount as_ 0 [] false)]⟩
/-- (hawala/hawalalaw07.Book).Accounts -/
noncomputable def h_law07_Book_Accounts_1 (k m : Nat) (t22 : List (Int)) (t23 : Int) (t24 : Int) (b_ : List (Int)) (b_1 : List (Int)) (b_2 : List (Int)) (as_ : List (TAccount)) : Option ((List (TAccount))) := headB Tryd.prog A (CF k) k ⟨[(true, (.slice KAccount))], []⟩ 9 [] [.r, .r, .r, .l, .r, .l] m ⟨[(1, .val false [.ptr 1 0 0 []]), (3, .val false [.vw 3 0]), (22, .val false [.sl (.int .u8) t22]), (23, .val false [.int .i64 t23]), (24, .val false [.int .i64 t24])], [(1, .box [.sl (.int .u8) b_, .sl (.int .u32) b_1, .sl (.int .u8) b_2]), (3, .row KAccount as_ 0 [] false)]⟩
/-- hawala/hawalalaw08.Entries -/
noncomputable def h_law08_Entries (k m : Nat) (as_ : List (TAccount)) (t12 : List (TPair)) (t13 : Int) (t14 : Int) (out_ : List (TEntry)) (sums_ : Int) (sums_1 : Int) (sums_2 : Int) : Option ((List (TEntry))) := headB Tryd.prog A (CF k) k ⟨[(true, (.slice KEntry))], []⟩ 13 [] [.r, .r, .r, .l, .r, .l] m ⟨[(0, .val false [.sl KAccount as_]), (5, .val false [.vw 5 0]), (6, .val false [.ptr 6 0 0 []]), (12, .val false [.sl KPair t12]), (13, .val false [.int .i64 t13]), (14, .val false [.int .i64 t14])], [(5, .row KEntry out_ 0 [] false), (6, .box [.int .i64 sums_, .int .i64 sums_1, .int .i64 sums_2])]⟩
/-- hawala/hawalalaw08.Entries -/
noncomputable def h_law08_Entries_1 (k m : Nat) (t49 : Int) (t491 : Int) (t492 : Int) (t50 : Int) (out_ : List (TEntry)) : Option ((List (TEntry))) := headB Tryd.prog A (CF k) k ⟨[(true, (.slice KEntry))], []⟩ 13 [] [.r, .r, .r, .r, .l, .r, .l] m ⟨[(5, .val false [.vw 5 0]), (49, .val true [.int .i64 t49, .int .i64 t491, .int .i64 t492]), (50, .val false [.int .i64 t50])], [(5, .row KEntry out_ 0 [] false)]⟩
/-- hawala/ledger.Post -/
noncomputable def h_ledger_Post (k m : Nat) (t20 : List (TEntry)) (t21 : Int) (t22 : Int) (out_ : List (TAccount)) : Option ((List (TAccount)) × (Option Int)) := headB Tryd.prog A (CF k) k ⟨[(false, (.slice KAccount)), (false, .err)], []⟩ 14 [] [.r, .r, .r, .l, .r, .l] m ⟨[(6, .val false [.vw 6 0]), (20, .val false [.sl KEntry t20]), (21, .val false [.int .i64 t21]), (22, .val false [.int .i64 t22])], [(6, .row KAccount out_ 0 [] false)]⟩
/-- hawala/ledger.Post -/
noncomputable def h_ledger_Post_1 (k m : Nat) (t49 : Int) (t50 : Int) (out_ : List (TAccount)) : Option ((List (TAccount)) × (Option Int)) := headB Tryd.prog A (CF k) k ⟨[(false, (.slice KAccount)), (false, .err)], []⟩ 14 [] [.r, .r, .r, .r, .l, .r, .l] m ⟨[(6, .val false [.vw 6 0]), (48, .val false [.vw 6 0]), (49, .val false [.int .i64 t49]), (50, .val false [.int .i64 t50])], [(6, .row KAccount out_ 0 [] false)]⟩
/-- hawala/hawalalaw09.post -/
noncomputable def h_law09_post (k m : Nat) (t18 : List (TEntry)) (t19 : Int) (t20 : Int) (out_ : List (TAccount)) : Option ((List (TAccount)) × Int) := headB Tryd.prog A (CF k) k ⟨[(false, (.slice KAccount)), (false, (.int .i64))], []⟩ 15 [] [.r, .r, .r, .l, .r, .l] m ⟨[(6, .val false [.vw 6 0]), (18, .val false [.sl KEntry t18]), (19, .val false [.int .i64 t19]), (20, .val false [.int .i64 t20])], [(6, .row KAccount out_ 0 [] false)]⟩
/-- hawala/hawalalaw09.post -/
noncomputable def h_law09_post_1 (k m : Nat) (k_ : Int) (out_ : List (TAccount)) : Option ((List (TAccount)) × Int) := headB Tryd.prog A (CF k) k ⟨[(false, (.slice KAccount)), (false, (.int .i64))], []⟩ 15 [] [.r, .r, .r, .r, .l, .r, .l] m ⟨[(6, .val false [.vw 6 0]), (11, .val false [.int .i64 k_])], [(6, .row KAccount out_ 0 [] false)]⟩
/-- hawala/hawalalaw07.Same -/
noncomputable def h_law07_Same (k m : Nat) (a_ : List (TAccount)) (b_ : List (TAccount)) (t12 : Int) (t13 : Int) : Option (Bool) := headB Tryd.prog A (CF k) k ⟨[(false, .bool)], []⟩ 16 [] [.r, .r, .l, .r, .l] m ⟨[(0, .val false [.sl KAccount a_]), (1, .val false [.sl KAccount b_]), (12, .val false [.int .i64 t12]), (13, .val false [.int .i64 t13])], []⟩
/-- hawala/entry.Back -/
noncomputable def h_entry_Back (k m : Nat) (es_ : List (TEntry)) (k_ : Int) (out_ : List (TEntry)) : Option ((List (TEntry))) := headB Tryd.prog A (CF k) k ⟨[(false, (.slice KEntry))], []⟩ 17 [] [.r, .r, .l, .r, .l] m ⟨[(0, .val false [.sl KEntry es_]), (3, .val false [.vw 3 0]), (4, .val false [.int .i64 k_])], [(3, .row KEntry out_ 0 [] false)]⟩
/-- hawala/chart.Right -/
noncomputable def h_chart_Right (k m : Nat) (as_ : List (TAccount)) : Option (Bool) := headB Tryd.prog A (CF k) k ⟨[(false, .bool)], []⟩ 18 [] [.r, .r, .l, .l] m ⟨[(0, .val false [.sl KAccount as_])], []⟩
/-- hawala/chart.Right -/
noncomputable def h_chart_Right_1 (k m : Nat) (t13 : List (TAccount)) (t14 : Int) (t15 : Int) : Option (Bool) := headB Tryd.prog A (CF k) k ⟨[(false, .bool)], []⟩ 18 [] [.r, .r, .l, .r, .l] m ⟨[(13, .val false [.sl KAccount t13]), (14, .val false [.int .i64 t14]), (15, .val false [.int .i64 t15])], []⟩
/-- hawala/chart.Right -/
noncomputable def h_chart_Right_2 (k m1 m : Nat) (k_ : Int) (t13 : List (TAccount)) (t14 : Int) (t15 : Int) (a_ : Int) (a_1 : Int) (a_2 : Int) : Option (Bool) := headB Tryd.prog A (CF k) k ⟨[(false, .bool)], []⟩ 18 [] [.r, .r, .l, .r, .l, .lp m1, .r, .r, .l, .l, .r, .r, .l] m ⟨[(3, .val false [.int .i64 k_]), (4, .val false [.ptr 4 0 0 []]), (13, .val false [.sl KAccount t13]), (14, .val false [.int .i64 t14]), (15, .val false [.int .i64 t15])], [(4, .box [.int .i64 a_, .int .i64 a_1, .int .i64 a_2])]⟩
/-- hawala/chart.Sums -/
noncomputable def h_chart_Sums (k m : Nat) (t6 : List (TAccount)) (t7 : Int) (t8 : Int) (t2 : Int) (t21 : Int) (t22 : Int) (out_ : Int) (out_1 : Int) (out_2 : Int) : Option (TAccount) := headB Tryd.prog A (CF k) k ⟨[(false, KAccount)], []⟩ 19 [] [.r, .r, .l, .r, .l] m ⟨[(2, .val false [.ptr 2 0 0 []]), (3, .val false [.ptr 3 0 0 []]), (6, .val false [.sl KAccount t6]), (7, .val false [.int .i64 t7]), (8, .val false [.int .i64 t8])], [(2, .box [.int .i64 t2, .int .i64 t21, .int .i64 t22]), (3, .box [.int .i64 out_, .int .i64 out_1, .int .i64 out_2])]⟩
/-- hawala/entry.Move -/
noncomputable def h_entry_Move (k m : Nat) (as_ : List (TAccount)) (from_ : Int) (to_ : Int) (amount_ : Int) : Option ((List (TEntry)) × (Option Int)) := headB Tryd.prog A (CF k) k ⟨[(false, (.slice KEntry)), (false, .err)], []⟩ 20 [] [.r, .r, .r, .r, .l] m ⟨[(0, .val false [.sl KAccount as_]), (1, .val false [.int .i64 from_]), (2, .val false [.int .i64 to_]), (3, .val false [.int .i64 amount_])], []⟩
/-- hawala/entry.Move -/
noncomputable def h_entry_Move_1 (k m : Nat) (from_ : Int) (to_ : Int) (amount_ : Int) (a_ : Int) (b_ : Int) (x_ : Int) (y_ : Int) : Option ((List (TEntry)) × (Option Int)) := headB Tryd.prog A (CF k) k ⟨[(false, (.slice KEntry)), (false, .err)], []⟩ 20 [] [.r, .r, .r, .r, .r, .r, .r, .r, .l] m ⟨[(1, .val false [.int .i64 from_]), (2, .val false [.int .i64 to_]), (3, .val false [.int .i64 amount_]), (14, .val false [.int .i64 a_]), (15, .val false [.int .i64 b_]), (16, .val false [.int .i64 x_]), (17, .val false [.int .i64 y_])], []⟩
/-- hawala/entry.Balanced -/
noncomputable def h_entry_Balanced (k m : Nat) (as_ : List (TAccount)) (t13 : List (TEntry)) (t14 : Int) (t15 : Int) (sums_ : Int) (sums_1 : Int) (sums_2 : Int) : Option (Bool) := headB Tryd.prog A (CF k) k ⟨[(false, .bool)], []⟩ 27 [] [.r, .r, .l, .r, .l] m ⟨[(0, .val false [.sl KAccount as_]), (5, .val false [.ptr 5 0 0 []]), (13, .val false [.sl KEntry t13]), (14, .val false [.int .i64 t14]), (15, .val false [.int .i64 t15])], [(5, .box [.int .i64 sums_, .int .i64 sums_1, .int .i64 sums_2])]⟩
/-- hawala/entry.Balanced -/
noncomputable def h_entry_Balanced_1 (k m1 m : Nat) (as_ : List (TAccount)) (t13 : List (TEntry)) (t14 : Int) (t15 : Int) (sums_ : Int) (sums_1 : Int) (sums_2 : Int) (e_ : Int) (e_1 : Int) : Option (Bool) := headB Tryd.prog A (CF k) k ⟨[(false, .bool)], []⟩ 27 [] [.r, .r, .l, .r, .l, .lp m1, .r, .r, .l, .l, .r, .r, .l] m ⟨[(0, .val false [.sl KAccount as_]), (5, .val false [.ptr 5 0 0 []]), (7, .val false [.ptr 7 0 0 []]), (13, .val false [.sl KEntry t13]), (14, .val false [.int .i64 t14]), (15, .val false [.int .i64 t15])], [(5, .box [.int .i64 sums_, .int .i64 sums_1, .int .i64 sums_2]), (7, .box [.int .i64 e_, .int .i64 e_1])]⟩
/-- hawala/entry.Balanced -/
noncomputable def h_entry_Balanced_2 (k m1 m : Nat) (as_ : List (TAccount)) (c_ : Int) (t13 : List (TEntry)) (t14 : Int) (t15 : Int) (sums_ : Int) (sums_1 : Int) (sums_2 : Int) (e_ : Int) (e_1 : Int) : Option (Bool) := headB Tryd.prog A (CF k) k ⟨[(false, .bool)], []⟩ 27 [] [.r, .r, .l, .r, .l, .lp m1, .r, .r, .l, .l, .r, .r, .r, .r, .l] m ⟨[(0, .val false [.sl KAccount as_]), (5, .val false [.ptr 5 0 0 []]), (7, .val false [.ptr 7 0 0 []]), (10, .val false [.int .i64 c_]), (13, .val false [.sl KEntry t13]), (14, .val false [.int .i64 t14]), (15, .val false [.int .i64 t15])], [(5, .box [.int .i64 sums_, .int .i64 sums_1, .int .i64 sums_2]), (7, .box [.int .i64 e_, .int .i64 e_1])]⟩
/-- hawala/hawalalaw09.LedgerHold -/
theorem f_law09_LedgerHold (k : Nat) (b_ : TBook) (k_ : Int) (amount_ : Int) : CF (k + 1) ⟨[(false, .bool)], []⟩ n_law09_LedgerHold [inj KBook b_, inj (.int .i8) k_, inj (.int .i64) amount_] =
 (((CF k ⟨[(false, .bool)], []⟩ n_law09_awake []).bind fun (r : Bool) =>
 (bif (!r) then some false
 else ((CF k ⟨[(true, (.slice KAccount))], []⟩ n_law07_Book_Accounts [inj KBook b_]).bind fun (r_1 : (List (TAccount))) =>
 (bif decide ((8 : Int) < (w64 k_)) then (h_law09_LedgerHold k k amount_ (w64 k_) (decide ((w64 k_) < (r_1.length : Int))) r_1)
 else (h_law09_LedgerHold k k amount_ (w64 k_) false r_1))))) : Option (Bool)) := by kernel_rfl
theorem h_law09_LedgerHold_s (k m : Nat) (amount_ : Int) (n_ : Int) (is_ : Bool) (as_ : List (TAccount)) : h_law09_LedgerHold k (m + 1) amount_ n_ is_ as_ =
 ((CF k ⟨[(false, (.slice KAccount)), (false, .err)], []⟩ n_ledger_Hold [inj (.slice KAccount) as_, inj (.int .i64) n_, inj (.int .i64) amount_]).bind fun (r : (List (TAccount)) × (Option Int)) =>
 ((CF k ⟨[(false, (.slice KAccount)), (false, .err)], []⟩ n_ledger_Release [inj (.slice KAccount) as_, inj (.int .i64) n_, inj (.int .i64) amount_]).bind fun (r_1 : (List (TAccount)) × (Option Int)) =>
 (bif decide ((1 : Int) ≤ amount_) then (h_law09_LedgerHold_1 k k amount_ n_ is_ r.1 r.2 r_1.1 r_1.2 (decide (amount_ ≤ (1099511627776 : Int))) as_)
 else (h_law09_LedgerHold_1 k k amount_ n_ is_ r.1 r.2 r_1.1 r_1.2 false as_)))) := by kernel_rfl
theorem h_law09_LedgerHold_z (k  : Nat) (amount_ : Int) (n_ : Int) (is_ : Bool) (as_ : List (TAccount)) : h_law09_LedgerHold k 0 amount_ n_ is_ as_ = none := by kernel_rfl
theorem h_law09_LedgerHold_1_s (k m : Nat) (amount_ : Int) (n_ : Int) (is_ : Bool) (x_ : List (TAccount)) (e_ : Option Int) (y_ : List (TAccount)) (f_ : Option Int) (ok_ : Bool) (as_ : List (TAccount)) (e1 : Int) (h_e1 : e1 = (y_.length : Int)) (e2 : Int) (h_e2 : e2 = (x_.length : Int)) (e3 : (Int × Int)) (h_e3 : e3 = (List.getD as_ (Int.toNat n_) ((0 : Int), (0 : Int), (0 : Int))).2) : h_law09_LedgerHold_1 k (m + 1) amount_ n_ is_ x_ e_ y_ f_ ok_ as_ =
 (bif (!is_) then (bif decide (e2 = (0 : Int)) then (bif decide (e1 = (0 : Int)) then ((CF k ⟨[(false, (.int .i64))], []⟩ n_api_Number [inj .err e_]).bind fun (r : Int) =>
 (bif decide (r = (2 : Int)) then ((CF k ⟨[(false, (.int .i64))], []⟩ n_api_Number [inj .err f_]).bind fun (r_1 : Int) =>
 some (decide (r_1 = (2 : Int))))
 else some false))
 else some false)
 else some false)
 else (bif (!ok_) then (bif decide (e2 = (0 : Int)) then (bif decide (e1 = (0 : Int)) then ((CF k ⟨[(false, (.int .i64))], []⟩ n_api_Number [inj .err e_]).bind fun (r : Int) =>
 (bif decide (r = (1 : Int)) then ((CF k ⟨[(false, (.int .i64))], []⟩ n_api_Number [inj .err f_]).bind fun (r_1 : Int) =>
 some (decide (r_1 = (1 : Int))))
 else some false))
 else some false)
 else some false)
 else (bif (inb n_ as_.length) then (bif (!((!e_.isSome) == decide (amount_ ≤ (w64 (e3.1 - e3.2))))) then some false
 else (bif (!((!f_.isSome) == decide (amount_ ≤ e3.2))) then some false
 else (h_law09_LedgerHold_2 k k amount_ n_ x_ e_ y_ f_ as_)))
 else none))) := by
  subst h_e1 h_e2 h_e3
  kernel_rfl
theorem h_law09_LedgerHold_1_z (k  : Nat) (amount_ : Int) (n_ : Int) (is_ : Bool) (x_ : List (TAccount)) (e_ : Option Int) (y_ : List (TAccount)) (f_ : Option Int) (ok_ : Bool) (as_ : List (TAccount)) : h_law09_LedgerHold_1 k 0 amount_ n_ is_ x_ e_ y_ f_ ok_ as_ = none := by kernel_rfl
theorem h_law09_LedgerHold_2_s (k m : Nat) (amount_ : Int) (n_ : Int) (x_ : List (TAccount)) (e_ : Option Int) (y_ : List (TAccount)) (f_ : Option Int) (as_ : List (TAccount)) : h_law09_LedgerHold_2 k (m + 1) amount_ n_ x_ e_ y_ f_ as_ =
 (bif e_.isSome then ((CF k ⟨[(false, (.int .i64))], []⟩ n_api_Number [inj .err e_]).bind fun (r : Int) =>
 (bif (!decide (r = (3 : Int))) then some false
 else (bif f_.isSome then ((CF k ⟨[(false, (.int .i64))], []⟩ n_api_Number [inj .err f_]).bind fun (r_1 : Int) =>
 (bif (!decide (r_1 = (6 : Int))) then some false
 else (h_law09_LedgerHold_3 k k amount_ n_ x_ e_ y_ f_ as_)))
 else (h_law09_LedgerHold_3 k k amount_ n_ x_ e_ y_ f_ as_))))
 else (bif f_.isSome then ((CF k ⟨[(false, (.int .i64))], []⟩ n_api_Number [inj .err f_]).bind fun (r : Int) =>
 (bif (!decide (r = (6 : Int))) then some false
 else (h_law09_LedgerHold_3 k k amount_ n_ x_ e_ y_ f_ as_)))
 else (h_law09_LedgerHold_3 k k amount_ n_ x_ e_ y_ f_ as_))) := by kernel_rfl
theorem h_law09_LedgerHold_2_z (k  : Nat) (amount_ : Int) (n_ : Int) (x_ : List (TAccount)) (e_ : Option Int) (y_ : List (TAccount)) (f_ : Option Int) (as_ : List (TAccount)) : h_law09_LedgerHold_2 k 0 amount_ n_ x_ e_ y_ f_ as_ = none := by kernel_rfl
theorem h_law09_LedgerHold_3_s (k m : Nat) (amount_ : Int) (n_ : Int) (x_ : List (TAccount)) (e_ : Option Int) (y_ : List (TAccount)) (f_ : Option Int) (as_ : List (TAccount)) : h_law09_LedgerHold_3 k (m + 1) amount_ n_ x_ e_ y_ f_ as_ =
 (h_law09_LedgerHold_4 k k amount_ n_ x_ e_ y_ f_ (as_.length : Int) (0 : Int) as_) := by kernel_rfl
theorem h_law09_LedgerHold_3_z (k  : Nat) (amount_ : Int) (n_ : Int) (x_ : List (TAccount)) (e_ : Option Int) (y_ : List (TAccount)) (f_ : Option Int) (as_ : List (TAccount)) : h_law09_LedgerHold_3 k 0 amount_ n_ x_ e_ y_ f_ as_ = none := by kernel_rfl
theorem h_law09_LedgerHold_4_s (k m : Nat) (amount_ : Int) (n_ : Int) (x_ : List (TAccount)) (e_ : Option Int) (y_ : List (TAccount)) (f_ : Option Int) (t135 : Int) (t136 : Int) (as_ : List (TAccount)) (e1 : (Int × (Int × Int))) (h_e1 : e1 = (List.getD as_ (Int.toNat t136) ((0 : Int), (0 : Int), (0 : Int)))) : h_law09_LedgerHold_4 k (m + 1) amount_ n_ x_ e_ y_ f_ t135 t136 as_ =
 (bif decide (t136 < t135) then (bif (inb t136 as_.length) then (bif (inb t136 as_.length) then (bif decide (t136 = n_) then (h_law09_LedgerHold_5 k m k amount_ n_ x_ e_ y_ f_ t136 t135 t136 as_ e1.1 e1.2.1 (w64 (e1.2.2 + amount_)) e1.1 e1.2.1 (w64 (e1.2.2 - amount_)))
 else (h_law09_LedgerHold_5 k m k amount_ n_ x_ e_ y_ f_ t136 t135 t136 as_ e1.1 e1.2.1 e1.2.2 e1.1 e1.2.1 e1.2.2))
 else none)
 else none)
 else some true) := by
  subst h_e1
  kernel_rfl
theorem h_law09_LedgerHold_4_z (k  : Nat) (amount_ : Int) (n_ : Int) (x_ : List (TAccount)) (e_ : Option Int) (y_ : List (TAccount)) (f_ : Option Int) (t135 : Int) (t136 : Int) (as_ : List (TAccount)) : h_law09_LedgerHold_4 k 0 amount_ n_ x_ e_ y_ f_ t135 t136 as_ = none := by kernel_rfl
theorem h_law09_LedgerHold_5_s (k m1 m : Nat) (amount_ : Int) (n_ : Int) (x_ : List (TAccount)) (e_ : Option Int) (y_ : List (TAccount)) (f_ : Option Int) (i_ : Int) (t135 : Int) (t136 : Int) (as_ : List (TAccount)) (w_ : Int) (w_1 : Int) (w_2 : Int) (v_ : Int) (v_1 : Int) (v_2 : Int) (e1 : Int) (h_e1 : e1 = (w64 (t136 + (1 : Int)))) (e2 : (Int × (Int × Int))) (h_e2 : e2 = (List.getD y_ (Int.toNat i_) ((0 : Int), (0 : Int), (0 : Int)))) (e3 : (Int × (Int × Int))) (h_e3 : e3 = (List.getD x_ (Int.toNat i_) ((0 : Int), (0 : Int), (0 : Int)))) : h_law09_LedgerHold_5 k m1 (m + 1) amount_ n_ x_ e_ y_ f_ i_ t135 t136 as_ w_ w_1 w_2 v_ v_1 v_2 =
 (bif (!e_.isSome) then (bif (inb i_ x_.length) then (bif (!(decide (e3.1 = w_) && (decide (e3.2.1 = w_1) && (decide (e3.2.2 = w_2) && true)))) then some false
 else (bif (!f_.isSome) then (bif (inb i_ y_.length) then (bif (!(decide (e2.1 = v_) && (decide (e2.2.1 = v_1) && (decide (e2.2.2 = v_2) && true)))) then some false
 else (h_law09_LedgerHold_4 k m1 amount_ n_ x_ e_ y_ f_ t135 e1 as_))
 else none)
 else (h_law09_LedgerHold_4 k m1 amount_ n_ x_ e_ y_ f_ t135 e1 as_)))
 else none)
 else (bif (!f_.isSome) then (bif (inb i_ y_.length) then (bif (!(decide (e2.1 = v_) && (decide (e2.2.1 = v_1) && (decide (e2.2.2 = v_2) && true)))) then some false
 else (h_law09_LedgerHold_4 k m1 amount_ n_ x_ e_ y_ f_ t135 e1 as_))
 else none)
 else (h_law09_LedgerHold_4 k m1 amount_ n_ x_ e_ y_ f_ t135 e1 as_))) := by
  subst h_e1 h_e2 h_e3
  kernel_rfl
theorem h_law09_LedgerHold_5_z (k m1 : Nat) (amount_ : Int) (n_ : Int) (x_ : List (TAccount)) (e_ : Option Int) (y_ : List (TAccount)) (f_ : Option Int) (i_ : Int) (t135 : Int) (t136 : Int) (as_ : List (TAccount)) (w_ : Int) (w_1 : Int) (w_2 : Int) (v_ : Int) (v_1 : Int) (v_2 : Int) : h_law09_LedgerHold_5 k m1 0 amount_ n_ x_ e_ y_ f_ i_ t135 t136 as_ w_ w_1 w_2 v_ v_1 v_2 = none := by kernel_rfl
/-- hawala/hawalalaw09.LedgerPost -/
theorem f_law09_LedgerPost (k : Nat) (b_ : TBook) (ps_ : List (TPair)) (spoil_ : Bool) (raw_ : List (TEntry)) : CF (k + 1) ⟨[(false, .bool)], []⟩ n_law09_LedgerPost [inj KBook b_, inj (.slice KPair) ps_, inj .bool spoil_, inj (.slice KEntry) raw_] =
 (((CF k ⟨[(false, .bool)], []⟩ n_law09_awake []).bind fun (r : Bool) =>
 (bif (!r) then some false
 else ((CF k ⟨[(true, (.slice KAccount))], []⟩ n_law07_Book_Accounts [inj KBook b_]).bind fun (r_1 : (List (TAccount))) =>
 ((CF k ⟨[(true, (.slice KEntry))], []⟩ n_law08_Entries [inj (.slice KAccount) r_1, inj (.slice KPair) ps_]).bind fun (r_2 : (List (TEntry))) =>
 (bif spoil_ then (bif decide ((0 : Int) < (r_2.length : Int)) then (bif (inb (0 : Int) r_2.length) then (bif (inb (0 : Int) r_2.length) then (h_law09_LedgerPost k k raw_ b_.1 b_.2.1 b_.2.2 r_1 (List.set r_2 0 ((List.getD r_2 0 ((0 : Int), (0 : Int))).1, (w64 ((List.getD r_2 0 ((0 : Int), (0 : Int))).2 + (1 : Int))))))
 else none)
 else none)
 else (h_law09_LedgerPost k k raw_ b_.1 b_.2.1 b_.2.2 r_1 r_2))
 else (h_law09_LedgerPost k k raw_ b_.1 b_.2.1 b_.2.2 r_1 r_2)))))) : Option (Bool)) := by kernel_rfl
theorem h_law09_LedgerPost_s (k m : Nat) (raw_ : List (TEntry)) (b_ : List (Int)) (b_1 : List (Int)) (b_2 : List (Int)) (as_ : List (TAccount)) (es_ : List (TEntry)) : h_law09_LedgerPost k (m + 1) raw_ b_ b_1 b_2 as_ es_ =
 (h_law09_LedgerPost_1 k k ([es_, raw_].length : Int) (0 : Int) b_ b_1 b_2 as_ [es_, raw_]) := by kernel_rfl
theorem h_law09_LedgerPost_z (k  : Nat) (raw_ : List (TEntry)) (b_ : List (Int)) (b_1 : List (Int)) (b_2 : List (Int)) (as_ : List (TAccount)) (es_ : List (TEntry)) : h_law09_LedgerPost k 0 raw_ b_ b_1 b_2 as_ es_ = none := by kernel_rfl
theorem h_law09_LedgerPost_1_s (k m : Nat) (t40 : Int) (t41 : Int) (b_ : List (Int)) (b_1 : List (Int)) (b_2 : List (Int)) (as_ : List (TAccount)) (t39 : List (List (TEntry))) (e1 : (List (Int × Int))) (h_e1 : e1 = (List.getD t39 (Int.toNat t41) [])) : h_law09_LedgerPost_1 k (m + 1) t40 t41 b_ b_1 b_2 as_ t39 =
 (bif decide (t41 < t40) then (bif (inb t41 t39.length) then ((CF k ⟨[(false, (.slice KAccount)), (false, .err)], []⟩ n_ledger_Post [inj (.slice KAccount) as_, inj (.slice KEntry) e1]).bind fun (r : (List (TAccount)) × (Option Int)) =>
 ((CF k ⟨[(false, (.slice KAccount)), (false, (.int .i64))], []⟩ n_law09_post [inj (.slice KAccount) as_, inj (.slice KEntry) e1]).bind fun (r_1 : (List (TAccount)) × Int) =>
 ((CF k ⟨[(false, .bool)], []⟩ n_law07_Same [inj (.slice KAccount) r.1, inj (.slice KAccount) r_1.1]).bind fun (r_2 : Bool) =>
 (bif (!r_2) then some false
 else ((CF k ⟨[(false, (.int .i64))], []⟩ n_api_Number [inj .err r.2]).bind fun (r_3 : Int) =>
 (bif (!decide (r_3 = r_1.2)) then some false
 else (h_law09_LedgerPost_1 k m t40 (w64 (t41 + (1 : Int))) b_ b_1 b_2 as_ t39)))))))
 else none)
 else ((CF k ⟨[(true, (.slice KAccount))], []⟩ n_law07_Book_Accounts [inj KBook (b_, b_1, b_2)]).bind fun (r : (List (TAccount))) =>
 ((CF k ⟨[(false, .bool)], []⟩ n_law07_Same [inj (.slice KAccount) as_, inj (.slice KAccount) r]).bind fun (r_1 : Bool) =>
 some r_1))) := by
  subst h_e1
  kernel_rfl
theorem h_law09_LedgerPost_1_z (k  : Nat) (t40 : Int) (t41 : Int) (b_ : List (Int)) (b_1 : List (Int)) (b_2 : List (Int)) (as_ : List (TAccount)) (t39 : List (List (TEntry))) : h_law09_LedgerPost_1 k 0 t40 t41 b_ b_1 b_2 as_ t39 = none := by kernel_rfl
/-- hawala/hawalalaw09.LedgerBack -/
theorem f_law09_LedgerBack (k : Nat) (b_ : TBook) (ps_ : List (TPair)) (k_ : Int) (amount_ : Int) : CF (k + 1) ⟨[(false, .bool)], []⟩ n_law09_LedgerBack [inj KBook b_, inj (.slice KPair) ps_, inj (.int .u8) k_, inj (.int .u16) amount_] =
 (((CF k ⟨[(false, .bool)], []⟩ n_law09_awake []).bind fun (r : Bool) =>
 (bif (!r) then some false
 else ((CF k ⟨[(true, (.slice KAccount))], []⟩ n_law07_Book_Accounts [inj KBook b_]).bind fun (r_1 : (List (TAccount))) =>
 ((CF k ⟨[(true, (.slice KEntry))], []⟩ n_law08_Entries [inj (.slice KAccount) r_1, inj (.slice KPair) ps_]).bind fun (r_2 : (List (TEntry))) =>
 ((CF k ⟨[(false, (.slice KAccount)), (false, .err)], []⟩ n_ledger_Post [inj (.slice KAccount) r_1, inj (.slice KEntry) r_2]).bind fun (r_3 : (List (TAccount)) × (Option Int)) =>
 (bif (!r_3.2.isSome) then ((CF k ⟨[(false, (.slice KEntry))], []⟩ n_entry_Back [inj (.slice KEntry) r_2]).bind fun (r_4 : (List (TEntry))) =>
 ((CF k ⟨[(false, (.slice KAccount)), (false, .err)], []⟩ n_ledger_Post [inj (.slice KAccount) r_3.1, inj (.slice KEntry) r_4]).bind fun (r_5 : (List (TAccount)) × (Option Int)) =>
 (bif r_5.2.isSome then some false
 else ((CF k ⟨[(false, .bool)], []⟩ n_law07_Same [inj (.slice KAccount) r_5.1, inj (.slice KAccount) r_1]).bind fun (r_6 : Bool) =>
 (bif (!r_6) then some false
 else (h_law09_LedgerBack k k k_ amount_ r_1))))))
 else (h_law09_LedgerBack k k k_ amount_ r_1))))))) : Option (Bool)) := by kernel_rfl
theorem h_law09_LedgerBack_s (k m : Nat) (k_ : Int) (amount_ : Int) (as_ : List (TAccount)) (e1 : Int) (h_e1 : e1 = (w64 ((9 : Int) + (w64 (Int.tmod k_ (8 : Int)))))) : h_law09_LedgerBack k (m + 1) k_ amount_ as_ =
 ((CF k ⟨[(false, (.slice KAccount)), (false, .err)], []⟩ n_ledger_Hold [inj (.slice KAccount) as_, inj (.int .i64) e1, inj (.int .i64) (w64 amount_)]).bind fun (r : (List (TAccount)) × (Option Int)) =>
 (bif (!r.2.isSome) then ((CF k ⟨[(false, (.slice KAccount)), (false, .err)], []⟩ n_ledger_Release [inj (.slice KAccount) r.1, inj (.int .i64) e1, inj (.int .i64) (w64 amount_)]).bind fun (r_1 : (List (TAccount)) × (Option Int)) =>
 (bif (!r_1.2.isSome) then ((CF k ⟨[(false, .bool)], []⟩ n_law07_Same [inj (.slice KAccount) r_1.1, inj (.slice KAccount) as_]).bind fun (r_2 : Bool) =>
 some r_2)
 else some false))
 else some true)) := by
  subst h_e1
  kernel_rfl
theorem h_law09_LedgerBack_z (k  : Nat) (k_ : Int) (amount_ : Int) (as_ : List (TAccount)) : h_law09_LedgerBack k 0 k_ amount_ as_ = none := by kernel_rfl
/-- hawala/hawalalaw09.LedgerRight -/
theorem f_law09_LedgerRight (k : Nat) (b_ : TBook) (ps_ : List (TPair)) (k_ : Int) (amount_ : Int) : CF (k + 1) ⟨[(false, .bool)], []⟩ n_law09_LedgerRight [inj KBook b_, inj (.slice KPair) ps_, inj (.int .u8) k_, inj (.int .u16) amount_] =
 (((CF k ⟨[(false, .bool)], []⟩ n_law09_awake []).bind fun (r : Bool) =>
 (bif (!r) then some false
 else ((CF k ⟨[(true, (.slice KAccount))], []⟩ n_law07_Book_Accounts [inj KBook b_]).bind fun (r_1 : (List (TAccount))) =>
 (h_law09_LedgerRight k k k_ amount_ ps_ (ps_.length : Int) (0 : Int) b_.1 b_.2.1 b_.2.2 r_1)))) : Option (Bool)) := by kernel_rfl
theorem h_law09_LedgerRight_s (k m : Nat) (k_ : Int) (amount_ : Int) (t20 : List (TPair)) (t21 : Int) (t22 : Int) (b_ : List (Int)) (b_1 : List (Int)) (b_2 : List (Int)) (as_ : List (TAccount)) : h_law09_LedgerRight k (m + 1) k_ amount_ t20 t21 t22 b_ b_1 b_2 as_ =
 (bif decide (t22 < t21) then (bif (inb t22 t20.length) then ((CF k ⟨[(true, (.slice KEntry))], []⟩ n_law08_Entries [inj (.slice KAccount) as_, inj (.slice KPair) [(List.getD t20 (Int.toNat t22) ((0 : Int), (0 : Int)))]]).bind fun (r : (List (TEntry))) =>
 ((CF k ⟨[(false, (.slice KAccount)), (false, .err)], []⟩ n_ledger_Post [inj (.slice KAccount) as_, inj (.slice KEntry) r]).bind fun (r_1 : (List (TAccount)) × (Option Int)) =>
 (bif (!r_1.2.isSome) then (h_law09_LedgerRight_1 k m k k_ amount_ r_1.1 t20 t21 t22 b_ b_1 b_2 as_)
 else (h_law09_LedgerRight_2 k m k k_ amount_ t20 t21 t22 b_ b_1 b_2 as_))))
 else none)
 else ((CF k ⟨[(true, (.slice KAccount))], []⟩ n_law07_Book_Accounts [inj KBook (b_, b_1, b_2)]).bind fun (r : (List (TAccount))) =>
 some (decide ((as_.length : Int) = (r.length : Int))))) := by kernel_rfl
theorem h_law09_LedgerRight_z (k  : Nat) (k_ : Int) (amount_ : Int) (t20 : List (TPair)) (t21 : Int) (t22 : Int) (b_ : List (Int)) (b_1 : List (Int)) (b_2 : List (Int)) (as_ : List (TAccount)) : h_law09_LedgerRight k 0 k_ amount_ t20 t21 t22 b_ b_1 b_2 as_ = none := by kernel_rfl
theorem h_law09_LedgerRight_1_s (k m1 m : Nat) (k_ : Int) (amount_ : Int) (as_ : List (TAccount)) (t20 : List (TPair)) (t21 : Int) (t22 : Int) (b_ : List (Int)) (b_1 : List (Int)) (b_2 : List (Int)) (as_1 : List (TAccount)) : h_law09_LedgerRight_1 k m1 (m + 1) k_ amount_ as_ t20 t21 t22 b_ b_1 b_2 as_1 =
 ((CF k ⟨[(false, (.slice KAccount)), (false, .err)], []⟩ n_ledger_Hold [inj (.slice KAccount) as_, inj (.int .i64) (w64 ((9 : Int) + (w64 (Int.tmod k_ (8 : Int))))), inj (.int .i64) (w64 amount_)]).bind fun (r : (List (TAccount)) × (Option Int)) =>
 (bif (!r.2.isSome) then (h_law09_LedgerRight_3 k m1 k k_ amount_ r.1 t20 t21 t22 b_ b_1 b_2 as_1)
 else (h_law09_LedgerRight_3 k m1 k k_ amount_ as_ t20 t21 t22 b_ b_1 b_2 as_1))) := by kernel_rfl
theorem h_law09_LedgerRight_1_z (k m1 : Nat) (k_ : Int) (amount_ : Int) (as_ : List (TAccount)) (t20 : List (TPair)) (t21 : Int) (t22 : Int) (b_ : List (Int)) (b_1 : List (Int)) (b_2 : List (Int)) (as_1 : List (TAccount)) : h_law09_LedgerRight_1 k m1 0 k_ amount_ as_ t20 t21 t22 b_ b_1 b_2 as_1 = none := by kernel_rfl
theorem h_law09_LedgerRight_2_s (k m1 m : Nat) (k_ : Int) (amount_ : Int) (t20 : List (TPair)) (t21 : Int) (t22 : Int) (b_ : List (Int)) (b_1 : List (Int)) (b_2 : List (Int)) (as_ : List (TAccount)) : h_law09_LedgerRight_2 k m1 (m + 1) k_ amount_ t20 t21 t22 b_ b_1 b_2 as_ =
 ((CF k ⟨[(false, (.slice KAccount)), (false, .err)], []⟩ n_ledger_Hold [inj (.slice KAccount) as_, inj (.int .i64) (w64 ((9 : Int) + (w64 (Int.tmod k_ (8 : Int))))), inj (.int .i64) (w64 amount_)]).bind fun (r : (List (TAccount)) × (Option Int)) =>
 (bif (!r.2.isSome) then (h_law09_LedgerRight_3 k m1 k k_ amount_ r.1 t20 t21 t22 b_ b_1 b_2 as_)
 else (h_law09_LedgerRight_4 k m1 k k_ amount_ t20 t21 t22 b_ b_1 b_2 as_))) := by kernel_rfl
theorem h_law09_LedgerRight_2_z (k m1 : Nat) (k_ : Int) (amount_ : Int) (t20 : List (TPair)) (t21 : Int) (t22 : Int) (b_ : List (Int)) (b_1 : List (Int)) (b_2 : List (Int)) (as_ : List (TAccount)) : h_law09_LedgerRight_2 k m1 0 k_ amount_ t20 t21 t22 b_ b_1 b_2 as_ = none := by kernel_rfl
theorem h_law09_LedgerRight_3_s (k m1 m : Nat) (k_ : Int) (amount_ : Int) (as_ : List (TAccount)) (t20 : List (TPair)) (t21 : Int) (t22 : Int) (b_ : List (Int)) (b_1 : List (Int)) (b_2 : List (Int)) (as_1 : List (TAccount)) : h_law09_LedgerRight_3 k m1 (m + 1) k_ amount_ as_ t20 t21 t22 b_ b_1 b_2 as_1 =
 ((CF k ⟨[(false, .bool)], []⟩ n_chart_Right [inj (.slice KAccount) as_]).bind fun (r : Bool) =>
 (bif (!r) then some false
 else ((CF k ⟨[(false, KAccount)], []⟩ n_chart_Sums [inj (.slice KAccount) as_]).bind fun (r_1 : TAccount) =>
 (bif (!(decide (r_1.1 = (0 : Int)) && (decide (r_1.2.1 = (0 : Int)) && (decide (r_1.2.2 = (0 : Int)) && true)))) then some false
 else (h_law09_LedgerRight_5 k m1 k_ amount_ as_ t20 t21 (w64 (t22 + (1 : Int))) b_ b_1 b_2 as_1))))) := by kernel_rfl
theorem h_law09_LedgerRight_3_z (k m1 : Nat) (k_ : Int) (amount_ : Int) (as_ : List (TAccount)) (t20 : List (TPair)) (t21 : Int) (t22 : Int) (b_ : List (Int)) (b_1 : List (Int)) (b_2 : List (Int)) (as_1 : List (TAccount)) : h_law09_LedgerRight_3 k m1 0 k_ amount_ as_ t20 t21 t22 b_ b_1 b_2 as_1 = none := by kernel_rfl
theorem h_law09_LedgerRight_4_s (k m1 m : Nat) (k_ : Int) (amount_ : Int) (t20 : List (TPair)) (t21 : Int) (t22 : Int) (b_ : List (Int)) (b_1 : List (Int)) (b_2 : List (Int)) (as_ : List (TAccount)) : h_law09_LedgerRight_4 k m1 (m + 1) k_ amount_ t20 t21 t22 b_ b_1 b_2 as_ =
 ((CF k ⟨[(false, .bool)], []⟩ n_chart_Right [inj (.slice KAccount) as_]).bind fun (r : Bool) =>
 (bif (!r) then some false
 else ((CF k ⟨[(false, KAccount)], []⟩ n_chart_Sums [inj (.slice KAccount) as_]).bind fun (r_1 : TAccount) =>
 (bif (!(decide (r_1.1 = (0 : Int)) && (decide (r_1.2.1 = (0 : Int)) && (decide (r_1.2.2 = (0 : Int)) && true)))) then some false
 else (h_law09_LedgerRight_6 k m1 k_ amount_ t20 t21 (w64 (t22 + (1 : Int))) b_ b_1 b_2 as_))))) := by kernel_rfl
theorem h_law09_LedgerRight_4_z (k m1 : Nat) (k_ : Int) (amount_ : Int) (t20 : List (TPair)) (t21 : Int) (t22 : Int) (b_ : List (Int)) (b_1 : List (Int)) (b_2 : List (Int)) (as_ : List (TAccount)) : h_law09_LedgerRight_4 k m1 0 k_ amount_ t20 t21 t22 b_ b_1 b_2 as_ = none := by kernel_rfl
theorem h_law09_LedgerRight_5_s (k m : Nat) (k_ : Int) (amount_ : Int) (as_ : List (TAccount)) (t20 : List (TPair)) (t21 : Int) (t22 : Int) (b_ : List (Int)) (b_1 : List (Int)) (b_2 : List (Int)) (as_1 : List (TAccount)) : h_law09_LedgerRight_5 k (m + 1) k_ amount_ as_ t20 t21 t22 b_ b_1 b_2 as_1 =
 (bif decide (t22 < t21) then (bif (inb t22 t20.length) then ((CF k ⟨[(true, (.slice KEntry))], []⟩ n_law08_Entries [inj (.slice KAccount) as_, inj (.slice KPair) [(List.getD t20 (Int.toNat t22) ((0 : Int), (0 : Int)))]]).bind fun (r : (List (TEntry))) =>
 ((CF k ⟨[(false, (.slice KAccount)), (false, .err)], []⟩ n_ledger_Post [inj (.slice KAccount) as_, inj (.slice KEntry) r]).bind fun (r_1 : (List (TAccount)) × (Option Int)) =>
 (bif (!r_1.2.isSome) then (h_law09_LedgerRight_1 k m k k_ amount_ r_1.1 t20 t21 t22 b_ b_1 b_2 as_1)
 else (h_law09_LedgerRight_1 k m k k_ amount_ as_ t20 t21 t22 b_ b_1 b_2 as_1))))
 else none)
 else ((CF k ⟨[(true, (.slice KAccount))], []⟩ n_law07_Book_Accounts [inj KBook (b_, b_1, b_2)]).bind fun (r : (List (TAccount))) =>
 some (decide ((as_.length : Int) = (r.length : Int))))) := by kernel_rfl
theorem h_law09_LedgerRight_5_z (k  : Nat) (k_ : Int) (amount_ : Int) (as_ : List (TAccount)) (t20 : List (TPair)) (t21 : Int) (t22 : Int) (b_ : List (Int)) (b_1 : List (Int)) (b_2 : List (Int)) (as_1 : List (TAccount)) : h_law09_LedgerRight_5 k 0 k_ amount_ as_ t20 t21 t22 b_ b_1 b_2 as_1 = none := by kernel_rfl
theorem h_law09_LedgerRight_6_s (k m : Nat) (k_ : Int) (amount_ : Int) (t20 : List (TPair)) (t21 : Int) (t22 : Int) (b_ : List (Int)) (b_1 : List (Int)) (b_2 : List (Int)) (as_ : List (TAccount)) : h_law09_LedgerRight_6 k (m + 1) k_ amount_ t20 t21 t22 b_ b_1 b_2 as_ =
 (bif decide (t22 < t21) then (bif (inb t22 t20.length) then ((CF k ⟨[(true, (.slice KEntry))], []⟩ n_law08_Entries [inj (.slice KAccount) as_, inj (.slice KPair) [(List.getD t20 (Int.toNat t22) ((0 : Int), (0 : Int)))]]).bind fun (r : (List (TEntry))) =>
 ((CF k ⟨[(false, (.slice KAccount)), (false, .err)], []⟩ n_ledger_Post [inj (.slice KAccount) as_, inj (.slice KEntry) r]).bind fun (r_1 : (List (TAccount)) × (Option Int)) =>
 (bif (!r_1.2.isSome) then (h_law09_LedgerRight_1 k m k k_ amount_ r_1.1 t20 t21 t22 b_ b_1 b_2 as_)
 else (h_law09_LedgerRight_2 k m k k_ amount_ t20 t21 t22 b_ b_1 b_2 as_))))
 else none)
 else ((CF k ⟨[(true, (.slice KAccount))], []⟩ n_law07_Book_Accounts [inj KBook (b_, b_1, b_2)]).bind fun (r : (List (TAccount))) =>
 some (decide ((as_.length : Int) = (r.length : Int))))) := by kernel_rfl
theorem h_law09_LedgerRight_6_z (k  : Nat) (k_ : Int) (amount_ : Int) (t20 : List (TPair)) (t21 : Int) (t22 : Int) (b_ : List (Int)) (b_1 : List (Int)) (b_2 : List (Int)) (as_ : List (TAccount)) : h_law09_LedgerRight_6 k 0 k_ amount_ t20 t21 t22 b_ b_1 b_2 as_ = none := by kernel_rfl
/-- hawala/hawalalaw09.LedgerSpend -/
theorem f_law09_LedgerSpend (k : Nat) (b_ : TBook) (from_ : Int) (to_ : Int) (amount_ : Int) (less_ : Int) : CF (k + 1) ⟨[(false, .bool)], []⟩ n_law09_LedgerSpend [inj KBook b_, inj (.int .u8) from_, inj (.int .u8) to_, inj (.int .u16) amount_, inj (.int .u16) less_] =
 (((CF k ⟨[(false, .bool)], []⟩ n_law09_awake []).bind fun (r : Bool) =>
 (bif (!r) then some false
 else ((CF k ⟨[(true, (.slice KAccount))], []⟩ n_law07_Book_Accounts [inj KBook b_]).bind fun (r_1 : (List (TAccount))) =>
 (bif (!decide ((r_1.length : Int) = (0 : Int))) then (bif (!decide ((r_1.length : Int) = (0 : Int))) then ((CF k ⟨[(false, (.slice KEntry)), (false, .err)], []⟩ n_entry_Move [inj (.slice KAccount) r_1, inj (.int .i64) (Int.tmod (w64 from_) (r_1.length : Int)), inj (.int .i64) (Int.tmod (w64 to_) (r_1.length : Int)), inj (.int .i64) (w64 amount_)]).bind fun (r_2 : (List (TEntry)) × (Option Int)) =>
 ((CF k ⟨[(false, (.slice KAccount)), (false, .err)], []⟩ n_ledger_Spend [inj (.slice KAccount) r_1, inj (.int .i64) (w64 less_), inj (.slice KEntry) r_2.1]).bind fun (r_3 : (List (TAccount)) × (Option Int)) =>
 (bif r_2.2.isSome then (bif decide ((r_3.1.length : Int) = (0 : Int)) then ((CF k ⟨[(false, (.int .i64))], []⟩ n_api_Number [inj .err r_3.2]).bind fun (r_4 : Int) =>
 some (decide (r_4 = (13 : Int))))
 else some false)
 else ((CF k ⟨[(false, (.slice KAccount)), (false, .err)], []⟩ n_ledger_Release [inj (.slice KAccount) r_1, inj (.int .i64) (Int.tmod (w64 from_) (r_1.length : Int)), inj (.int .i64) (w64 less_)]).bind fun (r_4 : (List (TAccount)) × (Option Int)) =>
 (bif r_4.2.isSome then (bif decide ((r_3.1.length : Int) = (0 : Int)) then ((CF k ⟨[(false, (.int .i64))], []⟩ n_api_Number [inj .err r_3.2]).bind fun (r_5 : Int) =>
 ((CF k ⟨[(false, (.int .i64))], []⟩ n_api_Number [inj .err r_4.2]).bind fun (r_6 : Int) =>
 some (decide (r_5 = r_6))))
 else some false)
 else ((CF k ⟨[(false, (.slice KAccount)), (false, (.int .i64))], []⟩ n_law09_post [inj (.slice KAccount) r_4.1, inj (.slice KEntry) r_2.1]).bind fun (r_5 : (List (TAccount)) × Int) =>
 ((CF k ⟨[(false, .bool)], []⟩ n_law07_Same [inj (.slice KAccount) r_3.1, inj (.slice KAccount) r_5.1]).bind fun (r_6 : Bool) =>
 (bif r_6 then ((CF k ⟨[(false, (.int .i64))], []⟩ n_api_Number [inj .err r_3.2]).bind fun (r_7 : Int) =>
 some (decide (r_7 = r_5.2)))
 else some false))))))))
 else none)
 else none)))) : Option (Bool)) := by kernel_rfl
/-- hawala/hawalalaw09.awake -/
theorem f_law09_awake (k : Nat) : CF (k + 1) ⟨[(false, .bool)], []⟩ n_law09_awake [] =
 (((CF k ⟨[(true, (.slice KAccount))], []⟩ n_law07_Book_Accounts [inj KBook ([(0 : Int)], [(50 : Int)], [])]).bind fun (r : (List (TAccount))) =>
 ((CF k ⟨[(false, (.slice KAccount)), (false, .err)], []⟩ n_ledger_Hold [inj (.slice KAccount) r, inj (.int .i64) (9 : Int), inj (.int .i64) (30 : Int)]).bind fun (r_1 : (List (TAccount)) × (Option Int)) =>
 ((CF k ⟨[(false, (.slice KAccount)), (false, .err)], []⟩ n_ledger_Hold [inj (.slice KAccount) r_1.1, inj (.int .i64) (9 : Int), inj (.int .i64) (30 : Int)]).bind fun (r_2 : (List (TAccount)) × (Option Int)) =>
 (bif (!r_1.2.isSome) then (bif decide ((r_1.1.length : Int) = (10 : Int)) then (bif (inb (9 : Int) r_1.1.length) then (bif decide ((List.getD r_1.1 9 ((0 : Int), (0 : Int), (0 : Int))).2.2 = (30 : Int)) then ((CF k ⟨[(false, (.int .i64))], []⟩ n_api_Number [inj .err r_2.2]).bind fun (r_3 : Int) =>
 some (decide (r_3 = (3 : Int))))
 else some false)
 else none)
 else some false)
 else some false)))) : Option (Bool)) := by kernel_rfl
/-- (hawala/hawalalaw07.Book).Accounts -/
theorem f_law07_Book_Accounts (k : Nat) (b_ : TBook) : CF (k + 1) ⟨[(true, (.slice KAccount))], []⟩ n_law07_Book_Accounts [inj KBook b_] =
 ((h_law07_Book_Accounts k k (9 : Int) (0 : Int) b_.1 b_.2.1 b_.2.2 (List.replicate 9 ((0 : Int), (0 : Int), (0 : Int)))) : Option ((List (TAccount)))) := by kernel_rfl
theorem h_law07_Book_Accounts_s (k m : Nat) (t10 : Int) (t11 : Int) (b_ : List (Int)) (b_1 : List (Int)) (b_2 : List (Int)) (as_ : List (TAccount)) : h_law07_Book_Accounts k (m + 1) t10 t11 b_ b_1 b_2 as_ =
 (bif decide (t11 < t10) then (bif (inb t11 as_.length) then (h_law07_Book_Accounts k m t10 (w64 (t11 + (1 : Int))) b_ b_1 b_2 (List.set as_ (Int.toNat t11) ((w64 (Int.tdiv t11 (3 : Int))), (List.getD as_ (Int.toNat t11) ((0 : Int), (0 : Int), (0 : Int))).2)))
 else none)
 else (h_law07_Book_Accounts_1 k k b_ (b_.length : Int) (0 : Int) b_ b_1 b_2 as_)) := by kernel_rfl
theorem h_law07_Book_Accounts_z (k  : Nat) (t10 : Int) (t11 : Int) (b_ : List (Int)) (b_1 : List (Int)) (b_2 : List (Int)) (as_ : List (TAccount)) : h_law07_Book_Accounts k 0 t10 t11 b_ b_1 b_2 as_ = none := by kernel_rfl
theorem h_law07_Book_Accounts_1_s (k m : Nat) (t22 : List (Int)) (t23 : Int) (t24 : Int) (b_ : List (Int)) (b_1 : List (Int)) (b_2 : List (Int)) (as_ : List (TAccount)) (e1 : Int) (h_e1 : e1 = (b_2.length : Int)) (e2 : Int) (h_e2 : e2 = (w64 (t24 + (1 : Int)))) (e3 : Int) (h_e3 : e3 = (w64 (Int.tmod (List.getD t22 (Int.toNat t24) (0 : Int)) (3 : Int)))) (e4 : Int) (h_e4 : e4 = (w64 (Int.tmod (List.getD b_2 (Int.toNat t24) (0 : Int)) (101 : Int)))) (e5 : Int) (h_e5 : e5 = (w64 (Int.tmod (List.getD b_1 (Int.toNat t24) (0 : Int)) (100000 : Int)))) (e6 : Int) (h_e6 : e6 = (w64 ((3 : Int) * e3))) (e7 : (List (Int × (Int × Int)))) (h_e7 : e7 = [(e3, (0 : Int), (0 : Int))]) (e8 : (Int × (Int × Int))) (h_e8 : e8 = (List.getD as_ (Int.toNat e6) ((0 : Int), (0 : Int), (0 : Int)))) (e9 : (List (Int × (Int × Int)))) (h_e9 : e9 = [(e3, e5, (0 : Int))]) (e10 : (List (Int × (Int × Int)))) (h_e10 : e10 = [(e3, (0 : Int), (w64 (Int.tdiv (w64 ((0 : Int) * e4)) (100 : Int))))]) (e11 : (List (Int × (Int × Int)))) (h_e11 : e11 = [(e3, e5, (w64 (Int.tdiv (w64 (e5 * e4)) (100 : Int))))]) (e12 : (List (Int × (Int × Int)))) (h_e12 : e12 = (List.set as_ (Int.toNat e6) (e8.1, (w64 (e8.2.1 - (0 : Int))), e8.2.2))) (e13 : (List (Int × (Int × Int)))) (h_e13 : e13 = (List.set as_ (Int.toNat e6) (e8.1, (w64 (e8.2.1 - e5)), e8.2.2))) : h_law07_Book_Accounts_1 k (m + 1) t22 t23 t24 b_ b_1 b_2 as_ =
 (bif decide (t24 < t23) then (bif (inb t24 t22.length) then (bif decide (t24 = (8 : Int)) then some as_
 else (bif decide (t24 < (b_1.length : Int)) then (bif (inb t24 b_1.length) then (bif decide (t24 < e1) then (bif (inb t24 b_2.length) then (bif (inb e6 as_.length) then (bif (inb e6 as_.length) then (bif decide (((e13.length + e11.length) * 24) ≤ 211106232532992) then (h_law07_Book_Accounts_1 k m t22 t23 e2 b_ b_1 b_2 (e13 ++ e11))
 else none)
 else none)
 else none)
 else none)
 else (bif (inb e6 as_.length) then (bif (inb e6 as_.length) then (bif decide (((e13.length + e9.length) * 24) ≤ 211106232532992) then (h_law07_Book_Accounts_1 k m t22 t23 e2 b_ b_1 b_2 (e13 ++ e9))
 else none)
 else none)
 else none))
 else none)
 else (bif decide (t24 < e1) then (bif (inb t24 b_2.length) then (bif (inb e6 as_.length) then (bif (inb e6 as_.length) then (bif decide (((e12.length + e10.length) * 24) ≤ 211106232532992) then (h_law07_Book_Accounts_1 k m t22 t23 e2 b_ b_1 b_2 (e12 ++ e10))
 else none)
 else none)
 else none)
 else none)
 else (bif (inb e6 as_.length) then (bif (inb e6 as_.length) then (bif decide (((e12.length + e7.length) * 24) ≤ 211106232532992) then (h_law07_Book_Accounts_1 k m t22 t23 e2 b_ b_1 b_2 (e12 ++ e7))
 else none)
 else none)
 else none))))
 else none)
 else some as_) := by
  subst h_e1 h_e2 h_e3 h_e4 h_e5 h_e6 h_e7 h_e8 h_e9 h_e10 h_e11 h_e12 h_e13
  kernel_rfl
theorem h_law07_Book_Accounts_1_z (k  : Nat) (t22 : List (Int)) (t23 : Int) (t24 : Int) (b_ : List (Int)) (b_1 : List (Int)) (b_2 : List (Int)) (as_ : List (TAccount)) : h_law07_Book_Accounts_1 k 0 t22 t23 t24 b_ b_1 b_2 as_ = none := by kernel_rfl
/-- hawala/ledger.Hold -/
theorem f_ledger_Hold (k : Nat) (as_ : List (TAccount)) (k_ : Int) (amount_ : Int) : CF (k + 1) ⟨[(false, (.slice KAccount)), (false, .err)], []⟩ n_ledger_Hold [inj (.slice KAccount) as_, inj (.int .i64) k_, inj (.int .i64) amount_] =
 (((CF k ⟨[(false, .bool)], []⟩ n_chart_IsClient [inj (.slice KAccount) as_, inj (.int .i64) k_]).bind fun (r : Bool) =>
 (bif (!r) then some ([], some (2 : Int))
 else ((CF k ⟨[(false, .bool)], []⟩ n_money_Amount [inj (.int .i64) amount_]).bind fun (r_1 : Bool) =>
 (bif (!r_1) then some ([], some (1 : Int))
 else (bif (inb k_ as_.length) then ((CF k ⟨[(false, (.int .i64))], []⟩ n_chart_Free [inj KAccount (List.getD as_ (Int.toNat k_) ((0 : Int), (0 : Int), (0 : Int)))]).bind fun (r_2 : Int) =>
 (bif decide (r_2 < amount_) then some ([], some (3 : Int))
 else ((CF k ⟨[(true, (.slice KAccount))], []⟩ n_chart_Clone [inj (.slice KAccount) as_]).bind fun (r_3 : (List (TAccount))) =>
 (bif (inb k_ r_3.length) then (bif (inb k_ r_3.length) then some ((List.set r_3 (Int.toNat k_) ((List.getD r_3 (Int.toNat k_) ((0 : Int), (0 : Int), (0 : Int))).1, (List.getD r_3 (Int.toNat k_) ((0 : Int), (0 : Int), (0 : Int))).2.1, (w64 ((List.getD r_3 (Int.toNat k_) ((0 : Int), (0 : Int), (0 : Int))).2.2 + amount_)))), none)
 else none)
 else none))))
 else none))))) : Option ((List (TAccount)) × (Option Int))) := by kernel_rfl
/-- hawala/ledger.Release -/
theorem f_ledger_Release (k : Nat) (as_ : List (TAccount)) (k_ : Int) (amount_ : Int) : CF (k + 1) ⟨[(false, (.slice KAccount)), (false, .err)], []⟩ n_ledger_Release [inj (.slice KAccount) as_, inj (.int .i64) k_, inj (.int .i64) amount_] =
 (((CF k ⟨[(false, .bool)], []⟩ n_chart_IsClient [inj (.slice KAccount) as_, inj (.int .i64) k_]).bind fun (r : Bool) =>
 (bif (!r) then some ([], some (2 : Int))
 else ((CF k ⟨[(false, .bool)], []⟩ n_money_Amount [inj (.int .i64) amount_]).bind fun (r_1 : Bool) =>
 (bif (!r_1) then some ([], some (1 : Int))
 else (bif (inb k_ as_.length) then (bif decide ((List.getD as_ (Int.toNat k_) ((0 : Int), (0 : Int), (0 : Int))).2.2 < amount_) then some ([], some (6 : Int))
 else ((CF k ⟨[(true, (.slice KAccount))], []⟩ n_chart_Clone [inj (.slice KAccount) as_]).bind fun (r_2 : (List (TAccount))) =>
 (bif (inb k_ r_2.length) then (bif (inb k_ r_2.length) then some ((List.set r_2 (Int.toNat k_) ((List.getD r_2 (Int.toNat k_) ((0 : Int), (0 : Int), (0 : Int))).1, (List.getD r_2 (Int.toNat k_) ((0 : Int), (0 : Int), (0 : Int))).2.1, (w64 ((List.getD r_2 (Int.toNat k_) ((0 : Int), (0 : Int), (0 : Int))).2.2 - amount_)))), none)
 else none)
 else none)))
 else none))))) : Option ((List (TAccount)) × (Option Int))) := by kernel_rfl
/-- hawala/api.Number -/
theorem f_api_Number (k : Nat) (e_ : Option Int) : CF (k + 1) ⟨[(false, (.int .i64))], []⟩ n_api_Number [inj .err e_] =
 (some (e_.getD (0 : Int)) : Option (Int)) := by kernel_rfl
/-- hawala/hawalalaw08.Entries -/
theorem f_law08_Entries (k : Nat) (as_ : List (TAccount)) (ps_ : List (TPair)) : CF (k + 1) ⟨[(true, (.slice KEntry))], []⟩ n_law08_Entries [inj (.slice KAccount) as_, inj (.slice KPair) ps_] =
 ((h_law08_Entries k k as_ ps_ (ps_.length : Int) (0 : Int) [] (0 : Int) (0 : Int) (0 : Int)) : Option ((List (TEntry)))) := by kernel_rfl
theorem h_law08_Entries_s (k m : Nat) (as_ : List (TAccount)) (t12 : List (TPair)) (t13 : Int) (t14 : Int) (out_ : List (TEntry)) (sums_ : Int) (sums_1 : Int) (sums_2 : Int) (e1 : Int) (h_e1 : e1 = (as_.length : Int)) (e2 : (Int × Int)) (h_e2 : e2 = (List.getD t12 (Int.toNat t14) ((0 : Int), (0 : Int)))) (e3 : Int) (h_e3 : e3 = (Int.tmod (w64 e2.2) (50000 : Int))) (e4 : Int) (h_e4 : e4 = (Int.tmod (w64 e2.1) e1)) (e5 : Int) (h_e5 : e5 = (List.getD as_ (Int.toNat e4) ((0 : Int), (0 : Int), (0 : Int))).1) (e6 : Int) (h_e6 : e6 = (w64 ((selInt e5 [sums_, sums_1, sums_2]) + e3))) : h_law08_Entries k (m + 1) as_ t12 t13 t14 out_ sums_ sums_1 sums_2 =
 (bif decide (t14 < t13) then (bif (inb t14 t12.length) then (bif decide (t14 = (6 : Int)) then (h_law08_Entries_1 k k sums_ sums_1 sums_2 (0 : Int) out_)
 else (bif (!decide (e1 = (0 : Int))) then (bif (inb e4 as_.length) then (bif (inb e5 3) then (bif (inb e5 3) then (bif decide (((out_.length + [(e4, e3)].length) * 16) ≤ 211106232532992) then (h_law08_Entries k m as_ t12 t13 (w64 (t14 + (1 : Int))) (out_ ++ [(e4, e3)]) (bif decide (e5 = (0 : Int)) then e6
 else sums_) (bif decide (e5 = (1 : Int)) then e6
 else sums_1) (bif decide (e5 = (2 : Int)) then e6
 else sums_2))
 else none)
 else none)
 else none)
 else none)
 else none))
 else none)
 else (h_law08_Entries_1 k k sums_ sums_1 sums_2 (0 : Int) out_)) := by
  subst h_e1 h_e2 h_e3 h_e4 h_e5 h_e6
  kernel_rfl
theorem h_law08_Entries_z (k  : Nat) (as_ : List (TAccount)) (t12 : List (TPair)) (t13 : Int) (t14 : Int) (out_ : List (TEntry)) (sums_ : Int) (sums_1 : Int) (sums_2 : Int) : h_law08_Entries k 0 as_ t12 t13 t14 out_ sums_ sums_1 sums_2 = none := by kernel_rfl
theorem h_law08_Entries_1_s (k m : Nat) (t49 : Int) (t491 : Int) (t492 : Int) (t50 : Int) (out_ : List (TEntry)) (e1 : Int) (h_e1 : e1 = (w64 (t50 + (1 : Int)))) (e2 : Int) (h_e2 : e2 = (selInt t50 [t49, t491, t492])) (e3 : (List (Int × Int))) (h_e3 : e3 = [((w64 ((3 : Int) * t50)), (w64 ((0 : Int) - e2)))]) : h_law08_Entries_1 k (m + 1) t49 t491 t492 t50 out_ =
 (bif decide (t50 < (3 : Int)) then (bif (inb t50 3) then (bif (!decide (e2 = (0 : Int))) then (bif decide (((out_.length + e3.length) * 16) ≤ 211106232532992) then (h_law08_Entries_1 k m t49 t491 t492 e1 (out_ ++ e3))
 else none)
 else (h_law08_Entries_1 k m t49 t491 t492 e1 out_))
 else none)
 else some out_) := by
  subst h_e1 h_e2 h_e3
  kernel_rfl
theorem h_law08_Entries_1_z (k  : Nat) (t49 : Int) (t491 : Int) (t492 : Int) (t50 : Int) (out_ : List (TEntry)) : h_law08_Entries_1 k 0 t49 t491 t492 t50 out_ = none := by kernel_rfl
/-- hawala/ledger.Post -/
theorem f_ledger_Post (k : Nat) (as_ : List (TAccount)) (es_ : List (TEntry)) : CF (k + 1) ⟨[(false, (.slice KAccount)), (false, .err)], []⟩ n_ledger_Post [inj (.slice KAccount) as_, inj (.slice KEntry) es_] =
 (((CF k ⟨[(false, .bool)], []⟩ n_entry_Balanced [inj (.slice KAccount) as_, inj (.slice KEntry) es_]).bind fun (r : Bool) =>
 (bif (!r) then some ([], some (13 : Int))
 else ((CF k ⟨[(true, (.slice KAccount))], []⟩ n_chart_Clone [inj (.slice KAccount) as_]).bind fun (r_1 : (List (TAccount))) =>
 (h_ledger_Post k k es_ (es_.length : Int) (0 : Int) r_1)))) : Option ((List (TAccount)) × (Option Int))) := by kernel_rfl
theorem h_ledger_Post_s (k m : Nat) (t20 : List (TEntry)) (t21 : Int) (t22 : Int) (out_ : List (TAccount)) (e1 : (Int × Int)) (h_e1 : e1 = (List.getD t20 (Int.toNat t22) ((0 : Int), (0 : Int)))) (e2 : Nat) (h_e2 : e2 = (Int.toNat e1.1)) (e3 : (Int × (Int × Int))) (h_e3 : e3 = (List.getD out_ e2 ((0 : Int), (0 : Int), (0 : Int)))) : h_ledger_Post k (m + 1) t20 t21 t22 out_ =
 (bif decide (t22 < t21) then (bif (inb t22 t20.length) then (bif (inb e1.1 out_.length) then ((CF k ⟨[(false, (.int .i64)), (false, .err)], []⟩ n_money_Add [inj (.int .i64) e3.2.1, inj (.int .i64) e1.2]).bind fun (r : Int × (Option Int)) =>
 (bif r.2.isSome then some ([], r.2)
 else (bif (inb e1.1 out_.length) then (h_ledger_Post k m t20 t21 (w64 (t22 + (1 : Int))) (List.set out_ e2 (e3.1, r.1, e3.2.2)))
 else none)))
 else none)
 else none)
 else (h_ledger_Post_1 k k (out_.length : Int) (0 : Int) out_)) := by
  subst h_e1 h_e2 h_e3
  kernel_rfl
theorem h_ledger_Post_z (k  : Nat) (t20 : List (TEntry)) (t21 : Int) (t22 : Int) (out_ : List (TAccount)) : h_ledger_Post k 0 t20 t21 t22 out_ = none := by kernel_rfl
theorem h_ledger_Post_1_s (k m : Nat) (t49 : Int) (t50 : Int) (out_ : List (TAccount)) (e1 : Int) (h_e1 : e1 = (w64 (t50 + (1 : Int)))) : h_ledger_Post_1 k (m + 1) t49 t50 out_ =
 (bif decide (t50 < t49) then (bif (inb t50 out_.length) then ((CF k ⟨[(false, .bool)], []⟩ n_chart_IsClient [inj (.slice KAccount) out_, inj (.int .i64) t50]).bind fun (r : Bool) =>
 (bif r then ((CF k ⟨[(false, (.int .i64))], []⟩ n_chart_Free [inj KAccount (List.getD out_ (Int.toNat t50) ((0 : Int), (0 : Int), (0 : Int)))]).bind fun (r_1 : Int) =>
 (bif decide (r_1 < (0 : Int)) then some ([], some (3 : Int))
 else (h_ledger_Post_1 k m t49 e1 out_)))
 else (h_ledger_Post_1 k m t49 e1 out_)))
 else none)
 else some (out_, none)) := by
  subst h_e1
  kernel_rfl
theorem h_ledger_Post_1_z (k  : Nat) (t49 : Int) (t50 : Int) (out_ : List (TAccount)) : h_ledger_Post_1 k 0 t49 t50 out_ = none := by kernel_rfl
/-- hawala/hawalalaw09.post -/
theorem f_law09_post (k : Nat) (as_ : List (TAccount)) (es_ : List (TEntry)) : CF (k + 1) ⟨[(false, (.slice KAccount)), (false, (.int .i64))], []⟩ n_law09_post [inj (.slice KAccount) as_, inj (.slice KEntry) es_] =
 (((CF k ⟨[(false, .bool)], []⟩ n_entry_Balanced [inj (.slice KAccount) as_, inj (.slice KEntry) es_]).bind fun (r : Bool) =>
 (bif (!r) then some ([], (13 : Int))
 else (bif decide ((as_.length * 24) ≤ 211106232532992) then (h_law09_post k k es_ (es_.length : Int) (0 : Int) as_)
 else none))) : Option ((List (TAccount)) × Int)) := by kernel_rfl
theorem h_law09_post_s (k m : Nat) (t18 : List (TEntry)) (t19 : Int) (t20 : Int) (out_ : List (TAccount)) (e1 : (Int × Int)) (h_e1 : e1 = (List.getD t18 (Int.toNat t20) ((0 : Int), (0 : Int)))) (e2 : Nat) (h_e2 : e2 = (Int.toNat e1.1)) (e3 : (Int × (Int × Int))) (h_e3 : e3 = (List.getD out_ e2 ((0 : Int), (0 : Int), (0 : Int)))) : h_law09_post k (m + 1) t18 t19 t20 out_ =
 (bif decide (t20 < t19) then (bif (inb t20 t18.length) then (bif (inb e1.1 out_.length) then ((CF k ⟨[(false, (.int .i64)), (false, .err)], []⟩ n_money_Add [inj (.int .i64) e3.2.1, inj (.int .i64) e1.2]).bind fun (r : Int × (Option Int)) =>
 (bif r.2.isSome then some ([], (4 : Int))
 else (bif (inb e1.1 out_.length) then (h_law09_post k m t18 t19 (w64 (t20 + (1 : Int))) (List.set out_ e2 (e3.1, r.1, e3.2.2)))
 else none)))
 else none)
 else none)
 else (h_law09_post_1 k k (9 : Int) out_)) := by
  subst h_e1 h_e2 h_e3
  kernel_rfl
theorem h_law09_post_z (k  : Nat) (t18 : List (TEntry)) (t19 : Int) (t20 : Int) (out_ : List (TAccount)) : h_law09_post k 0 t18 t19 t20 out_ = none := by kernel_rfl
theorem h_law09_post_1_s (k m : Nat) (k_ : Int) (out_ : List (TAccount)) (e1 : (Int × Int)) (h_e1 : e1 = (List.getD out_ (Int.toNat k_) ((0 : Int), (0 : Int), (0 : Int))).2) : h_law09_post_1 k (m + 1) k_ out_ =
 (bif decide (k_ < (out_.length : Int)) then (bif (inb k_ out_.length) then (bif (inb k_ out_.length) then (bif decide ((w64 (e1.1 - e1.2)) < (0 : Int)) then some ([], (3 : Int))
 else (h_law09_post_1 k m (w64 (k_ + (1 : Int))) out_))
 else none)
 else none)
 else some (out_, (0 : Int))) := by
  subst h_e1
  kernel_rfl
theorem h_law09_post_1_z (k  : Nat) (k_ : Int) (out_ : List (TAccount)) : h_law09_post_1 k 0 k_ out_ = none := by kernel_rfl
/-- hawala/hawalalaw07.Same -/
theorem f_law07_Same (k : Nat) (a_ : List (TAccount)) (b_ : List (TAccount)) (e1 : Int) (h_e1 : e1 = (a_.length : Int)) : CF (k + 1) ⟨[(false, .bool)], []⟩ n_law07_Same [inj (.slice KAccount) a_, inj (.slice KAccount) b_] =
 ((bif (!decide (e1 = (b_.length : Int))) then some false
 else (h_law07_Same k k a_ b_ e1 (0 : Int))) : Option (Bool)) := by
  subst h_e1
  kernel_rfl
theorem h_law07_Same_s (k m : Nat) (a_ : List (TAccount)) (b_ : List (TAccount)) (t12 : Int) (t13 : Int) (e1 : (Int × (Int × Int))) (h_e1 : e1 = (List.getD b_ (Int.toNat t13) ((0 : Int), (0 : Int), (0 : Int)))) (e2 : (Int × (Int × Int))) (h_e2 : e2 = (List.getD a_ (Int.toNat t13) ((0 : Int), (0 : Int), (0 : Int)))) : h_law07_Same k (m + 1) a_ b_ t12 t13 =
 (bif decide (t13 < t12) then (bif (inb t13 a_.length) then (bif (inb t13 b_.length) then (bif (!(decide (e2.1 = e1.1) && (decide (e2.2.1 = e1.2.1) && (decide (e2.2.2 = e1.2.2) && true)))) then some false
 else (h_law07_Same k m a_ b_ t12 (w64 (t13 + (1 : Int)))))
 else none)
 else none)
 else some true) := by
  subst h_e1 h_e2
  kernel_rfl
theorem h_law07_Same_z (k  : Nat) (a_ : List (TAccount)) (b_ : List (TAccount)) (t12 : Int) (t13 : Int) : h_law07_Same k 0 a_ b_ t12 t13 = none := by kernel_rfl
/-- hawala/entry.Back -/
theorem f_entry_Back (k : Nat) (es_ : List (TEntry)) : CF (k + 1) ⟨[(false, (.slice KEntry))], []⟩ n_entry_Back [inj (.slice KEntry) es_] =
 ((h_entry_Back k k es_ (w64 ((es_.length : Int) - (1 : Int))) []) : Option ((List (TEntry)))) := by kernel_rfl
theorem h_entry_Back_s (k m : Nat) (es_ : List (TEntry)) (k_ : Int) (out_ : List (TEntry)) (e1 : (Int × Int)) (h_e1 : e1 = (List.getD es_ (Int.toNat k_) ((0 : Int), (0 : Int)))) (e2 : (List (Int × Int))) (h_e2 : e2 = [(e1.1, (w64 ((0 : Int) - e1.2)))]) : h_entry_Back k (m + 1) es_ k_ out_ =
 (bif decide ((0 : Int) ≤ k_) then (bif (inb k_ es_.length) then (bif (inb k_ es_.length) then (bif decide (((out_.length + e2.length) * 16) ≤ 211106232532992) then (h_entry_Back k m es_ (w64 (k_ - (1 : Int))) (out_ ++ e2))
 else none)
 else none)
 else none)
 else some out_) := by
  subst h_e1 h_e2
  kernel_rfl
theorem h_entry_Back_z (k  : Nat) (es_ : List (TEntry)) (k_ : Int) (out_ : List (TEntry)) : h_entry_Back k 0 es_ k_ out_ = none := by kernel_rfl
/-- hawala/chart.Right -/
theorem f_chart_Right (k : Nat) (as_ : List (TAccount)) (e1 : Int) (h_e1 : e1 = (as_.length : Int)) : CF (k + 1) ⟨[(false, .bool)], []⟩ n_chart_Right [inj (.slice KAccount) as_] =
 ((bif decide (e1 < (9 : Int)) then some false
 else (bif decide ((64 : Int) < e1) then some false
 else (h_chart_Right k k as_))) : Option (Bool)) := by
  subst h_e1
  kernel_rfl
theorem h_chart_Right_s (k m : Nat) (as_ : List (TAccount)) : h_chart_Right k (m + 1) as_ =
 (h_chart_Right_1 k k as_ (as_.length : Int) (0 : Int)) := by kernel_rfl
theorem h_chart_Right_z (k  : Nat) (as_ : List (TAccount)) : h_chart_Right k 0 as_ = none := by kernel_rfl
theorem h_chart_Right_1_s (k m : Nat) (t13 : List (TAccount)) (t14 : Int) (t15 : Int) (e1 : (Int × (Int × Int))) (h_e1 : e1 = (List.getD t13 (Int.toNat t15) ((0 : Int), (0 : Int), (0 : Int)))) : h_chart_Right_1 k (m + 1) t13 t14 t15 =
 (bif decide (t15 < t14) then (bif (inb t15 t13.length) then (bif decide (e1.1 < (0 : Int)) then some false
 else (bif decide ((3 : Int) ≤ e1.1) then some false
 else (bif decide ((1125899906842624 : Int) < e1.2.1) then some false
 else (bif decide (e1.2.1 < (-1125899906842624 : Int)) then some false
 else (h_chart_Right_2 k m k t15 t13 t14 t15 e1.1 e1.2.1 e1.2.2)))))
 else none)
 else some true) := by
  subst h_e1
  kernel_rfl
theorem h_chart_Right_1_z (k  : Nat) (t13 : List (TAccount)) (t14 : Int) (t15 : Int) : h_chart_Right_1 k 0 t13 t14 t15 = none := by kernel_rfl
theorem h_chart_Right_2_s (k m1 m : Nat) (k_ : Int) (t13 : List (TAccount)) (t14 : Int) (t15 : Int) (a_ : Int) (a_1 : Int) (a_2 : Int) (e1 : Int) (h_e1 : e1 = (w64 (t15 + (1 : Int)))) : h_chart_Right_2 k m1 (m + 1) k_ t13 t14 t15 a_ a_1 a_2 =
 (bif decide (k_ < (9 : Int)) then (bif (!decide (a_ = (w64 (Int.tdiv k_ (3 : Int))))) then some false
 else (bif (!decide (a_2 = (0 : Int))) then some false
 else (bif decide ((9 : Int) ≤ k_) then (bif decide (a_2 < (0 : Int)) then some false
 else (bif decide (a_1 < a_2) then some false
 else (h_chart_Right_1 k m1 t13 t14 e1)))
 else (h_chart_Right_1 k m1 t13 t14 e1))))
 else (bif decide ((9 : Int) ≤ k_) then (bif decide (a_2 < (0 : Int)) then some false
 else (bif decide (a_1 < a_2) then some false
 else (h_chart_Right_1 k m1 t13 t14 e1)))
 else (h_chart_Right_1 k m1 t13 t14 e1))) := by
  subst h_e1
  kernel_rfl
theorem h_chart_Right_2_z (k m1 : Nat) (k_ : Int) (t13 : List (TAccount)) (t14 : Int) (t15 : Int) (a_ : Int) (a_1 : Int) (a_2 : Int) : h_chart_Right_2 k m1 0 k_ t13 t14 t15 a_ a_1 a_2 = none := by kernel_rfl
/-- hawala/chart.Sums -/
theorem f_chart_Sums (k : Nat) (as_ : List (TAccount)) : CF (k + 1) ⟨[(false, KAccount)], []⟩ n_chart_Sums [inj (.slice KAccount) as_] =
 ((h_chart_Sums k k as_ (as_.length : Int) (0 : Int) (0 : Int) (0 : Int) (0 : Int) (0 : Int) (0 : Int) (0 : Int)) : Option (TAccount)) := by kernel_rfl
theorem h_chart_Sums_s (k m : Nat) (t6 : List (TAccount)) (t7 : Int) (t8 : Int) (t2 : Int) (t21 : Int) (t22 : Int) (out_ : Int) (out_1 : Int) (out_2 : Int) (e1 : Int) (h_e1 : e1 = (w64 (t8 + (1 : Int)))) (e2 : (Int × (Int × Int))) (h_e2 : e2 = (List.getD t6 (Int.toNat t8) ((0 : Int), (0 : Int), (0 : Int)))) (e3 : Int) (h_e3 : e3 = (w64 ((selInt e2.1 [out_, out_1, out_2]) + e2.2.1))) : h_chart_Sums k (m + 1) t6 t7 t8 t2 t21 t22 out_ out_1 out_2 =
 (bif decide (t8 < t7) then (bif (inb t8 t6.length) then (bif decide ((0 : Int) ≤ e2.1) then (bif decide (e2.1 < (3 : Int)) then (bif (inb e2.1 3) then (bif (inb e2.1 3) then (h_chart_Sums k m t6 t7 e1 t2 t21 t22 (bif decide (e2.1 = (0 : Int)) then e3
 else out_) (bif decide (e2.1 = (1 : Int)) then e3
 else out_1) (bif decide (e2.1 = (2 : Int)) then e3
 else out_2))
 else none)
 else none)
 else (h_chart_Sums k m t6 t7 e1 t2 t21 t22 out_ out_1 out_2))
 else (h_chart_Sums k m t6 t7 e1 t2 t21 t22 out_ out_1 out_2))
 else none)
 else some (out_, out_1, out_2)) := by
  subst h_e1 h_e2 h_e3
  kernel_rfl
theorem h_chart_Sums_z (k  : Nat) (t6 : List (TAccount)) (t7 : Int) (t8 : Int) (t2 : Int) (t21 : Int) (t22 : Int) (out_ : Int) (out_1 : Int) (out_2 : Int) : h_chart_Sums k 0 t6 t7 t8 t2 t21 t22 out_ out_1 out_2 = none := by kernel_rfl
/-- hawala/entry.Move -/
theorem f_entry_Move (k : Nat) (as_ : List (TAccount)) (from_ : Int) (to_ : Int) (amount_ : Int) : CF (k + 1) ⟨[(false, (.slice KEntry)), (false, .err)], []⟩ n_entry_Move [inj (.slice KAccount) as_, inj (.int .i64) from_, inj (.int .i64) to_, inj (.int .i64) amount_] =
 (((CF k ⟨[(false, (.int .i64)), (false, .bool)], []⟩ n_chart_Of [inj (.slice KAccount) as_, inj (.int .i64) from_]).bind fun (r : Int × Bool) =>
 (bif (!r.2) then some ([], some (2 : Int))
 else ((CF k ⟨[(false, (.int .i64)), (false, .bool)], []⟩ n_chart_Of [inj (.slice KAccount) as_, inj (.int .i64) to_]).bind fun (r_1 : Int × Bool) =>
 (bif (!r_1.2) then some ([], some (2 : Int))
 else (bif decide (from_ = to_) then some ([], some (1 : Int))
 else ((CF k ⟨[(false, .bool)], []⟩ n_money_Amount [inj (.int .i64) amount_]).bind fun (r_2 : Bool) =>
 (bif (!r_2) then some ([], some (1 : Int))
 else (h_entry_Move k k as_ from_ to_ amount_)))))))) : Option ((List (TEntry)) × (Option Int))) := by kernel_rfl
theorem h_entry_Move_s (k m : Nat) (as_ : List (TAccount)) (from_ : Int) (to_ : Int) (amount_ : Int) (e1 : Int) (h_e1 : e1 = (List.getD as_ (Int.toNat to_) ((0 : Int), (0 : Int), (0 : Int))).1) (e2 : Int) (h_e2 : e2 = (List.getD as_ (Int.toNat from_) ((0 : Int), (0 : Int), (0 : Int))).1) : h_entry_Move k (m + 1) as_ from_ to_ amount_ =
 (bif (inb from_ as_.length) then (bif (inb to_ as_.length) then (bif decide (e2 = e1) then some ([(from_, (w64 ((0 : Int) - amount_))), (to_, amount_)], none)
 else ((CF k ⟨[(false, (.int .i64))], []⟩ n_chart_Number [inj (.int .i64) (1 : Int), inj (.int .i64) e2]).bind fun (r : Int) =>
 ((CF k ⟨[(false, (.int .i64))], []⟩ n_chart_Number [inj (.int .i64) (1 : Int), inj (.int .i64) e1]).bind fun (r_1 : Int) =>
 (bif decide (r < (0 : Int)) then some ([], some (2 : Int))
 else (bif decide (r_1 < (0 : Int)) then some ([], some (2 : Int))
 else (h_entry_Move_1 k k from_ to_ amount_ e2 e1 r r_1))))))
 else none)
 else none) := by
  subst h_e1 h_e2
  kernel_rfl
theorem h_entry_Move_z (k  : Nat) (as_ : List (TAccount)) (from_ : Int) (to_ : Int) (amount_ : Int) : h_entry_Move k 0 as_ from_ to_ amount_ = none := by kernel_rfl
theorem h_entry_Move_1_s (k m : Nat) (from_ : Int) (to_ : Int) (amount_ : Int) (a_ : Int) (b_ : Int) (x_ : Int) (y_ : Int) : h_entry_Move_1 k (m + 1) from_ to_ amount_ a_ b_ x_ y_ =
 ((CF k ⟨[(false, (.strct (.prod (.strct (.prod KEntry (.prod KEntry KEntry))) (.prod (.strct (.prod KEntry (.prod KEntry KEntry))) (.strct (.prod KEntry (.prod KEntry KEntry)))))))], []⟩ n_money_Rates []).bind fun (r : (((TEntry) × (TEntry) × TEntry) × ((TEntry) × (TEntry) × TEntry) × (TEntry) × (TEntry) × TEntry)) =>
 (bif (inb a_ 3) then (bif (inb b_ 3) then ((CF k ⟨[(false, (.int .i64)), (false, (.int .i64)), (false, .err)], []⟩ n_money_Convert [inj (.int .i64) amount_, inj KEntry ((selInt b_ [(selInt a_ [r.1.1.1, r.2.1.1.1, r.2.2.1.1]), (selInt a_ [r.1.2.1.1, r.2.1.2.1.1, r.2.2.2.1.1]), (selInt a_ [r.1.2.2.1, r.2.1.2.2.1, r.2.2.2.2.1])]), (selInt b_ [(selInt a_ [r.1.1.2, r.2.1.1.2, r.2.2.1.2]), (selInt a_ [r.1.2.1.2, r.2.1.2.1.2, r.2.2.2.1.2]), (selInt a_ [r.1.2.2.2, r.2.1.2.2.2, r.2.2.2.2.2])]))]).bind fun (r_1 : Int × Int × (Option Int)) =>
 (bif r_1.2.2.isSome then some ([], r_1.2.2)
 else (bif decide (r_1.1 = (0 : Int)) then some ([], some (1 : Int))
 else some ([(from_, (w64 ((0 : Int) - amount_))), (x_, amount_), (y_, (w64 ((0 : Int) - r_1.1))), (to_, r_1.1)], none))))
 else none)
 else none)) := by kernel_rfl
theorem h_entry_Move_1_z (k  : Nat) (from_ : Int) (to_ : Int) (amount_ : Int) (a_ : Int) (b_ : Int) (x_ : Int) (y_ : Int) : h_entry_Move_1 k 0 from_ to_ amount_ a_ b_ x_ y_ = none := by kernel_rfl
/-- hawala/ledger.Spend -/
theorem f_ledger_Spend (k : Nat) (as_ : List (TAccount)) (amount_ : Int) (es_ : List (TEntry)) : CF (k + 1) ⟨[(false, (.slice KAccount)), (false, .err)], []⟩ n_ledger_Spend [inj (.slice KAccount) as_, inj (.int .i64) amount_, inj (.slice KEntry) es_] =
 ((bif decide ((es_.length : Int) = (0 : Int)) then some ([], some (13 : Int))
 else (bif (inb (0 : Int) es_.length) then ((CF k ⟨[(false, (.slice KAccount)), (false, .err)], []⟩ n_ledger_Release [inj (.slice KAccount) as_, inj (.int .i64) (List.getD es_ 0 ((0 : Int), (0 : Int))).1, inj (.int .i64) amount_]).bind fun (r : (List (TAccount)) × (Option Int)) =>
 (bif r.2.isSome then some ([], r.2)
 else ((CF k ⟨[(false, (.slice KAccount)), (false, .err)], []⟩ n_ledger_Post [inj (.slice KAccount) r.1, inj (.slice KEntry) es_]).bind fun (r_1 : (List (TAccount)) × (Option Int)) =>
 some r_1)))
 else none)) : Option ((List (TAccount)) × (Option Int))) := by kernel_rfl
/-- hawala/chart.IsClient -/
theorem f_chart_IsClient (k : Nat) (as_ : List (TAccount)) (k_ : Int) : CF (k + 1) ⟨[(false, .bool)], []⟩ n_chart_IsClient [inj (.slice KAccount) as_, inj (.int .i64) k_] =
 (((CF k ⟨[(false, (.int .i64)), (false, .bool)], []⟩ n_chart_Of [inj (.slice KAccount) as_, inj (.int .i64) k_]).bind fun (r : Int × Bool) =>
 (bif r.2 then some (decide (r.1 = (3 : Int)))
 else some false)) : Option (Bool)) := by kernel_rfl
/-- hawala/money.Amount -/
theorem f_money_Amount (k : Nat) (n_ : Int) : CF (k + 1) ⟨[(false, .bool)], []⟩ n_money_Amount [inj (.int .i64) n_] =
 ((bif decide ((1 : Int) ≤ n_) then some (decide (n_ ≤ (1099511627776 : Int)))
 else some false) : Option (Bool)) := by kernel_rfl
/-- hawala/chart.Free -/
theorem f_chart_Free (k : Nat) (a_ : TAccount) : CF (k + 1) ⟨[(false, (.int .i64))], []⟩ n_chart_Free [inj KAccount a_] =
 (some (w64 (a_.2.1 - a_.2.2)) : Option (Int)) := by kernel_rfl
/-- hawala/chart.Clone -/
theorem f_chart_Clone (k : Nat) (as_ : List (TAccount)) : CF (k + 1) ⟨[(true, (.slice KAccount))], []⟩ n_chart_Clone [inj (.slice KAccount) as_] =
 ((bif decide ((as_.length * 24) ≤ 211106232532992) then some as_
 else none) : Option ((List (TAccount)))) := by kernel_rfl
/-- hawala/entry.Balanced -/
theorem f_entry_Balanced (k : Nat) (as_ : List (TAccount)) (es_ : List (TEntry)) : CF (k + 1) ⟨[(false, .bool)], []⟩ n_entry_Balanced [inj (.slice KAccount) as_, inj (.slice KEntry) es_] =
 ((h_entry_Balanced k k as_ es_ (es_.length : Int) (0 : Int) (0 : Int) (0 : Int) (0 : Int)) : Option (Bool)) := by kernel_rfl
theorem h_entry_Balanced_s (k m : Nat) (as_ : List (TAccount)) (t13 : List (TEntry)) (t14 : Int) (t15 : Int) (sums_ : Int) (sums_1 : Int) (sums_2 : Int) (e1 : (Int × Int)) (h_e1 : e1 = (List.getD t13 (Int.toNat t15) ((0 : Int), (0 : Int)))) : h_entry_Balanced k (m + 1) as_ t13 t14 t15 sums_ sums_1 sums_2 =
 (bif decide (t15 < t14) then (bif (inb t15 t13.length) then ((CF k ⟨[(false, (.int .i64)), (false, .bool)], []⟩ n_chart_Of [inj (.slice KAccount) as_, inj (.int .i64) e1.1]).bind fun (r : Int × Bool) =>
 (bif (!r.2) then some false
 else ((CF k ⟨[(false, .bool)], []⟩ n_money_May [inj (.int .i64) e1.2]).bind fun (r_1 : Bool) =>
 (bif (!r_1) then some false
 else (h_entry_Balanced_1 k m k as_ t13 t14 t15 sums_ sums_1 sums_2 e1.1 e1.2)))))
 else none)
 else some (decide (sums_ = (0 : Int)) && (decide (sums_1 = (0 : Int)) && (decide (sums_2 = (0 : Int)) && true)))) := by
  subst h_e1
  kernel_rfl
theorem h_entry_Balanced_z (k  : Nat) (as_ : List (TAccount)) (t13 : List (TEntry)) (t14 : Int) (t15 : Int) (sums_ : Int) (sums_1 : Int) (sums_2 : Int) : h_entry_Balanced k 0 as_ t13 t14 t15 sums_ sums_1 sums_2 = none := by kernel_rfl
theorem h_entry_Balanced_1_s (k m1 m : Nat) (as_ : List (TAccount)) (t13 : List (TEntry)) (t14 : Int) (t15 : Int) (sums_ : Int) (sums_1 : Int) (sums_2 : Int) (e_ : Int) (e_1 : Int) (e1 : Int) (h_e1 : e1 = (List.getD as_ (Int.toNat e_) ((0 : Int), (0 : Int), (0 : Int))).1) : h_entry_Balanced_1 k m1 (m + 1) as_ t13 t14 t15 sums_ sums_1 sums_2 e_ e_1 =
 (bif (inb e_ as_.length) then (bif decide (e1 < (0 : Int)) then some false
 else (bif decide ((3 : Int) ≤ e1) then some false
 else (h_entry_Balanced_2 k m1 k as_ e1 t13 t14 t15 sums_ sums_1 sums_2 e_ e_1)))
 else none) := by
  subst h_e1
  kernel_rfl
theorem h_entry_Balanced_1_z (k m1 : Nat) (as_ : List (TAccount)) (t13 : List (TEntry)) (t14 : Int) (t15 : Int) (sums_ : Int) (sums_1 : Int) (sums_2 : Int) (e_ : Int) (e_1 : Int) : h_entry_Balanced_1 k m1 0 as_ t13 t14 t15 sums_ sums_1 sums_2 e_ e_1 = none := by kernel_rfl
theorem h_entry_Balanced_2_s (k m1 m : Nat) (as_ : List (TAccount)) (c_ : Int) (t13 : List (TEntry)) (t14 : Int) (t15 : Int) (sums_ : Int) (sums_1 : Int) (sums_2 : Int) (e_ : Int) (e_1 : Int) : h_entry_Balanced_2 k m1 (m + 1) as_ c_ t13 t14 t15 sums_ sums_1 sums_2 e_ e_1 =
 (bif (inb c_ 3) then ((CF k ⟨[(false, (.int .i64)), (false, .err)], []⟩ n_money_Add [inj (.int .i64) (selInt c_ [sums_, sums_1, sums_2]), inj (.int .i64) e_1]).bind fun (r : Int × (Option Int)) =>
 (bif r.2.isSome then some false
 else (bif (inb c_ 3) then (h_entry_Balanced k m1 as_ t13 t14 (w64 (t15 + (1 : Int))) (bif decide (c_ = (0 : Int)) then r.1
 else sums_) (bif decide (c_ = (1 : Int)) then r.1
 else sums_1) (bif decide (c_ = (2 : Int)) then r.1
 else sums_2))
 else none)))
 else none) := by kernel_rfl
theorem h_entry_Balanced_2_z (k m1 : Nat) (as_ : List (TAccount)) (c_ : Int) (t13 : List (TEntry)) (t14 : Int) (t15 : Int) (sums_ : Int) (sums_1 : Int) (sums_2 : Int) (e_ : Int) (e_1 : Int) : h_entry_Balanced_2 k m1 0 as_ c_ t13 t14 t15 sums_ sums_1 sums_2 e_ e_1 = none := by kernel_rfl
/-- hawala/money.Add -/
theorem f_money_Add (k : Nat) (a_ : Int) (b_ : Int) : CF (k + 1) ⟨[(false, (.int .i64)), (false, .err)], []⟩ n_money_Add [inj (.int .i64) a_, inj (.int .i64) b_] =
 (((CF k ⟨[(false, .bool)], []⟩ n_money_May [inj (.int .i64) a_]).bind fun (r : Bool) =>
 (bif (!r) then some ((0 : Int), some (4 : Int))
 else ((CF k ⟨[(false, .bool)], []⟩ n_money_May [inj (.int .i64) b_]).bind fun (r_1 : Bool) =>
 (bif (!r_1) then some ((0 : Int), some (4 : Int))
 else ((CF k ⟨[(false, .bool)], []⟩ n_money_May [inj (.int .i64) (w64 (a_ + b_))]).bind fun (r_2 : Bool) =>
 (bif (!r_2) then some ((0 : Int), some (4 : Int))
 else some ((w64 (a_ + b_)), none))))))) : Option (Int × (Option Int))) := by kernel_rfl
/-- hawala/chart.Of -/
theorem f_chart_Of (k : Nat) (as_ : List (TAccount)) (k_ : Int) : CF (k + 1) ⟨[(false, (.int .i64)), (false, .bool)], []⟩ n_chart_Of [inj (.slice KAccount) as_, inj (.int .i64) k_] =
 ((bif decide (k_ < (0 : Int)) then some ((0 : Int), false)
 else (bif decide ((as_.length : Int) ≤ k_) then some ((0 : Int), false)
 else (bif decide (k_ < (9 : Int)) then some ((Int.tmod k_ (3 : Int)), true)
 else some ((3 : Int), true)))) : Option (Int × Bool)) := by kernel_rfl
/-- hawala/chart.Number -/
theorem f_chart_Number (k : Nat) (k_ : Int) (cur_ : Int) : CF (k + 1) ⟨[(false, (.int .i64))], []⟩ n_chart_Number [inj (.int .i64) k_, inj (.int .i64) cur_] =
 ((bif decide (k_ < (0 : Int)) then some (-1 : Int)
 else (bif decide ((2 : Int) < k_) then some (-1 : Int)
 else (bif decide (cur_ < (0 : Int)) then some (-1 : Int)
 else (bif decide ((3 : Int) ≤ cur_) then some (-1 : Int)
 else some (w64 ((w64 ((3 : Int) * cur_)) + k_)))))) : Option (Int)) := by kernel_rfl
/-- hawala/money.Rates -/
theorem f_money_Rates (k : Nat) : CF (k + 1) ⟨[(false, (.strct (.prod (.strct (.prod KEntry (.prod KEntry KEntry))) (.prod (.strct (.prod KEntry (.prod KEntry KEntry))) (.strct (.prod KEntry (.prod KEntry KEntry)))))))], []⟩ n_money_Rates [] =
 (some ((((1 : Int), (1 : Int)), ((9 : Int), (10 : Int)), (150 : Int), (1 : Int)), (((11 : Int), (10 : Int)), ((1 : Int), (1 : Int)), (160 : Int), (1 : Int)), ((1 : Int), (151 : Int)), ((1 : Int), (161 : Int)), (1 : Int), (1 : Int)) : Option ((((TEntry) × (TEntry) × TEntry) × ((TEntry) × (TEntry) × TEntry) × (TEntry) × (TEntry) × TEntry))) := by kernel_rfl
/-- hawala/money.Convert -/
theorem f_money_Convert (k : Nat) (n_ : Int) (r_ : TEntry) (e1 : Int) (h_e1 : e1 = (w64 (n_ * r_.1))) (e2 : Int) (h_e2 : e2 = (w64 (Int.tdiv e1 r_.2))) : CF (k + 1) ⟨[(false, (.int .i64)), (false, (.int .i64)), (false, .err)], []⟩ n_money_Convert [inj (.int .i64) n_, inj KEntry r_] =
 (((CF k ⟨[(false, .bool)], []⟩ n_money_Amount [inj (.int .i64) n_]).bind fun (r : Bool) =>
 (bif (!r) then some ((0 : Int), (0 : Int), some (13 : Int))
 else ((CF k ⟨[(false, .bool)], []⟩ n_money_Rate_right [inj KEntry r_]).bind fun (r_1 : Bool) =>
 (bif (!r_1) then some ((0 : Int), (0 : Int), some (13 : Int))
 else (bif (!decide (r_.2 = (0 : Int))) then (bif decide ((1099511627776 : Int) < e2) then some ((0 : Int), (0 : Int), some (4 : Int))
 else (bif (!decide (r_.2 = (0 : Int))) then (bif (!decide (r_.2 = (0 : Int))) then some (e2, (Int.tmod e1 r_.2), none)
 else none)
 else none))
 else none))))) : Option (Int × Int × (Option Int))) := by
  subst h_e1 h_e2
  kernel_rfl
/-- hawala/money.May -/
theorem f_money_May (k : Nat) (n_ : Int) : CF (k + 1) ⟨[(false, .bool)], []⟩ n_money_May [inj (.int .i64) n_] =
 ((bif decide ((-1125899906842624 : Int) ≤ n_) then some (decide (n_ ≤ (1125899906842624 : Int)))
 else some false) : Option (Bool)) := by kernel_rfl
/-- (hawala/money.Rate).right -/
theorem f_money_Rate_right (k : Nat) (r_ : TEntry) : CF (k + 1) ⟨[(false, .bool)], []⟩ n_money_Rate_right [inj KEntry r_] =
 ((bif decide ((1 : Int) ≤ r_.1) then (bif decide (r_.1 ≤ (1024 : Int)) then (bif decide ((1 : Int) ≤ r_.2) then some (decide (r_.2 ≤ (1024 : Int)))
 else some false)
 else some false)
 else some false) : Option (Bool)) := by kernel_rfl
end Go.Eng.Led
