/- What the functions of this chapter come to (printed by eq.py out of the program, by the engine; each equation is checked by Lean's kernel). No conditions. -/
import Derived.Test.YtckllbdddppbpaaE30
import Derived.Test.YtckllbdddppbpaaProg
set_option linter.all false
set_option linter.unusedVariables false
set_option linter.unusedSimpArgs false
set_option linter.deprecated false
namespace Go.Eng.Enb
open Go.Proofs Go.Eng
def aOwn : Nat → List Bool := fun f => match f with
  | 8 => [true]
  | 9 => [true]
  | _ => []
def aMv : Nat → List Bool := fun _ => []
def aProm : Nat → List Nat := fun f => match f with
  | 9 => [5]
  | 14 => [3]
  | _ => []
def aNils : Nat → List Nat := fun f => match f with
  | 8 => [2]
  | 9 => [4]
  | 12 => [8]
  | 14 => [2]
  | _ => []
def aKeep : Nat → Nat → List Nat := fun f b => match f, b with
  | 4, 0 => [3, 9, 10, 11, 12, 14, 68, 69, 70]
  | 6, 0 => [0, 2, 4, 7, 20, 21]
  | 8, 0 => [1, 3, 10, 11]
  | 8, 2 => [1, 3, 22, 23, 24]
  | 9, 0 => [0, 5, 6, 12, 13, 14]
  | 9, 2 => [5, 49, 50]
  | 10, 0 => [0, 5, 13, 14, 15]
  | 11, 0 => [0, 5, 11, 12, 13]
  | 14, 0 => [0, 3, 4]
  | 15, 0 => [0, 1, 12, 13]
  | _, _ => []
def aCut : Nat → Nat → Option (List Nat) := fun f b => match f, b with
  | 3, 7 => some [2, 3, 11, 12]
  | 4, 16 => some [3, 9, 10, 14]
  | 5, 8 => some [3, 9, 10, 11, 12]
  | 10, 8 => some [0, 5, 7, 13, 14, 15]
  | 10, 11 => some [0, 5, 7, 10, 13, 14, 15]
  | 11, 7 => some [0, 5, 7, 11, 12, 13]
  | 12, 9 => some [0, 1, 2, 3]
  | 12, 15 => some [1, 2, 3, 14, 15, 16, 17]
  | _, _ => none
def A : Ann := ⟨60, aOwn, aMv, aProm, aKeep, aNils, aCut⟩
abbrev X : Outer := (fun _ _ _ => none)
noncomputable abbrev CF : Nat → CallF := callF Try.prog A X
set_option maxRecDepth 1000000
set_option maxHeartbeats 0
abbrev KboundsError : K := (.strct (.prod (.int .i64) (.prod (.int .i64) (.prod .bool (.int .u8)))))
abbrev TboundsError : Type := (Int) × (Int) × (Bool) × Int
abbrev KerrorAddressString : K := (.strct (.prod .str (.int .u64)))
abbrev TerrorAddressString : Type := (List Int) × Int
abbrev KBook : K := (.strct (.prod (.slice (.int .u8)) (.prod (.slice (.int .u32)) (.slice (.int .u8)))))
abbrev TBook : Type := (List (Int)) × (List (Int)) × List (Int)
abbrev KEntry : K := (.strct (.prod (.int .i64) (.int .i64)))
abbrev TEntry : Type := (Int) × Int
abbrev KAccount : K := (.strct (.prod (.int .i64) (.prod (.int .i64) (.int .i64))))
abbrev TAccount : Type := (Int) × (Int) × Int
abbrev KPair : K := (.strct (.prod (.int .u8) (.int .i32)))
abbrev TPair : Type := (Int) × Int
abbrev n_law08_EntryBalanced : Nat := 3
abbrev n_law08_EntryMoves : Nat := 4
abbrev n_law08_awake : Nat := 7
abbrev n_law07_Book_Accounts : Nat := 8
abbrev n_law08_Entries : Nat := 9
abbrev n_entry_Balanced : Nat := 10
abbrev n_law08_balanced : Nat := 11
abbrev n_entry_Move : Nat := 12
abbrev n_chart_Number : Nat := 13
abbrev n_chart_Of : Nat := 16
abbrev n_money_May : Nat := 17
abbrev n_money_Add : Nat := 18
abbrev n_money_Amount : Nat := 19
abbrev n_money_Rates : Nat := 21
abbrev n_money_Convert : Nat := 20
abbrev n_money_Rate_right : Nat := 22
/-- hawala/hawalalaw08.EntryBalanced -/
noncomputable def h_law08_EntryBalanced (k m : Nat) (at_ : Int) (by_ : Int) (as_ : List (TAccount)) (es_ : List (TEntry)) : Option (Bool) := headB Try.prog A (CF k) k ⟨[(false, .bool)], []⟩ 3 [] [.r, .r, .r, .r, .r, .l, .l] m ⟨[(2, .val false [.int .u8 at_]), (3, .val false [.int .i8 by_]), (11, .val false [.vw 11 0]), (12, .val false [.vw 12 0])], [(11, .row KAccount as_ 0 [] true), (12, .row KEntry es_ 0 [] false)]⟩
/-- hawala/hawalalaw08.EntryMoves -/
noncomputable def h_law08_EntryMoves (k m : Nat) (amount_ : Int) (i_ : Int) (k_ : Int) (es_ : List (TEntry)) (t68 : List (TEntry)) (t69 : Int) (t70 : Int) (as_ : List (TAccount)) (sum_ : List (Int × (Int))) : Option (Bool) := headB Try.prog A (CF k) k ⟨[(false, .bool)], []⟩ 4 [] [.r, .r, .r, .r, .r, .r, .r, .l, .r, .l] m ⟨[(3, .val false [.int .u16 amount_]), (9, .val false [.vw 9 0]), (10, .val false [.int .i64 i_]), (11, .val false [.int .i64 k_]), (12, .val false [.sl KEntry es_]), (14, .val false [.mp 14]), (68, .val false [.sl KEntry t68]), (69, .val false [.int .i64 t69]), (70, .val false [.int .i64 t70])], [(9, .row KAccount as_ 0 [] true), (14, .mp (.int .i64) sum_)]⟩
/-- hawala/hawalalaw08.EntryMoves -/
noncomputable def h_law08_EntryMoves_1 (k m : Nat) (amount_ : Int) (i_ : Int) (as_ : List (TAccount)) (sum_ : List (Int × (Int))) : Option (Bool) := headB Try.prog A (CF k) k ⟨[(false, .bool)], []⟩ 4 [] [.r, .r, .r, .r, .r, .r, .r, .r, .r, .l] m ⟨[(3, .val false [.int .u16 amount_]), (9, .val false [.vw 9 0]), (10, .val false [.int .i64 i_]), (14, .val false [.mp 14])], [(9, .row KAccount as_ 0 [] true), (14, .mp (.int .i64) sum_)]⟩
/-- (hawala/hawalalaw07.Book).Accounts -/
noncomputable def h_law07_Book_Accounts (k m : Nat) (t10 : Int) (t11 : Int) (b_ : List (Int)) (b_1 : List (Int)) (b_2 : List (Int)) (as_ : List (TAccount)) : Option ((List (TAccount))) := headB Try.prog A (CF k) k ⟨[(true, (.slice KAccount))], []⟩ 8 [] [.r, .r, .l, .r, .l] m ⟨[(1, .val false [.ptr 1 0 0 []]), (3, .val false [.vw 3 0]), (10, .val false [.int .i64 t10]), (11, .val false [.int .i64 t11])], [(1, .box [.sl (.int .u8) b_, .sl (.int .u32) b_1, .sl (.int .u8) b_2]), (3, .row KAccount as_ 0 [] false)]⟩
/-- (hawala/hawalalaw07.Book).Accounts -/
noncomputable def h_law07_Book_Accounts_1 (k m : Nat) (t22 : List (Int)) (t23 : Int) (t24 : Int) (b_ : List (Int)) (b_1 : List (Int)) (b_2 : List (Int)) (as_ : List (TAccount)) : Option ((List (TAccount))) := headB Try.prog A (CF k) k ⟨[(true, (.slice KAccount))], []⟩ 8 [] [.r, .r, .r, .l, .r, .l] m ⟨[(1, .val false [.ptr 1 0 0 []]), (3, .val false [.vw 3 0]), (22, .val false [.sl (.int .u8) t22]), (23, .val false [.int .i64 t23]), (24, .val false [.int .i64 t24])], [(1, .box [.sl (.int .u8) b_, .sl (.int .u32) b_1, .sl (.int .u8) b_2]), (3, .row KAccount as_ 0 [] false)]⟩
/-- hawala/hawalalaw08.Entries -/
noncomputable def h_law08_Entries (k m : Nat) (as_ : List (TAccount)) (t12 : List (TPair)) (t13 : Int) (t14 : Int) (out_ : List (TEntry)) (sums_ : Int) (sums_1 : Int) (sums_2 : Int) : Option ((List (TEntry))) := headB Try.prog A (CF k) k ⟨[(true, (.slice KEntry))], []⟩ 9 [] [.r, .r, .r, .l, .r, .l] m ⟨[(0, .val false [.sl KAccount as_]), (5, .val false [.vw 5 0]), (6, .val false [.ptr 6 0 0 []]), (12, .val false [.sl KPair t12]), (13, .val false [.int .i64 t13]), (14, .val false [.int .i64 t14])], [(5, .row KEntry out_ 0 [] false), (6, .box [.int .i64 sums_, .int .i64 sums_1, .int .i64 sums_2])]⟩
/-- hawala/hawalalaw08.Entries -/
noncomputable def h_law08_Entries_1 (k m : Nat) (t49 : Int) (t491 : Int) (t492 : Int) (t50 : Int) (out_ : List (TEntry)) : Option ((List (TEntry))) := headB Try.prog A (CF k) k ⟨[(true, (.slice KEntry))], []⟩ 9 [] [.r, .r, .r, .r, .l, .r, .l] m ⟨[(5, .val false [.vw 5 0]), (49, .val true [.int .i64 t49, .int .i64 t491, .int .i64 t492]), (50, .val false [.int .i64 t50])], [(5, .row KEntry out_ 0 [] false)]⟩
/-- hawala/entry.Balanced -/
noncomputable def h_entry_Balanced (k m : Nat) (as_ : List (TAccount)) (t13 : List (TEntry)) (t14 : Int) (t15 : Int) (sums_ : Int) (sums_1 : Int) (sums_2 : Int) : Option (Bool) := headB Try.prog A (CF k) k ⟨[(false, .bool)], []⟩ 10 [] [.r, .r, .l, .r, .l] m ⟨[(0, .val false [.sl KAccount as_]), (5, .val false [.ptr 5 0 0 []]), (13, .val false [.sl KEntry t13]), (14, .val false [.int .i64 t14]), (15, .val false [.int .i64 t15])], [(5, .box [.int .i64 sums_, .int .i64 sums_1, .int .i64 sums_2])]⟩
/-- hawala/entry.Balanced -/
noncomputable def h_entry_Balanced_1 (k m1 m : Nat) (as_ : List (TAccount)) (t13 : List (TEntry)) (t14 : Int) (t15 : Int) (sums_ : Int) (sums_1 : Int) (sums_2 : Int) (e_ : Int) (e_1 : Int) : Option (Bool) := headB Try.prog A (CF k) k ⟨[(false, .bool)], []⟩ 10 [] [.r, .r, .l, .r, .l, .lp m1, .r, .r, .l, .l, .r, .r, .l] m ⟨[(0, .val false [.sl KAccount as_]), (5, .val false [.ptr 5 0 0 []]), (7, .val false [.ptr 7 0 0 []]), (13, .val false [.sl KEntry t13]), (14, .val false [.int .i64 t14]), (15, .val false [.int .i64 t15])], [(5, .box [.int .i64 sums_, .int .i64 sums_1, .int .i64 sums_2]), (7, .box [.int .i64 e_, .int .i64 e_1])]⟩
/-- hawala/entry.Balanced -/
noncomputable def h_entry_Balanced_2 (k m1 m : Nat) (as_ : List (TAccount)) (c_ : Int) (t13 : List (TEntry)) (t14 : Int) (t15 : Int) (sums_ : Int) (sums_1 : Int) (sums_2 : Int) (e_ : Int) (e_1 : Int) : Option (Bool) := headB Try.prog A (CF k) k ⟨[(false, .bool)], []⟩ 10 [] [.r, .r, .l, .r, .l, .lp m1, .r, .r, .l, .l, .r, .r, .r, .r, .l] m ⟨[(0, .val false [.sl KAccount as_]), (5, .val false [.ptr 5 0 0 []]), (7, .val false [.ptr 7 0 0 []]), (10, .val false [.int .i64 c_]), (13, .val false [.sl KEntry t13]), (14, .val false [.int .i64 t14]), (15, .val false [.int .i64 t15])], [(5, .box [.int .i64 sums_, .int .i64 sums_1, .int .i64 sums_2]), (7, .box [.int .i64 e_, .int .i64 e_1])]⟩
/-- hawala/hawalalaw08.balanced -/
noncomputable def h_law08_balanced (k m : Nat) (as_ : List (TAccount)) (t11 : List (TEntry)) (t12 : Int) (t13 : Int) (sums_ : List (Int × (Int))) : Option (Bool) := headB Try.prog A (CF k) k ⟨[(false, .bool)], []⟩ 11 [] [.r, .r, .l, .r, .l] m ⟨[(0, .val false [.sl KAccount as_]), (5, .val false [.mp 5]), (11, .val false [.sl KEntry t11]), (12, .val false [.int .i64 t12]), (13, .val false [.int .i64 t13])], [(5, .mp (.int .i64) sums_)]⟩
/-- hawala/hawalalaw08.balanced -/
noncomputable def h_law08_balanced_1 (k m1 m : Nat) (as_ : List (TAccount)) (t11 : List (TEntry)) (t12 : Int) (t13 : Int) (sums_ : List (Int × (Int))) (e_ : Int) (e_1 : Int) : Option (Bool) := headB Try.prog A (CF k) k ⟨[(false, .bool)], []⟩ 11 [] [.r, .r, .l, .r, .l, .lp m1, .r, .r, .l, .l, .r, .r, .l] m ⟨[(0, .val false [.sl KAccount as_]), (5, .val false [.mp 5]), (7, .val false [.ptr 7 0 0 []]), (11, .val false [.sl KEntry t11]), (12, .val false [.int .i64 t12]), (13, .val false [.int .i64 t13])], [(5, .mp (.int .i64) sums_), (7, .box [.int .i64 e_, .int .i64 e_1])]⟩
/-- hawala/entry.Move -/
noncomputable def h_entry_Move (k m : Nat) (as_ : List (TAccount)) (from_ : Int) (to_ : Int) (amount_ : Int) : Option ((List (TEntry)) × (Option Int)) := headB Try.prog A (CF k) k ⟨[(false, (.slice KEntry)), (false, .err)], []⟩ 12 [] [.r, .r, .r, .r, .l] m ⟨[(0, .val false [.sl KAccount as_]), (1, .val false [.int .i64 from_]), (2, .val false [.int .i64 to_]), (3, .val false [.int .i64 amount_])], []⟩
/-- hawala/entry.Move -/
noncomputable def h_entry_Move_1 (k m : Nat) (from_ : Int) (to_ : Int) (amount_ : Int) (a_ : Int) (b_ : Int) (x_ : Int) (y_ : Int) : Option ((List (TEntry)) × (Option Int)) := headB Try.prog A (CF k) k ⟨[(false, (.slice KEntry)), (false, .err)], []⟩ 12 [] [.r, .r, .r, .r, .r, .r, .r, .r, .l] m ⟨[(1, .val false [.int .i64 from_]), (2, .val false [.int .i64 to_]), (3, .val false [.int .i64 amount_]), (14, .val false [.int .i64 a_]), (15, .val false [.int .i64 b_]), (16, .val false [.int .i64 x_]), (17, .val false [.int .i64 y_])], []⟩
/-- hawala/hawalalaw08.EntryBalanced -/
theorem f_law08_EntryBalanced (k : Nat) (b_ : TBook) (ps_ : List (TPair)) (at_ : Int) (by_ : Int) (raw_ : List (TEntry)) : CF (k + 1) ⟨[(false, .bool)], []⟩ n_law08_EntryBalanced [inj KBook b_, inj (.slice KPair) ps_, inj (.int .u8) at_, inj (.int .i8) by_, inj (.slice KEntry) raw_] =
 (((CF k ⟨[(false, .bool)], []⟩ n_law08_awake []).bind fun (r : Bool) =>
 (bif (!r) then some false
 else ((CF k ⟨[(true, (.slice KAccount))], []⟩ n_law07_Book_Accounts [inj KBook b_]).bind fun (r_1 : (List (TAccount))) =>
 ((CF k ⟨[(true, (.slice KEntry))], []⟩ n_law08_Entries [inj (.slice KAccount) r_1, inj (.slice KPair) ps_]).bind fun (r_2 : (List (TEntry))) =>
 ((CF k ⟨[(false, .bool)], []⟩ n_entry_Balanced [inj (.slice KAccount) r_1, inj (.slice KEntry) r_2]).bind fun (r_3 : Bool) =>
 (bif (!r_3) then some false
 else ((CF k ⟨[(false, .bool)], []⟩ n_entry_Balanced [inj (.slice KAccount) r_1, inj (.slice KEntry) raw_]).bind fun (r_4 : Bool) =>
 ((CF k ⟨[(false, .bool)], []⟩ n_law08_balanced [inj (.slice KAccount) r_1, inj (.slice KEntry) raw_]).bind fun (r_5 : Bool) =>
 (bif (!(r_4 == r_5)) then some false
 else (h_law08_EntryBalanced k k at_ by_ r_1 r_2)))))))))) : Option (Bool)) := by kernel_rfl
theorem h_law08_EntryBalanced_s (k m : Nat) (at_ : Int) (by_ : Int) (as_ : List (TAccount)) (es_ : List (TEntry)) (e1 : Int) (h_e1 : e1 = (es_.length : Int)) (e2 : Int) (h_e2 : e2 = (Int.tmod (w64 at_) e1)) (e3 : (Int × Int)) (h_e3 : e3 = (List.getD es_ (Int.toNat e2) ((0 : Int), (0 : Int)))) : h_law08_EntryBalanced k (m + 1) at_ by_ as_ es_ =
 (bif decide ((0 : Int) < e1) then (bif (!decide (e1 = (0 : Int))) then (bif (inb e2 es_.length) then (bif (inb e2 es_.length) then ((CF k ⟨[(false, .bool)], []⟩ n_entry_Balanced [inj (.slice KAccount) as_, inj (.slice KEntry) (List.set es_ (Int.toNat e2) (e3.1, (w64 (e3.2 + (w64 by_)))))]).bind fun (r : Bool) =>
 some (r == decide (by_ = (0 : Int))))
 else none)
 else none)
 else none)
 else some true) := by
  subst h_e1 h_e2 h_e3
  kernel_rfl
theorem h_law08_EntryBalanced_z (k  : Nat) (at_ : Int) (by_ : Int) (as_ : List (TAccount)) (es_ : List (TEntry)) : h_law08_EntryBalanced k 0 at_ by_ as_ es_ = none := by kernel_rfl
/-- hawala/hawalalaw08.EntryMoves -/
theorem f_law08_EntryMoves (k : Nat) (b_ : TBook) (from_ : Int) (to_ : Int) (amount_ : Int) : CF (k + 1) ⟨[(false, .bool)], []⟩ n_law08_EntryMoves [inj KBook b_, inj (.int .u8) from_, inj (.int .u8) to_, inj (.int .u16) amount_] =
 (((CF k ⟨[(false, .bool)], []⟩ n_law08_awake []).bind fun (r : Bool) =>
 (bif (!r) then some false
 else ((CF k ⟨[(true, (.slice KAccount))], []⟩ n_law07_Book_Accounts [inj KBook b_]).bind fun (r_1 : (List (TAccount))) =>
 (bif (!decide ((r_1.length : Int) = (0 : Int))) then (bif (!decide ((r_1.length : Int) = (0 : Int))) then ((CF k ⟨[(false, (.slice KEntry)), (false, .err)], []⟩ n_entry_Move [inj (.slice KAccount) r_1, inj (.int .i64) (Int.tmod (w64 from_) (r_1.length : Int)), inj (.int .i64) (Int.tmod (w64 to_) (r_1.length : Int)), inj (.int .i64) (w64 amount_)]).bind fun (r_2 : (List (TEntry)) × (Option Int)) =>
 (bif r_2.2.isSome then (bif decide ((r_2.1.length : Int) = (0 : Int)) then (bif decide (amount_ = (0 : Int)) then some true
 else (bif decide ((Int.tmod (w64 from_) (r_1.length : Int)) = (Int.tmod (w64 to_) (r_1.length : Int))) then some true
 else (bif (inb (Int.tmod (w64 from_) (r_1.length : Int)) r_1.length) then (bif (inb (Int.tmod (w64 to_) (r_1.length : Int)) r_1.length) then some (!decide ((List.getD r_1 (Int.toNat (Int.tmod (w64 from_) (r_1.length : Int))) ((0 : Int), (0 : Int), (0 : Int))).1 = (List.getD r_1 (Int.toNat (Int.tmod (w64 to_) (r_1.length : Int))) ((0 : Int), (0 : Int), (0 : Int))).1))
 else none)
 else none)))
 else some false)
 else (h_law08_EntryMoves k k amount_ (Int.tmod (w64 from_) (r_1.length : Int)) (Int.tmod (w64 to_) (r_1.length : Int)) r_2.1 r_2.1 (r_2.1.length : Int) (0 : Int) r_1 [])))
 else none)
 else none)))) : Option (Bool)) := by kernel_rfl
theorem h_law08_EntryMoves_s (k m : Nat) (amount_ : Int) (i_ : Int) (k_ : Int) (es_ : List (TEntry)) (t68 : List (TEntry)) (t69 : Int) (t70 : Int) (as_ : List (TAccount)) (sum_ : List (Int × (Int))) (e1 : (Int × Int)) (h_e1 : e1 = (List.getD t68 (Int.toNat t70) ((0 : Int), (0 : Int)))) : h_law08_EntryMoves k (m + 1) amount_ i_ k_ es_ t68 t69 t70 as_ sum_ =
 (bif decide (t70 < t69) then (bif (inb t70 t68.length) then (h_law08_EntryMoves k m amount_ i_ k_ es_ t68 t69 (w64 (t70 + (1 : Int))) as_ (mapPut sum_ e1.1 (w64 ((mapGet (0 : Int) sum_ e1.1) + e1.2))))
 else none)
 else ((CF k ⟨[(false, .bool)], []⟩ n_entry_Balanced [inj (.slice KAccount) as_, inj (.slice KEntry) es_]).bind fun (r : Bool) =>
 (bif (!r) then some false
 else (bif (inb i_ as_.length) then (bif (inb k_ as_.length) then (bif decide ((List.getD as_ (Int.toNat i_) ((0 : Int), (0 : Int), (0 : Int))).1 = (List.getD as_ (Int.toNat k_) ((0 : Int), (0 : Int), (0 : Int))).1) then (bif (!decide ((mapGet (0 : Int) sum_ k_) = (w64 amount_))) then some false
 else (h_law08_EntryMoves_1 k k amount_ i_ as_ sum_))
 else (h_law08_EntryMoves_1 k k amount_ i_ as_ sum_))
 else none)
 else none)))) := by
  subst h_e1
  kernel_rfl
theorem h_law08_EntryMoves_z (k  : Nat) (amount_ : Int) (i_ : Int) (k_ : Int) (es_ : List (TEntry)) (t68 : List (TEntry)) (t69 : Int) (t70 : Int) (as_ : List (TAccount)) (sum_ : List (Int × (Int))) : h_law08_EntryMoves k 0 amount_ i_ k_ es_ t68 t69 t70 as_ sum_ = none := by kernel_rfl
theorem h_law08_EntryMoves_1_s (k m : Nat) (amount_ : Int) (i_ : Int) (as_ : List (TAccount)) (sum_ : List (Int × (Int))) (e1 : Int) (h_e1 : e1 = (mapGet (0 : Int) sum_ i_)) : h_law08_EntryMoves_1 k (m + 1) amount_ i_ as_ sum_ =
 (bif decide (e1 = (w64 ((0 : Int) - (w64 amount_)))) then some true
 else (bif (inb i_ as_.length) then ((CF k ⟨[(false, (.int .i64))], []⟩ n_chart_Number [inj (.int .i64) (1 : Int), inj (.int .i64) (List.getD as_ (Int.toNat i_) ((0 : Int), (0 : Int), (0 : Int))).1]).bind fun (r : Int) =>
 (bif decide (r = i_) then some (decide (e1 = (0 : Int)))
 else some false))
 else none)) := by
  subst h_e1
  kernel_rfl
theorem h_law08_EntryMoves_1_z (k  : Nat) (amount_ : Int) (i_ : Int) (as_ : List (TAccount)) (sum_ : List (Int × (Int))) : h_law08_EntryMoves_1 k 0 amount_ i_ as_ sum_ = none := by kernel_rfl
/-- hawala/hawalalaw08.awake -/
theorem f_law08_awake (k : Nat) : CF (k + 1) ⟨[(false, .bool)], []⟩ n_law08_awake [] =
 (((CF k ⟨[(true, (.slice KAccount))], []⟩ n_law07_Book_Accounts [inj KBook ([(0 : Int), (1 : Int)], [], [])]).bind fun (r : (List (TAccount))) =>
 ((CF k ⟨[(false, (.slice KEntry)), (false, .err)], []⟩ n_entry_Move [inj (.slice KAccount) r, inj (.int .i64) (9 : Int), inj (.int .i64) (10 : Int), inj (.int .i64) (10 : Int)]).bind fun (r_1 : (List (TEntry)) × (Option Int)) =>
 (bif (!r_1.2.isSome) then (bif decide ((r_1.1.length : Int) = (4 : Int)) then (bif (inb (0 : Int) r_1.1.length) then (bif (decide ((List.getD r_1.1 0 ((0 : Int), (0 : Int))).1 = (9 : Int)) && (decide ((List.getD r_1.1 0 ((0 : Int), (0 : Int))).2 = (-10 : Int)) && true)) then (bif (inb (3 : Int) r_1.1.length) then (bif (decide ((List.getD r_1.1 3 ((0 : Int), (0 : Int))).1 = (10 : Int)) && (decide ((List.getD r_1.1 3 ((0 : Int), (0 : Int))).2 = (9 : Int)) && true)) then ((CF k ⟨[(false, .bool)], []⟩ n_entry_Balanced [inj (.slice KAccount) r, inj (.slice KEntry) r_1.1]).bind fun (r_2 : Bool) =>
 some r_2)
 else some false)
 else none)
 else some false)
 else none)
 else some false)
 else some false))) : Option (Bool)) := by kernel_rfl
/-- (hawala/hawalalaw07.Book).Accounts -/
theorem f_law07_Book_Accounts (k : Nat) (b_ : TBook) : CF (k + 1) ⟨[(true, (.slice KAccount))], []⟩ n_law07_Book_Accounts [inj KBook b_] =
 ((h_law07_Book_Accounts k k (9 : Int) (0 : Int) b_.1 b_.2.1 b_.2.2 (List.replicate 9 ((0 : Int), (0 : Int), (0 : Int)))) : Option ((List (TAccount)))) := by kernel_rfl
theorem h_law07_Book_Accounts_s (k m : Nat) (t10 : Int) (t11 : Int) (b_ : List (Int)) (b_1 : List (Int)) (b_2 : List (Int)) (as_ : List (TAccount)) : h_law07_Book_Accounts k (m + 1) t10 t11 b_ b_1 b_2 as_ =
 (bif decide (t11 < t10) then (bif (inb t11 as_.length) then (h_law07_Book_Accounts k m t10 (w64 (t11 + (1 : Int))) b_ b_1 b_2 (List.set as_ (Int.toNat t11) ((w64 (Int.tdiv t11 (3 : Int))), (List.getD as_ (Int.toNat t11) ((0 : Int), (0 : Int), (0 : Int))).2)))
 else none)
 else (h_law07_Book_Accounts_1 k k b_ (b_.length : Int) (0 : Int) b_ b_1 b_2 as_)) := by kernel_rfl
theorem h_law07_Book_Accounts_z (k  : Nat) (t10 : Int) (t11 : Int) (b_ : List (Int)) (b_1 : List (Int)) (b_2 : List (Int)) (as_ : List (TAccount)) : h_law07_Book_Accounts k 0 t10 t11 b_ b_1 b_2 as_ = none := by kernel_rfl
theorem h_law07_Book_Accounts_1_s (k m : Nat) (t22 : List (Int)) (t23 : Int) (t24 : Int) (b_ : List (Int)) (b_1 : List (Int)) (b_2 : List (Int)) (as_ : List (TAccount)) (e1 : Int) (h_e1 : e1 = (b_2.length : Int)) (e2 : Int) (h_e2 : e2 = (w64 (t24 + (1 : Int)))) (e3 : Int) (h_e3 : e3 = (w64 (Int.tmod (List.getD t22 (Int.toNat t24) (0 : Int)) (3 : Int)))) (e4 : Int) (h_e4 : e4 = (w64 (Int.tmod (List.getD b_1 (Int.toNat t24) (0 : Int)) (100000 : Int)))) (e5 : Int) (h_e5 : e5 = (w64 (Int.tmod (List.getD b_2 (Int.toNat t24) (0 : Int)) (101 : Int)))) (e6 : Int) (h_e6 : e6 = (w64 ((3 : Int) * e3))) (e7 : (List (Int × (Int × Int)))) (h_e7 : e7 = [(e3, (0 : Int), (0 : Int))]) (e8 : (Int × (Int × Int))) (h_e8 : e8 = (List.getD as_ (Int.toNat e6) ((0 : Int), (0 : Int), (0 : Int)))) (e9 : (List (Int × (Int × Int)))) (h_e9 : e9 = [(e3, e4, (0 : Int))]) (e10 : (List (Int × (Int × Int)))) (h_e10 : e10 = [(e3, (0 : Int), (w64 (Int.tdiv (w64 ((0 : Int) * e5)) (100 : Int))))]) (e11 : (List (Int × (Int × Int)))) (h_e11 : e11 = [(e3, e4, (w64 (Int.tdiv (w64 (e4 * e5)) (100 : Int))))]) (e12 : (List (Int × (Int × Int)))) (h_e12 : e12 = (List.set as_ (Int.toNat e6) (e8.1, (w64 (e8.2.1 - (0 : Int))), e8.2.2))) (e13 : (List (Int × (Int × Int)))) (h_e13 : e13 = (List.set as_ (Int.toNat e6) (e8.1, (w64 (e8.2.1 - e4)), e8.2.2))) : h_law07_Book_Accounts_1 k (m + 1) t22 t23 t24 b_ b_1 b_2 as_ =
 (bif decide (t24 < t23) then (bif (inb t24 t22.length) then (bif decide (t24 = (8 : Int)) then some as_
 else (bif decide (t24 < (b_1.length : Int)) then (bif (inb t24 b_1.length) then (bif decide (t24 < e1) then (bif (inb t24 b_2.length) then (bif (inb e6 as_.length) then (bif (inb e6 as_.length) then (bif decide (((e13.length + e11.length) * 24) ≤ 211106232532992) then (h_law07_Book_Accounts_1 k m t22 t23 e2 b_ b_1 b_2 (e13 ++ e11))
 else none)
 else none)
 else none)
 else none)
 else (bif (inb e6 as_.length) then (bif (inb e6 as_.length) then (bif decide (((e13.length + e9.length) * 24) ≤ 211106232532992) then (h_law07_Book_Accounts_1 k m t22 t23 e2 b_ b_1 b_2 (e13 ++ e9))
 else none)
 else none)
 else none))
 else none)
 else (bif decide (t24 < e1) then (bif (inb t24 b_2.length) then (bif (inb e6 as_.length) then (bif (inb e6 as_.length) then (bif decide (((e12.length + e10.length) * 24) ≤ 211106232532992) then (h_law07_Book_Accounts_1 k m t22 t23 e2 b_ b_1 b_2 (e12 ++ e10))
 else none)
 else none)
 else none)
 else none)
 else (bif (inb e6 as_.length) then (bif (inb e6 as_.length) then (bif decide (((e12.length + e7.length) * 24) ≤ 211106232532992) then (h_law07_Book_Accounts_1 k m t22 t23 e2 b_ b_1 b_2 (e12 ++ e7))
 else none)
 else none)
 else none))))
 else none)
 else some as_) := by
  subst h_e1 h_e2 h_e3 h_e4 h_e5 h_e6 h_e7 h_e8 h_e9 h_e10 h_e11 h_e12 h_e13
  kernel_rfl
theorem h_law07_Book_Accounts_1_z (k  : Nat) (t22 : List (Int)) (t23 : Int) (t24 : Int) (b_ : List (Int)) (b_1 : List (Int)) (b_2 : List (Int)) (as_ : List (TAccount)) : h_law07_Book_Accounts_1 k 0 t22 t23 t24 b_ b_1 b_2 as_ = none := by kernel_rfl
/-- hawala/hawalalaw08.Entries -/
theorem f_law08_Entries (k : Nat) (as_ : List (TAccount)) (ps_ : List (TPair)) : CF (k + 1) ⟨[(true, (.slice KEntry))], []⟩ n_law08_Entries [inj (.slice KAccount) as_, inj (.slice KPair) ps_] =
 ((h_law08_Entries k k as_ ps_ (ps_.length : Int) (0 : Int) [] (0 : Int) (0 : Int) (0 : Int)) : Option ((List (TEntry)))) := by kernel_rfl
theorem h_law08_Entries_s (k m : Nat) (as_ : List (TAccount)) (t12 : List (TPair)) (t13 : Int) (t14 : Int) (out_ : List (TEntry)) (sums_ : Int) (sums_1 : Int) (sums_2 : Int) (e1 : Int) (h_e1 : e1 = (as_.length : Int)) (e2 : (Int × Int)) (h_e2 : e2 = (List.getD t12 (Int.toNat t14) ((0 : Int), (0 : Int)))) (e3 : Int) (h_e3 : e3 = (Int.tmod (w64 e2.2) (50000 : Int))) (e4 : Int) (h_e4 : e4 = (Int.tmod (w64 e2.1) e1)) (e5 : Int) (h_e5 : e5 = (List.getD as_ (Int.toNat e4) ((0 : Int), (0 : Int), (0 : Int))).1) (e6 : Int) (h_e6 : e6 = (w64 ((selInt e5 [sums_, sums_1, sums_2]) + e3))) : h_law08_Entries k (m + 1) as_ t12 t13 t14 out_ sums_ sums_1 sums_2 =
 (bif decide (t14 < t13) then (bif (inb t14 t12.length) then (bif decide (t14 = (6 : Int)) then (h_law08_Entries_1 k k sums_ sums_1 sums_2 (0 : Int) out_)
 else (bif (!decide (e1 = (0 : Int))) then (bif (inb e4 as_.length) then (bif (inb e5 3) then (bif (inb e5 3) then (bif decide (((out_.length + [(e4, e3)].length) * 16) ≤ 211106232532992) then (h_law08_Entries k m as_ t12 t13 (w64 (t14 + (1 : Int))) (out_ ++ [(e4, e3)]) (bif decide (e5 = (0 : Int)) then e6
 else sums_) (bif decide (e5 = (1 : Int)) then e6
 else sums_1) (bif decide (e5 = (2 : Int)) then e6
 else sums_2))
 else none)
 else none)
 else none)
 else none)
 else none))
 else none)
 else (h_law08_Entries_1 k k sums_ sums_1 sums_2 (0 : Int) out_)) := by
  subst h_e1 h_e2 h_e3 h_e4 h_e5 h_e6
  kernel_rfl
theorem h_law08_Entries_z (k  : Nat) (as_ : List (TAccount)) (t12 : List (TPair)) (t13 : Int) (t14 : Int) (out_ : List (TEntry)) (sums_ : Int) (sums_1 : Int) (sums_2 : Int) : h_law08_Entries k 0 as_ t12 t13 t14 out_ sums_ sums_1 sums_2 = none := by kernel_rfl
theorem h_law08_Entries_1_s (k m : Nat) (t49 : Int) (t491 : Int) (t492 : Int) (t50 : Int) (out_ : List (TEntry)) (e1 : Int) (h_e1 : e1 = (w64 (t50 + (1 : Int)))) (e2 : Int) (h_e2 : e2 = (selInt t50 [t49, t491, t492])) (e3 : (List (Int × Int))) (h_e3 : e3 = [((w64 ((3 : Int) * t50)), (w64 ((0 : Int) - e2)))]) : h_law08_Entries_1 k (m + 1) t49 t491 t492 t50 out_ =
 (bif decide (t50 < (3 : Int)) then (bif (inb t50 3) then (bif (!decide (e2 = (0 : Int))) then (bif decide (((out_.length + e3.length) * 16) ≤ 211106232532992) then (h_law08_Entries_1 k m t49 t491 t492 e1 (out_ ++ e3))
 else none)
 else (h_law08_Entries_1 k m t49 t491 t492 e1 out_))
 else none)
 else some out_) := by
  subst h_e1 h_e2 h_e3
  kernel_rfl
theorem h_law08_Entries_1_z (k  : Nat) (t49 : Int) (t491 : Int) (t492 : Int) (t50 : Int) (out_ : List (TEntry)) : h_law08_Entries_1 k 0 t49 t491 t492 t50 out_ = none := by kernel_rfl
/-- hawala/entry.Balanced -/
theorem f_entry_Balanced (k : Nat) (as_ : List (TAccount)) (es_ : List (TEntry)) : CF (k + 1) ⟨[(false, .bool)], []⟩ n_entry_Balanced [inj (.slice KAccount) as_, inj (.slice KEntry) es_] =
 ((h_entry_Balanced k k as_ es_ (es_.length : Int) (0 : Int) (0 : Int) (0 : Int) (0 : Int)) : Option (Bool)) := by kernel_rfl
theorem h_entry_Balanced_s (k m : Nat) (as_ : List (TAccount)) (t13 : List (TEntry)) (t14 : Int) (t15 : Int) (sums_ : Int) (sums_1 : Int) (sums_2 : Int) (e1 : (Int × Int)) (h_e1 : e1 = (List.getD t13 (Int.toNat t15) ((0 : Int), (0 : Int)))) : h_entry_Balanced k (m + 1) as_ t13 t14 t15 sums_ sums_1 sums_2 =
 (bif decide (t15 < t14) then (bif (inb t15 t13.length) then ((CF k ⟨[(false, (.int .i64)), (false, .bool)], []⟩ n_chart_Of [inj (.slice KAccount) as_, inj (.int .i64) e1.1]).bind fun (r : Int × Bool) =>
 (bif (!r.2) then some false
 else ((CF k ⟨[(false, .bool)], []⟩ n_money_May [inj (.int .i64) e1.2]).bind fun (r_1 : Bool) =>
 (bif (!r_1) then some false
 else (h_entry_Balanced_1 k m k as_ t13 t14 t15 sums_ sums_1 sums_2 e1.1 e1.2)))))
 else none)
 else some (decide (sums_ = (0 : Int)) && (decide (sums_1 = (0 : Int)) && (decide (sums_2 = (0 : Int)) && true)))) := by
  subst h_e1
  kernel_rfl
theorem h_entry_Balanced_z (k  : Nat) (as_ : List (TAccount)) (t13 : List (TEntry)) (t14 : Int) (t15 : Int) (sums_ : Int) (sums_1 : Int) (sums_2 : Int) : h_entry_Balanced k 0 as_ t13 t14 t15 sums_ sums_1 sums_2 = none := by kernel_rfl
theorem h_entry_Balanced_1_s (k m1 m : Nat) (as_ : List (TAccount)) (t13 : List (TEntry)) (t14 : Int) (t15 : Int) (sums_ : Int) (sums_1 : Int) (sums_2 : Int) (e_ : Int) (e_1 : Int) (e1 : Int) (h_e1 : e1 = (List.getD as_ (Int.toNat e_) ((0 : Int), (0 : Int), (0 : Int))).1) : h_entry_Balanced_1 k m1 (m + 1) as_ t13 t14 t15 sums_ sums_1 sums_2 e_ e_1 =
 (bif (inb e_ as_.length) then (bif decide (e1 < (0 : Int)) then some false
 else (bif decide ((3 : Int) ≤ e1) then some false
 else (h_entry_Balanced_2 k m1 k as_ e1 t13 t14 t15 sums_ sums_1 sums_2 e_ e_1)))
 else none) := by
  subst h_e1
  kernel_rfl
theorem h_entry_Balanced_1_z (k m1 : Nat) (as_ : List (TAccount)) (t13 : List (TEntry)) (t14 : Int) (t15 : Int) (sums_ : Int) (sums_1 : Int) (sums_2 : Int) (e_ : Int) (e_1 : Int) : h_entry_Balanced_1 k m1 0 as_ t13 t14 t15 sums_ sums_1 sums_2 e_ e_1 = none := by kernel_rfl
theorem h_entry_Balanced_2_s (k m1 m : Nat) (as_ : List (TAccount)) (c_ : Int) (t13 : List (TEntry)) (t14 : Int) (t15 : Int) (sums_ : Int) (sums_1 : Int) (sums_2 : Int) (e_ : Int) (e_1 : Int) : h_entry_Balanced_2 k m1 (m + 1) as_ c_ t13 t14 t15 sums_ sums_1 sums_2 e_ e_1 =
 (bif (inb c_ 3) then ((CF k ⟨[(false, (.int .i64)), (false, .err)], []⟩ n_money_Add [inj (.int .i64) (selInt c_ [sums_, sums_1, sums_2]), inj (.int .i64) e_1]).bind fun (r : Int × (Option Int)) =>
 (bif r.2.isSome then some false
 else (bif (inb c_ 3) then (h_entry_Balanced k m1 as_ t13 t14 (w64 (t15 + (1 : Int))) (bif decide (c_ = (0 : Int)) then r.1
 else sums_) (bif decide (c_ = (1 : Int)) then r.1
 else sums_1) (bif decide (c_ = (2 : Int)) then r.1
 else sums_2))
 else none)))
 else none) := by kernel_rfl
theorem h_entry_Balanced_2_z (k m1 : Nat) (as_ : List (TAccount)) (c_ : Int) (t13 : List (TEntry)) (t14 : Int) (t15 : Int) (sums_ : Int) (sums_1 : Int) (sums_2 : Int) (e_ : Int) (e_1 : Int) : h_entry_Balanced_2 k m1 0 as_ c_ t13 t14 t15 sums_ sums_1 sums_2 e_ e_1 = none := by kernel_rfl
/-- hawala/hawalalaw08.balanced -/
theorem f_law08_balanced (k : Nat) (as_ : List (TAccount)) (es_ : List (TEntry)) : CF (k + 1) ⟨[(false, .bool)], []⟩ n_law08_balanced [inj (.slice KAccount) as_, inj (.slice KEntry) es_] =
 ((h_law08_balanced k k as_ es_ (es_.length : Int) (0 : Int) []) : Option (Bool)) := by kernel_rfl
theorem h_law08_balanced_s (k m : Nat) (as_ : List (TAccount)) (t11 : List (TEntry)) (t12 : Int) (t13 : Int) (sums_ : List (Int × (Int))) (e1 : (Int × Int)) (h_e1 : e1 = (List.getD t11 (Int.toNat t13) ((0 : Int), (0 : Int)))) (e2 : Int) (h_e2 : e2 = (List.getD as_ (Int.toNat e1.1) ((0 : Int), (0 : Int), (0 : Int))).1) : h_law08_balanced k (m + 1) as_ t11 t12 t13 sums_ =
 (bif decide (t13 < t12) then (bif (inb t13 t11.length) then (bif decide (e1.1 < (0 : Int)) then some false
 else (bif decide ((as_.length : Int) ≤ e1.1) then some false
 else (bif (inb e1.1 as_.length) then (bif decide (e2 < (0 : Int)) then some false
 else (bif (inb e1.1 as_.length) then (bif decide ((2 : Int) < e2) then some false
 else (h_law08_balanced_1 k m k as_ t11 t12 t13 sums_ e1.1 e1.2))
 else none))
 else none)))
 else none)
 else (bif decide ((mapGet (0 : Int) sums_ (0 : Int)) = (0 : Int)) then (bif decide ((mapGet (0 : Int) sums_ (1 : Int)) = (0 : Int)) then some (decide ((mapGet (0 : Int) sums_ (2 : Int)) = (0 : Int)))
 else some false)
 else some false)) := by
  subst h_e1 h_e2
  kernel_rfl
theorem h_law08_balanced_z (k  : Nat) (as_ : List (TAccount)) (t11 : List (TEntry)) (t12 : Int) (t13 : Int) (sums_ : List (Int × (Int))) : h_law08_balanced k 0 as_ t11 t12 t13 sums_ = none := by kernel_rfl
theorem h_law08_balanced_1_s (k m1 m : Nat) (as_ : List (TAccount)) (t11 : List (TEntry)) (t12 : Int) (t13 : Int) (sums_ : List (Int × (Int))) (e_ : Int) (e_1 : Int) (e1 : Int) (h_e1 : e1 = (List.getD as_ (Int.toNat e_) ((0 : Int), (0 : Int), (0 : Int))).1) : h_law08_balanced_1 k m1 (m + 1) as_ t11 t12 t13 sums_ e_ e_1 =
 (bif (inb e_ as_.length) then ((CF k ⟨[(false, (.int .i64)), (false, .err)], []⟩ n_money_Add [inj (.int .i64) (mapGet (0 : Int) sums_ e1), inj (.int .i64) e_1]).bind fun (r : Int × (Option Int)) =>
 (bif r.2.isSome then some false
 else (bif (inb e_ as_.length) then (h_law08_balanced k m1 as_ t11 t12 (w64 (t13 + (1 : Int))) (mapPut sums_ e1 r.1))
 else none)))
 else none) := by
  subst h_e1
  kernel_rfl
theorem h_law08_balanced_1_z (k m1 : Nat) (as_ : List (TAccount)) (t11 : List (TEntry)) (t12 : Int) (t13 : Int) (sums_ : List (Int × (Int))) (e_ : Int) (e_1 : Int) : h_law08_balanced_1 k m1 0 as_ t11 t12 t13 sums_ e_ e_1 = none := by kernel_rfl
/-- hawala/entry.Move -/
theorem f_entry_Move (k : Nat) (as_ : List (TAccount)) (from_ : Int) (to_ : Int) (amount_ : Int) : CF (k + 1) ⟨[(false, (.slice KEntry)), (false, .err)], []⟩ n_entry_Move [inj (.slice KAccount) as_, inj (.int .i64) from_, inj (.int .i64) to_, inj (.int .i64) amount_] =
 (((CF k ⟨[(false, (.int .i64)), (false, .bool)], []⟩ n_chart_Of [inj (.slice KAccount) as_, inj (.int .i64) from_]).bind fun (r : Int × Bool) =>
 (bif (!r.2) then some ([], some (2 : Int))
 else ((CF k ⟨[(false, (.int .i64)), (false, .bool)], []⟩ n_chart_Of [inj (.slice KAccount) as_, inj (.int .i64) to_]).bind fun (r_1 : Int × Bool) =>
 (bif (!r_1.2) then some ([], some (2 : Int))
 else (bif decide (from_ = to_) then some ([], some (1 : Int))
 else ((CF k ⟨[(false, .bool)], []⟩ n_money_Amount [inj (.int .i64) amount_]).bind fun (r_2 : Bool) =>
 (bif (!r_2) then some ([], some (1 : Int))
 else (h_entry_Move k k as_ from_ to_ amount_)))))))) : Option ((List (TEntry)) × (Option Int))) := by kernel_rfl
theorem h_entry_Move_s (k m : Nat) (as_ : List (TAccount)) (from_ : Int) (to_ : Int) (amount_ : Int) (e1 : Int) (h_e1 : e1 = (List.getD as_ (Int.toNat from_) ((0 : Int), (0 : Int), (0 : Int))).1) (e2 : Int) (h_e2 : e2 = (List.getD as_ (Int.toNat to_) ((0 : Int), (0 : Int), (0 : Int))).1) : h_entry_Move k (m + 1) as_ from_ to_ amount_ =
 (bif (inb from_ as_.length) then (bif (inb to_ as_.length) then (bif decide (e1 = e2) then some ([(from_, (w64 ((0 : Int) - amount_))), (to_, amount_)], none)
 else ((CF k ⟨[(false, (.int .i64))], []⟩ n_chart_Number [inj (.int .i64) (1 : Int), inj (.int .i64) e1]).bind fun (r : Int) =>
 ((CF k ⟨[(false, (.int .i64))], []⟩ n_chart_Number [inj (.int .i64) (1 : Int), inj (.int .i64) e2]).bind fun (r_1 : Int) =>
 (bif decide (r < (0 : Int)) then some ([], some (2 : Int))
 else (bif decide (r_1 < (0 : Int)) then some ([], some (2 : Int))
 else (h_entry_Move_1 k k from_ to_ amount_ e1 e2 r r_1))))))
 else none)
 else none) := by
  subst h_e1 h_e2
  kernel_rfl
theorem h_entry_Move_z (k  : Nat) (as_ : List (TAccount)) (from_ : Int) (to_ : Int) (amount_ : Int) : h_entry_Move k 0 as_ from_ to_ amount_ = none := by kernel_rfl
theorem h_entry_Move_1_s (k m : Nat) (from_ : Int) (to_ : Int) (amount_ : Int) (a_ : Int) (b_ : Int) (x_ : Int) (y_ : Int) : h_entry_Move_1 k (m + 1) from_ to_ amount_ a_ b_ x_ y_ =
 ((CF k ⟨[(false, (.strct (.prod (.strct (.prod KEntry (.prod KEntry KEntry))) (.prod (.strct (.prod KEntry (.prod KEntry KEntry))) (.strct (.prod KEntry (.prod KEntry KEntry)))))))], []⟩ n_money_Rates []).bind fun (r : (((TEntry) × (TEntry) × TEntry) × ((TEntry) × (TEntry) × TEntry) × (TEntry) × (TEntry) × TEntry)) =>
 (bif (inb a_ 3) then (bif (inb b_ 3) then ((CF k ⟨[(false, (.int .i64)), (false, (.int .i64)), (false, .err)], []⟩ n_money_Convert [inj (.int .i64) amount_, inj KEntry ((selInt b_ [(selInt a_ [r.1.1.1, r.2.1.1.1, r.2.2.1.1]), (selInt a_ [r.1.2.1.1, r.2.1.2.1.1, r.2.2.2.1.1]), (selInt a_ [r.1.2.2.1, r.2.1.2.2.1, r.2.2.2.2.1])]), (selInt b_ [(selInt a_ [r.1.1.2, r.2.1.1.2, r.2.2.1.2]), (selInt a_ [r.1.2.1.2, r.2.1.2.1.2, r.2.2.2.1.2]), (selInt a_ [r.1.2.2.2, r.2.1.2.2.2, r.2.2.2.2.2])]))]).bind fun (r_1 : Int × Int × (Option Int)) =>
 (bif r_1.2.2.isSome then some ([], r_1.2.2)
 else (bif decide (r_1.1 = (0 : Int)) then some ([], some (1 : Int))
 else some ([(from_, (w64 ((0 : Int) - amount_))), (x_, amount_), (y_, (w64 ((0 : Int) - r_1.1))), (to_, r_1.1)], none))))
 else none)
 else none)) := by kernel_rfl
theorem h_entry_Move_1_z (k  : Nat) (from_ : Int) (to_ : Int) (amount_ : Int) (a_ : Int) (b_ : Int) (x_ : Int) (y_ : Int) : h_entry_Move_1 k 0 from_ to_ amount_ a_ b_ x_ y_ = none := by kernel_rfl
/-- hawala/chart.Number -/
theorem f_chart_Number (k : Nat) (k_ : Int) (cur_ : Int) : CF (k + 1) ⟨[(false, (.int .i64))], []⟩ n_chart_Number [inj (.int .i64) k_, inj (.int .i64) cur_] =
 ((bif decide (k_ < (0 : Int)) then some (-1 : Int)
 else (bif decide ((2 : Int) < k_) then some (-1 : Int)
 else (bif decide (cur_ < (0 : Int)) then some (-1 : Int)
 else (bif decide ((3 : Int) ≤ cur_) then some (-1 : Int)
 else some (w64 ((w64 ((3 : Int) * cur_)) + k_)))))) : Option (Int)) := by kernel_rfl
/-- hawala/chart.Of -/
theorem f_chart_Of (k : Nat) (as_ : List (TAccount)) (k_ : Int) : CF (k + 1) ⟨[(false, (.int .i64)), (false, .bool)], []⟩ n_chart_Of [inj (.slice KAccount) as_, inj (.int .i64) k_] =
 ((bif decide (k_ < (0 : Int)) then some ((0 : Int), false)
 else (bif decide ((as_.length : Int) ≤ k_) then some ((0 : Int), false)
 else (bif decide (k_ < (9 : Int)) then some ((Int.tmod k_ (3 : Int)), true)
 else some ((3 : Int), true)))) : Option (Int × Bool)) := by kernel_rfl
/-- hawala/money.May -/
theorem f_money_May (k : Nat) (n_ : Int) : CF (k + 1) ⟨[(false, .bool)], []⟩ n_money_May [inj (.int .i64) n_] =
 ((bif decide ((-1125899906842624 : Int) ≤ n_) then some (decide (n_ ≤ (1125899906842624 : Int)))
 else some false) : Option (Bool)) := by kernel_rfl
/-- hawala/money.Add -/
theorem f_money_Add (k : Nat) (a_ : Int) (b_ : Int) : CF (k + 1) ⟨[(false, (.int .i64)), (false, .err)], []⟩ n_money_Add [inj (.int .i64) a_, inj (.int .i64) b_] =
 (((CF k ⟨[(false, .bool)], []⟩ n_money_May [inj (.int .i64) a_]).bind fun (r : Bool) =>
 (bif (!r) then some ((0 : Int), some (4 : Int))
 else ((CF k ⟨[(false, .bool)], []⟩ n_money_May [inj (.int .i64) b_]).bind fun (r_1 : Bool) =>
 (bif (!r_1) then some ((0 : Int), some (4 : Int))
 else ((CF k ⟨[(false, .bool)], []⟩ n_money_May [inj (.int .i64) (w64 (a_ + b_))]).bind fun (r_2 : Bool) =>
 (bif (!r_2) then some ((0 : Int), some (4 : Int))
 else some ((w64 (a_ + b_)), none))))))) : Option (Int × (Option Int))) := by kernel_rfl
/-- hawala/money.Amount -/
theorem f_money_Amount (k : Nat) (n_ : Int) : CF (k + 1) ⟨[(false, .bool)], []⟩ n_money_Amount [inj (.int .i64) n_] =
 ((bif decide ((1 : Int) ≤ n_) then some (decide (n_ ≤ (1099511627776 : Int)))
 else some false) : Option (Bool)) := by kernel_rfl
/-- hawala/money.Rates -/
theorem f_money_Rates (k : Nat) : CF (k + 1) ⟨[(false, (.strct (.prod (.strct (.prod KEntry (.prod KEntry KEntry))) (.prod (.strct (.prod KEntry (.prod KEntry KEntry))) (.strct (.prod KEntry (.prod KEntry KEntry)))))))], []⟩ n_money_Rates [] =
 (some ((((1 : Int), (1 : Int)), ((9 : Int), (10 : Int)), (150 : Int), (1 : Int)), (((11 : Int), (10 : Int)), ((1 : Int), (1 : Int)), (160 : Int), (1 : Int)), ((1 : Int), (151 : Int)), ((1 : Int), (161 : Int)), (1 : Int), (1 : Int)) : Option ((((TEntry) × (TEntry) × TEntry) × ((TEntry) × (TEntry) × TEntry) × (TEntry) × (TEntry) × TEntry))) := by kernel_rfl
/-- hawala/money.Convert -/
theorem f_money_Convert (k : Nat) (n_ : Int) (r_ : TEntry) (e1 : Int) (h_e1 : e1 = (w64 (n_ * r_.1))) (e2 : Int) (h_e2 : e2 = (w64 (Int.tdiv e1 r_.2))) : CF (k + 1) ⟨[(false, (.int .i64)), (false, (.int .i64)), (false, .err)], []⟩ n_money_Convert [inj (.int .i64) n_, inj KEntry r_] =
 (((CF k ⟨[(false, .bool)], []⟩ n_money_Amount [inj (.int .i64) n_]).bind fun (r : Bool) =>
 (bif (!r) then some ((0 : Int), (0 : Int), some (13 : Int))
 else ((CF k ⟨[(false, .bool)], []⟩ n_money_Rate_right [inj KEntry r_]).bind fun (r_1 : Bool) =>
 (bif (!r_1) then some ((0 : Int), (0 : Int), some (13 : Int))
 else (bif (!decide (r_.2 = (0 : Int))) then (bif decide ((1099511627776 : Int) < e2) then some ((0 : Int), (0 : Int), some (4 : Int))
 else (bif (!decide (r_.2 = (0 : Int))) then (bif (!decide (r_.2 = (0 : Int))) then some (e2, (Int.tmod e1 r_.2), none)
 else none)
 else none))
 else none))))) : Option (Int × Int × (Option Int))) := by
  subst h_e1 h_e2
  kernel_rfl
/-- (hawala/money.Rate).right -/
theorem f_money_Rate_right (k : Nat) (r_ : TEntry) : CF (k + 1) ⟨[(false, .bool)], []⟩ n_money_Rate_right [inj KEntry r_] =
 ((bif decide ((1 : Int) ≤ r_.1) then (bif decide (r_.1 ≤ (1024 : Int)) then (bif decide ((1 : Int) ≤ r_.2) then some (decide (r_.2 ≤ (1024 : Int)))
 else some false)
 else some false)
 else some false) : Option (Bool)) := by kernel_rfl
end Go.Eng.Enb
