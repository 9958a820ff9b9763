/- What the functions of this chapter come to (printed by eq.py out of the program, by the engine; each equation is checked by Lean's kernel). No conditions. -/
import Derived.Test.YtdnaeganhnnffaaE30
import Derived.Test.YtdnaeganhnnffaaProg
set_option linter.all false
set_option linter.unusedVariables false
set_option linter.unusedSimpArgs false
set_option linter.deprecated false
namespace Go.Eng.Crc
open Go.Proofs Go.Eng
def aOwn : Nat → List Bool := fun _ => []
def aMv : Nat → List Bool := fun _ => []
def aProm : Nat → List Nat := fun _ => []
def aNils : Nat → List Nat := fun _ => []
def aKeep : Nat → Nat → List Nat := fun f b => match f, b with
  | 5, 0 => [0, 1, 2, 7, 8, 22, 23]
  | 7, 0 => [0, 5, 6, 15, 16, 17]
  | 10, 0 => [3, 6, 7, 8]
  | 11, 0 => [3, 7, 8, 9]
  | 11, 2 => [3, 6, 7, 8, 9]
  | 12, 0 => [0, 17, 18, 19]
  | 14, 0 => [0, 10]
  | _, _ => []
def aCut : Nat → Nat → Option (List Nat) := fun _ _ => none
def A : Ann := ⟨0, aOwn, aMv, aProm, aKeep, aNils, aCut⟩
abbrev X : Outer := (fun _ _ _ => none)
noncomputable abbrev CF : Nat → CallF := callF Try.prog A X
set_option maxRecDepth 1000000
set_option maxHeartbeats 0
abbrev KboundsError : K := (.strct (.prod (.int .i64) (.prod (.int .i64) (.prod .bool (.int .u8)))))
abbrev TboundsError : Type := (Int) × (Int) × (Bool) × Int
abbrev KerrorAddressString : K := (.strct (.prod .str (.int .u64)))
abbrev TerrorAddressString : Type := (List Int) × Int
abbrev KRunning : K := (.strct (.prod (.int .u32) .bool))
abbrev TRunning : Type := (Int) × Bool
abbrev n_law03_CrcParts : Nat := 7
abbrev n_law03_CrcZero : Nat := 8
abbrev n_law03_awake : Nat := 9
abbrev n_crc_Running_Write : Nat := 12
abbrev n_crc_Running_Sum : Nat := 13
abbrev n_law03_sum : Nat := 11
abbrev n_crc_Sum : Nat := 10
abbrev n_crc_step : Nat := 14
/-- hawala/hawalalaw03.CrcParts -/
noncomputable def h_law03_CrcParts (k m : Nat) (b_ : List (Int)) (rest_ : List (Int)) (t15 : List (Int)) (t16 : Int) (t17 : Int) (s_ : Int) (s_1 : Bool) : Option (Bool) := headB Try.prog A (CF k) k ⟨[(false, .bool)], []⟩ 7 [] [.r, .r, .r, .r, .l, .r, .l] m ⟨[(0, .val false [.sl (.int .u8) b_]), (5, .val false [.ptr 5 0 0 []]), (6, .val false [.sl (.int .u8) rest_]), (15, .val false [.sl (.int .u8) t15]), (16, .val false [.int .i64 t16]), (17, .val false [.int .i64 t17])], [(5, .box [.int .u32 s_, .bool s_1])]⟩
/-- (*hawala/crc.Running).Write -/
noncomputable def h_crc_Running_Write (k m : Nat) (t17 : List (Int)) (t18 : Int) (t19 : Int) (s_ : Int) (s_1 : Bool) : Option (TRunning) := headB Try.prog A (CF k) k ⟨[], [KRunning]⟩ 12 [0] [.r, .r, .l] m ⟨[(0, .val false [.ptr 0 0 0 []]), (17, .val false [.sl (.int .u8) t17]), (18, .val false [.int .i64 t18]), (19, .val false [.int .i64 t19])], [(0, .box [.int .u32 s_, .bool s_1])]⟩
/-- hawala/hawalalaw03.sum -/
noncomputable def h_law03_sum (k m : Nat) (r_ : Int) (t7 : List (Int)) (t8 : Int) (t9 : Int) : Option (Int) := headB Try.prog A (CF k) k ⟨[(false, (.int .u32))], []⟩ 11 [] [.r, .r, .l, .r, .l] m ⟨[(3, .val false [.int .u32 r_]), (7, .val false [.sl (.int .u8) t7]), (8, .val false [.int .i64 t8]), (9, .val false [.int .i64 t9])], []⟩
/-- hawala/hawalalaw03.sum -/
noncomputable def h_law03_sum_1 (k m1 m : Nat) (r_ : Int) (k_ : Int) (t7 : List (Int)) (t8 : Int) (t9 : Int) : Option (Int) := headB Try.prog A (CF k) k ⟨[(false, (.int .u32))], []⟩ 11 [] [.r, .r, .l, .r, .l, .lp m1, .r, .r, .l, .l, .r, .r, .r, .l] m ⟨[(3, .val false [.int .u32 r_]), (6, .val false [.int .i64 k_]), (7, .val false [.sl (.int .u8) t7]), (8, .val false [.int .i64 t8]), (9, .val false [.int .i64 t9])], []⟩
/-- hawala/crc.Sum -/
noncomputable def h_crc_Sum (k m : Nat) (r_ : Int) (t6 : List (Int)) (t7 : Int) (t8 : Int) : Option (Int) := headB Try.prog A (CF k) k ⟨[(false, (.int .u32))], []⟩ 10 [] [.r, .r, .l, .r, .l] m ⟨[(3, .val false [.int .u32 r_]), (6, .val false [.sl (.int .u8) t6]), (7, .val false [.int .i64 t7]), (8, .val false [.int .i64 t8])], []⟩
/-- hawala/crc.step -/
noncomputable def h_crc_step (k m : Nat) (r_ : Int) (t10 : Int) : Option (Int) := headB Try.prog A (CF k) k ⟨[(false, (.int .u32))], []⟩ 14 [] [.r, .r, .l, .r, .l] m ⟨[(0, .val false [.int .u32 r_]), (10, .val false [.int .i64 t10])], []⟩
/-- hawala/hawalalaw03.CrcParts -/
theorem f_law03_CrcParts (k : Nat) (b_ : List (Int)) (cuts_ : List (Int)) : CF (k + 1) ⟨[(false, .bool)], []⟩ n_law03_CrcParts [inj (.slice (.int .u8)) b_, inj (.slice (.int .u8)) cuts_] =
 (((CF k ⟨[(false, .bool)], []⟩ n_law03_awake []).bind fun (r : Bool) =>
 (bif (!r) then some false
 else (h_law03_CrcParts k k b_ b_ cuts_ (cuts_.length : Int) (0 : Int) (0 : Int) false))) : Option (Bool)) := by kernel_rfl
theorem h_law03_CrcParts_s (k m : Nat) (b_ : List (Int)) (rest_ : List (Int)) (t15 : List (Int)) (t16 : Int) (t17 : Int) (s_ : Int) (s_1 : Bool) (e1 : Int) (h_e1 : e1 = (rest_.length : Int)) (e2 : Int) (h_e2 : e2 = (b_.length : Int)) (e3 : Int) (h_e3 : e3 = (w64 (e1 + (1 : Int)))) (e4 : Int) (h_e4 : e4 = (Int.tmod (w64 (List.getD t15 (Int.toNat t17) (0 : Int))) e3)) (e5 : (List Int)) (h_e5 : e5 = (List.drop (Int.toNat e4) rest_)) (e6 : Int) (h_e6 : e6 = (w64 (e2 - (e5.length : Int)))) : h_law03_CrcParts k (m + 1) b_ rest_ t15 t16 t17 s_ s_1 =
 (bif decide (t17 < t16) then (bif (inb t17 t15.length) then (bif (!decide (e3 = (0 : Int))) then (bif (decide ((0 : Int) ≤ e4) && decide (e4 ≤ e1)) then ((CF k ⟨[], [KRunning]⟩ n_crc_Running_Write [.val false [.io KRunning (s_, s_1)], inj (.slice (.int .u8)) (List.take (Int.toNat e4) rest_)]).bind fun (r : TRunning) =>
 (bif (decide ((0 : Int) ≤ e4) && decide (e4 ≤ e1)) then ((CF k ⟨[(false, (.int .u32))], [KRunning]⟩ n_crc_Running_Sum [.val false [.io KRunning r]]).bind fun (r_1 : Int × TRunning) =>
 (bif (decide ((0 : Int) ≤ e6) && decide (e6 ≤ e2)) then ((CF k ⟨[(false, (.int .u32))], []⟩ n_law03_sum [inj (.slice (.int .u8)) (List.take (Int.toNat e6) b_)]).bind fun (r_2 : Int) =>
 (bif (!decide (r_1.1 = r_2)) then some false
 else (h_law03_CrcParts k m b_ e5 t15 t16 (w64 (t17 + (1 : Int))) r_1.2.1 r_1.2.2)))
 else none))
 else none))
 else none)
 else none)
 else none)
 else ((CF k ⟨[], [KRunning]⟩ n_crc_Running_Write [.val false [.io KRunning (s_, s_1)], inj (.slice (.int .u8)) rest_]).bind fun (r : TRunning) =>
 ((CF k ⟨[(false, (.int .u32))], [KRunning]⟩ n_crc_Running_Sum [.val false [.io KRunning r]]).bind fun (r_1 : Int × TRunning) =>
 ((CF k ⟨[(false, (.int .u32))], []⟩ n_law03_sum [inj (.slice (.int .u8)) b_]).bind fun (r_2 : Int) =>
 some (decide (r_1.1 = r_2)))))) := by
  subst h_e1 h_e2 h_e3 h_e4 h_e5 h_e6
  kernel_rfl
theorem h_law03_CrcParts_z (k  : Nat) (b_ : List (Int)) (rest_ : List (Int)) (t15 : List (Int)) (t16 : Int) (t17 : Int) (s_ : Int) (s_1 : Bool) : h_law03_CrcParts k 0 b_ rest_ t15 t16 t17 s_ s_1 = none := by kernel_rfl
/-- hawala/hawalalaw03.CrcZero -/
theorem f_law03_CrcZero (k : Nat) (b_ : List (Int)) : CF (k + 1) ⟨[(false, .bool)], []⟩ n_law03_CrcZero [inj (.slice (.int .u8)) b_] =
 (((CF k ⟨[(false, .bool)], []⟩ n_law03_awake []).bind fun (r : Bool) =>
 (bif (!r) then some false
 else ((CF k ⟨[], [KRunning]⟩ n_crc_Running_Write [.val false [.io KRunning ((0 : Int), false)], inj (.slice (.int .u8)) []]).bind fun (r_1 : TRunning) =>
 ((CF k ⟨[(false, (.int .u32))], [KRunning]⟩ n_crc_Running_Sum [.val false [.io KRunning ((0 : Int), false)]]).bind fun (r_2 : Int × TRunning) =>
 (bif (!decide (r_2.1 = (0 : Int))) then some false
 else ((CF k ⟨[(false, (.int .u32))], [KRunning]⟩ n_crc_Running_Sum [.val false [.io KRunning r_1]]).bind fun (r_3 : Int × TRunning) =>
 (bif (!decide (r_3.1 = (0 : Int))) then some false
 else ((CF k ⟨[], [KRunning]⟩ n_crc_Running_Write [.val false [.io KRunning r_3.2], inj (.slice (.int .u8)) b_]).bind fun (r_4 : TRunning) =>
 ((CF k ⟨[(false, (.int .u32))], [KRunning]⟩ n_crc_Running_Sum [.val false [.io KRunning r_4]]).bind fun (r_5 : Int × TRunning) =>
 ((CF k ⟨[(false, (.int .u32))], []⟩ n_law03_sum [inj (.slice (.int .u8)) b_]).bind fun (r_6 : Int) =>
 some (decide (r_5.1 = r_6)))))))))))) : Option (Bool)) := by kernel_rfl
/-- hawala/hawalalaw03.awake -/
theorem f_law03_awake (k : Nat) : CF (k + 1) ⟨[(false, .bool)], []⟩ n_law03_awake [] =
 (((CF k ⟨[(false, (.int .u32))], []⟩ n_crc_Sum [inj (.slice (.int .u8)) [(49 : Int), (50 : Int), (51 : Int), (52 : Int), (53 : Int), (54 : Int), (55 : Int), (56 : Int), (57 : Int)]]).bind fun (r : Int) =>
 some (decide (r = (3421780262 : Int)))) : Option (Bool)) := by kernel_rfl
/-- (*hawala/crc.Running).Write -/
theorem f_crc_Running_Write (k : Nat) (s_ : TRunning) (b_ : List (Int)) (e1 : Int) (h_e1 : e1 = (b_.length : Int)) : CF (k + 1) ⟨[], [KRunning]⟩ n_crc_Running_Write [.val false [.io KRunning s_], inj (.slice (.int .u8)) b_] =
 ((bif (!s_.2) then (h_crc_Running_Write k k b_ e1 (0 : Int) (4294967295 : Int) true)
 else (h_crc_Running_Write k k b_ e1 (0 : Int) s_.1 s_.2)) : Option (TRunning)) := by
  subst h_e1
  kernel_rfl
theorem h_crc_Running_Write_s (k m : Nat) (t17 : List (Int)) (t18 : Int) (t19 : Int) (s_ : Int) (s_1 : Bool) : h_crc_Running_Write k (m + 1) t17 t18 t19 s_ s_1 =
 (bif decide (t19 < t18) then (bif (inb t19 t17.length) then ((CF k ⟨[(false, (.int .u32))], []⟩ n_crc_step [inj (.int .u32) s_, inj (.int .u8) (List.getD t17 (Int.toNat t19) (0 : Int))]).bind fun (r : Int) =>
 (h_crc_Running_Write k m t17 t18 (w64 (t19 + (1 : Int))) r s_1))
 else none)
 else some (s_, s_1)) := by kernel_rfl
theorem h_crc_Running_Write_z (k  : Nat) (t17 : List (Int)) (t18 : Int) (t19 : Int) (s_ : Int) (s_1 : Bool) : h_crc_Running_Write k 0 t17 t18 t19 s_ s_1 = none := by kernel_rfl
/-- (*hawala/crc.Running).Sum -/
theorem f_crc_Running_Sum (k : Nat) (s_ : TRunning) : CF (k + 1) ⟨[(false, (.int .u32))], [KRunning]⟩ n_crc_Running_Sum [.val false [.io KRunning s_]] =
 ((bif (!s_.2) then some ((0 : Int), s_)
 else some ((wrapb .u32 .xor (4294967295 : Int) s_.1), s_)) : Option (Int × TRunning)) := by kernel_rfl
/-- hawala/hawalalaw03.sum -/
theorem f_law03_sum (k : Nat) (b_ : List (Int)) : CF (k + 1) ⟨[(false, (.int .u32))], []⟩ n_law03_sum [inj (.slice (.int .u8)) b_] =
 ((h_law03_sum k k (4294967295 : Int) b_ (b_.length : Int) (0 : Int)) : Option (Int)) := by kernel_rfl
theorem h_law03_sum_s (k m : Nat) (r_ : Int) (t7 : List (Int)) (t8 : Int) (t9 : Int) : h_law03_sum k (m + 1) r_ t7 t8 t9 =
 (bif decide (t9 < t8) then (bif (inb t9 t7.length) then (h_law03_sum_1 k m k (wrapb .u32 .xor r_ (w32 (List.getD t7 (Int.toNat t9) (0 : Int)))) (0 : Int) t7 t8 t9)
 else none)
 else some (w32 ((4294967295 : Int) - r_))) := by kernel_rfl
theorem h_law03_sum_z (k  : Nat) (r_ : Int) (t7 : List (Int)) (t8 : Int) (t9 : Int) : h_law03_sum k 0 r_ t7 t8 t9 = none := by kernel_rfl
theorem h_law03_sum_1_s (k m1 m : Nat) (r_ : Int) (k_ : Int) (t7 : List (Int)) (t8 : Int) (t9 : Int) (e1 : Int) (h_e1 : e1 = (w32 (Int.tdiv r_ (2 : Int)))) (e2 : Int) (h_e2 : e2 = (w64 (k_ + (1 : Int)))) : h_law03_sum_1 k m1 (m + 1) r_ k_ t7 t8 t9 =
 (bif decide (k_ < (8 : Int)) then (bif decide ((Int.tmod r_ (2 : Int)) = (1 : Int)) then (h_law03_sum_1 k m1 m (wrapb .u32 .xor e1 (3988292384 : Int)) e2 t7 t8 t9)
 else (h_law03_sum_1 k m1 m e1 e2 t7 t8 t9))
 else (h_law03_sum k m1 r_ t7 t8 (w64 (t9 + (1 : Int))))) := by
  subst h_e1 h_e2
  kernel_rfl
theorem h_law03_sum_1_z (k m1 : Nat) (r_ : Int) (k_ : Int) (t7 : List (Int)) (t8 : Int) (t9 : Int) : h_law03_sum_1 k m1 0 r_ k_ t7 t8 t9 = none := by kernel_rfl
/-- hawala/crc.Sum -/
theorem f_crc_Sum (k : Nat) (b_ : List (Int)) : CF (k + 1) ⟨[(false, (.int .u32))], []⟩ n_crc_Sum [inj (.slice (.int .u8)) b_] =
 ((h_crc_Sum k k (4294967295 : Int) b_ (b_.length : Int) (0 : Int)) : Option (Int)) := by kernel_rfl
theorem h_crc_Sum_s (k m : Nat) (r_ : Int) (t6 : List (Int)) (t7 : Int) (t8 : Int) : h_crc_Sum k (m + 1) r_ t6 t7 t8 =
 (bif decide (t8 < t7) then (bif (inb t8 t6.length) then ((CF k ⟨[(false, (.int .u32))], []⟩ n_crc_step [inj (.int .u32) r_, inj (.int .u8) (List.getD t6 (Int.toNat t8) (0 : Int))]).bind fun (r : Int) =>
 (h_crc_Sum k m r t6 t7 (w64 (t8 + (1 : Int)))))
 else none)
 else some (wrapb .u32 .xor (4294967295 : Int) r_)) := by kernel_rfl
theorem h_crc_Sum_z (k  : Nat) (r_ : Int) (t6 : List (Int)) (t7 : Int) (t8 : Int) : h_crc_Sum k 0 r_ t6 t7 t8 = none := by kernel_rfl
/-- hawala/crc.step -/
theorem f_crc_step (k : Nat) (r_ : Int) (c_ : Int) : CF (k + 1) ⟨[(false, (.int .u32))], []⟩ n_crc_step [inj (.int .u32) r_, inj (.int .u8) c_] =
 ((h_crc_step k k (wrapb .u32 .xor r_ (w32 c_)) (0 : Int)) : Option (Int)) := by kernel_rfl
theorem h_crc_step_s (k m : Nat) (r_ : Int) (t10 : Int) (e1 : Int) (h_e1 : e1 = (w64 (t10 + (1 : Int)))) (e2 : Int) (h_e2 : e2 = (Int.fdiv r_ (2 : Int))) : h_crc_step k (m + 1) r_ t10 =
 (bif decide (t10 < (8 : Int)) then (bif decide ((wrapb .u32 .and r_ (1 : Int)) = (1 : Int)) then (h_crc_step k m (wrapb .u32 .xor e2 (3988292384 : Int)) e1)
 else (h_crc_step k m e2 e1))
 else some r_) := by
  subst h_e1 h_e2
  kernel_rfl
theorem h_crc_step_z (k  : Nat) (r_ : Int) (t10 : Int) : h_crc_step k 0 r_ t10 = none := by kernel_rfl
end Go.Eng.Crc
