/- What the functions of this chapter come to (printed by eq.py out of the program, by the engine; each equation is checked by Lean's kernel). No conditions. -/
import Derived.Test.YtmmbngpmoabkgaaE30
import Derived.Test.YtmmbngpmoabkgaaProg
set_option linter.all false
set_option linter.unusedVariables false
set_option linter.unusedSimpArgs false
set_option linter.deprecated false
namespace Go.Eng.Frm
open Go.Proofs Go.Eng
def aOwn : Nat → List Bool := fun _ => []
def aMv : Nat → List Bool := fun _ => []
def aProm : Nat → List Nat := fun f => match f with
  | 5 => [8]
  | 14 => [3]
  | 15 => [4]
  | _ => []
def aNils : Nat → List Nat := fun f => match f with
  | 10 => [4]
  | 11 => [2]
  | 12 => [2]
  | 14 => [2]
  | 15 => [2]
  | _ => []
def aKeep : Nat → Nat → List Nat := fun f b => match f, b with
  | 3, 0 => [2, 20, 21, 22]
  | 4, 0 => [18, 19, 20]
  | 5, 0 => [0, 1, 2, 7, 8, 22, 23, 24]
  | 5, 2 => [0, 1, 7, 8, 11, 12, 13, 14]
  | 5, 4 => [0, 1, 7, 12, 92, 93]
  | 8, 0 => [0, 4, 5, 18, 19, 20]
  | 10, 0 => [0, 5, 12, 13]
  | 14, 0 => [3, 6, 7, 8]
  | 15, 0 => [0, 4, 5]
  | 16, 0 => [3, 6, 7, 8]
  | 17, 0 => [0, 10]
  | _, _ => []
def A : Ann := ⟨0, aOwn, aMv, aProm, aKeep, aNils, fun _ _ => none⟩
abbrev X : Outer := (fun _ _ _ => none)
noncomputable abbrev CF : Nat → CallF := callF Try.prog A X
set_option maxRecDepth 1000000
set_option maxHeartbeats 0
abbrev KboundsError : K := (.strct (.prod (.int .i64) (.prod (.int .i64) (.prod .bool (.int .u8)))))
abbrev TboundsError : Type := (Int) × (Int) × (Bool) × Int
abbrev KerrorAddressString : K := (.strct (.prod .str (.int .u64)))
abbrev TerrorAddressString : Type := (List Int) × Int
abbrev n_law04_FrameMake : Nat := 3
abbrev n_law04_FrameOne : Nat := 4
abbrev n_law04_FrameScan : Nat := 5
abbrev n_law04_FrameTurned : Nat := 6
abbrev n_law04_FrameCut : Nat := 7
abbrev n_law04_FrameAny : Nat := 8
abbrev n_law04_awake : Nat := 9
abbrev n_law04_Wide : Nat := 10
abbrev n_frame_Make : Nat := 11
abbrev n_frame_One : Nat := 12
abbrev n_law04_made : Nat := 13
abbrev n_law04_Few : Nat := 14
abbrev n_frame_Scan : Nat := 15
abbrev n_crc_Sum : Nat := 16
abbrev n_crc_step : Nat := 17
/-- hawala/hawalalaw04.FrameMake -/
noncomputable def h_law04_FrameMake (k m : Nat) (rest_ : List (Int)) (t21 : Int) (t22 : Int) (t20 : List (List (Int))) : Option (Bool) := headB Try.prog A (CF k) k ⟨[(false, .bool)], []⟩ 3 [] [.r, .r, .l, .r, .l] m ⟨[(2, .val false [.sl (.int .u8) rest_]), (20, .val false [.vw 20 0]), (21, .val false [.int .i64 t21]), (22, .val false [.int .i64 t22])], [(20, .row (.slice (.int .u8)) t20 0 [] false)]⟩
/-- hawala/hawalalaw04.FrameOne -/
noncomputable def h_law04_FrameOne (k m : Nat) (t19 : Int) (t20 : Int) (t18 : List (List (Int))) : Option (Bool) := headB Try.prog A (CF k) k ⟨[(false, .bool)], []⟩ 4 [] [.r, .r, .l, .r, .l] m ⟨[(18, .val false [.vw 18 0]), (19, .val false [.int .i64 t19]), (20, .val false [.int .i64 t20])], [(18, .row (.slice (.int .u8)) t18 0 [] false)]⟩
/-- hawala/hawalalaw04.FrameScan -/
noncomputable def h_law04_FrameScan (k m : Nat) (rs_ : List (List (Int))) (tail_ : List (Int)) (cut_ : Int) (all_ : List Int) (t22 : List (List (Int))) (t23 : Int) (t24 : Int) (ends_ : List (Int)) : Option (Bool) := headB Try.prog A (CF k) k ⟨[(false, .bool)], []⟩ 5 [] [.r, .r, .r, .r, .r, .l, .r, .l] m ⟨[(0, .val false [.sl (.slice (.int .u8)) rs_]), (1, .val false [.sl (.int .u8) tail_]), (2, .val false [.int .u16 cut_]), (7, .val false [.str all_]), (8, .val false [.vw 8 0]), (22, .val false [.sl (.slice (.int .u8)) t22]), (23, .val false [.int .i64 t23]), (24, .val false [.int .i64 t24])], [(8, .row (.int .i64) ends_ 0 [] false)]⟩
/-- hawala/hawalalaw04.FrameScan -/
noncomputable def h_law04_FrameScan_1 (k m : Nat) (rs_ : List (List (Int))) (tail_ : List (Int)) (all_ : List Int) (at_ : Int) (xs_ : List (List (Int))) (n_ : Int) (want_ : Int) (ends_ : List (Int)) : Option (Bool) := headB Try.prog A (CF k) k ⟨[(false, .bool)], []⟩ 5 [] [.r, .r, .r, .r, .r, .r, .r, .r, .r, .l, .l] m ⟨[(0, .val false [.sl (.slice (.int .u8)) rs_]), (1, .val false [.sl (.int .u8) tail_]), (7, .val false [.str all_]), (8, .val false [.vw 8 0]), (11, .val false [.int .i64 at_]), (12, .val false [.sl (.slice (.int .u8)) xs_]), (13, .val false [.int .i64 n_]), (14, .val false [.int .i64 want_])], [(8, .row (.int .i64) ends_ 0 [] false)]⟩
/-- hawala/hawalalaw04.FrameScan -/
noncomputable def h_law04_FrameScan_2 (k m : Nat) (rs_ : List (List (Int))) (tail_ : List (Int)) (all_ : List Int) (xs_ : List (List (Int))) (t92 : Int) (t93 : Int) : Option (Bool) := headB Try.prog A (CF k) k ⟨[(false, .bool)], []⟩ 5 [] [.r, .r, .r, .r, .r, .r, .r, .r, .r, .r, .r, .l, .r, .l] m ⟨[(0, .val false [.sl (.slice (.int .u8)) rs_]), (1, .val false [.sl (.int .u8) tail_]), (7, .val false [.str all_]), (12, .val false [.sl (.slice (.int .u8)) xs_]), (92, .val false [.int .i64 t92]), (93, .val false [.int .i64 t93])], []⟩
/-- hawala/hawalalaw04.FrameAny -/
noncomputable def h_law04_FrameAny (k m : Nat) (b_ : List (Int)) (n_ : Int) (all_ : List Int) (t18 : List (List (Int))) (t19 : Int) (t20 : Int) : Option (Bool) := headB Try.prog A (CF k) k ⟨[(false, .bool)], []⟩ 8 [] [.r, .r, .r, .r, .l, .r, .l] m ⟨[(0, .val false [.sl (.int .u8) b_]), (4, .val false [.int .i64 n_]), (5, .val false [.str all_]), (18, .val false [.sl (.slice (.int .u8)) t18]), (19, .val false [.int .i64 t19]), (20, .val false [.int .i64 t20])], []⟩
/-- hawala/hawalalaw04.Wide -/
noncomputable def h_law04_Wide (k m : Nat) (b_ : List (Int)) (t12 : Int) (t13 : Int) (out_ : List (Int)) : Option ((List (Int))) := headB Try.prog A (CF k) k ⟨[(false, (.slice (.int .u8)))], []⟩ 10 [] [.r, .r, .l, .r, .l] m ⟨[(0, .val false [.sl (.int .u8) b_]), (5, .val false [.vw 5 0]), (12, .val false [.int .i64 t12]), (13, .val false [.int .i64 t13])], [(5, .row (.int .u8) out_ 0 [] false)]⟩
/-- hawala/hawalalaw04.Few -/
noncomputable def h_law04_Few (k m : Nat) (t6 : List (List (Int))) (t7 : Int) (t8 : Int) (out_ : List (List (Int))) : Option ((List (List (Int)))) := headB Try.prog A (CF k) k ⟨[(false, (.slice (.slice (.int .u8))))], []⟩ 14 [] [.r, .r, .l, .r, .l] m ⟨[(3, .val false [.vw 3 0]), (6, .val false [.sl (.slice (.int .u8)) t6]), (7, .val false [.int .i64 t7]), (8, .val false [.int .i64 t8])], [(3, .row (.slice (.int .u8)) out_ 0 [] false)]⟩
/-- hawala/frame.Scan -/
noncomputable def h_frame_Scan (k m : Nat) (b_ : List (Int)) (at_ : Int) (out_ : List (List (Int))) : Option ((List (List (Int))) × Int) := headB Try.prog A (CF k) k ⟨[(false, (.slice (.slice (.int .u8)))), (false, (.int .i64))], []⟩ 15 [] [.r, .r, .r, .l] m ⟨[(0, .val false [.sl (.int .u8) b_]), (4, .val false [.vw 4 0]), (5, .val false [.int .i64 at_])], [(4, .row (.slice (.int .u8)) out_ 0 [] false)]⟩
/-- hawala/crc.Sum -/
noncomputable def h_crc_Sum (k m : Nat) (r_ : Int) (t6 : List (Int)) (t7 : Int) (t8 : Int) : Option (Int) := headB Try.prog A (CF k) k ⟨[(false, (.int .u32))], []⟩ 16 [] [.r, .r, .l, .r, .l] m ⟨[(3, .val false [.int .u32 r_]), (6, .val false [.sl (.int .u8) t6]), (7, .val false [.int .i64 t7]), (8, .val false [.int .i64 t8])], []⟩
/-- hawala/crc.step -/
noncomputable def h_crc_step (k m : Nat) (r_ : Int) (t10 : Int) : Option (Int) := headB Try.prog A (CF k) k ⟨[(false, (.int .u32))], []⟩ 17 [] [.r, .r, .l, .r, .l] m ⟨[(0, .val false [.int .u32 r_]), (10, .val false [.int .i64 t10])], []⟩
/-- hawala/hawalalaw04.FrameMake -/
theorem f_law04_FrameMake (k : Nat) (b_ : List (Int)) (n_ : Int) (rest_ : List (Int)) : CF (k + 1) ⟨[(false, .bool)], []⟩ n_law04_FrameMake [inj (.slice (.int .u8)) b_, inj (.int .u16) n_, inj (.slice (.int .u8)) rest_] =
 (((CF k ⟨[(false, .bool)], []⟩ n_law04_awake []).bind fun (r : Bool) =>
 (bif (!r) then some false
 else ((CF k ⟨[(false, (.slice (.int .u8)))], []⟩ n_law04_Wide [inj (.slice (.int .u8)) b_, inj (.int .u16) n_]).bind fun (r_1 : (List (Int))) =>
 (h_law04_FrameMake k k rest_ ([b_, r_1].length : Int) (0 : Int) [b_, r_1])))) : Option (Bool)) := by kernel_rfl
theorem h_law04_FrameMake_s (k m : Nat) (rest_ : List (Int)) (t21 : Int) (t22 : Int) (t20 : List (List (Int))) (e1 : (List Int)) (h_e1 : e1 = (List.getD t20 (Int.toNat t22) [])) (e2 : Int) (h_e2 : e2 = (w64 (t22 + (1 : Int)))) : h_law04_FrameMake k (m + 1) rest_ t21 t22 t20 =
 (bif decide (t22 < t21) then (bif (inb t22 t20.length) then ((CF k ⟨[(false, (.slice (.int .u8))), (false, .bool)], []⟩ n_frame_Make [inj (.slice (.int .u8)) e1]).bind fun (r : (List (Int)) × Bool) =>
 (bif decide ((16384 : Int) < (e1.length : Int)) then (bif r.2 then some false
 else (bif (!decide ((r.1.length : Int) = (0 : Int))) then some false
 else (h_law04_FrameMake k m rest_ t21 e2 t20)))
 else (bif decide ((r.1.length * 1) ≤ 211106232532992) then (bif decide (((r.1.length + rest_.length) * 1) ≤ 211106232532992) then ((CF k ⟨[(false, (.slice (.int .u8))), (false, (.int .i64)), (false, .bool)], []⟩ n_frame_One [inj (.slice (.int .u8)) (r.1 ++ rest_)]).bind fun (r_1 : (List (Int)) × Int × Bool) =>
 (bif (!r.2) then some false
 else ((CF k ⟨[(false, .str)], []⟩ n_law04_made [inj (.slice (.int .u8)) e1]).bind fun (r_2 : (List Int)) =>
 (bif (!decide (r.1 = r_2)) then some false
 else (bif (!r_1.2.2) then some false
 else (bif (!decide (r_1.1 = e1)) then some false
 else (bif (!decide (r_1.2.1 = (r.1.length : Int))) then some false
 else (h_law04_FrameMake k m rest_ t21 e2 t20))))))))
 else none)
 else none)))
 else none)
 else some true) := by
  subst h_e1 h_e2
  kernel_rfl
theorem h_law04_FrameMake_z (k  : Nat) (rest_ : List (Int)) (t21 : Int) (t22 : Int) (t20 : List (List (Int))) : h_law04_FrameMake k 0 rest_ t21 t22 t20 = none := by kernel_rfl
/-- hawala/hawalalaw04.FrameOne -/
theorem f_law04_FrameOne (k : Nat) (b_ : List (Int)) (n_ : Int) (e1 : (List Int)) (h_e1 : e1 = [(0 : Int), (Int.tmod n_ (4 : Int))]) (e2 : (List (List Int))) (h_e2 : e2 = [b_, (e1 ++ b_)]) : CF (k + 1) ⟨[(false, .bool)], []⟩ n_law04_FrameOne [inj (.slice (.int .u8)) b_, inj (.int .u8) n_] =
 (((CF k ⟨[(false, .bool)], []⟩ n_law04_awake []).bind fun (r : Bool) =>
 (bif (!r) then some false
 else (bif decide (((e1.length + b_.length) * 1) ≤ 211106232532992) then (h_law04_FrameOne k k (e2.length : Int) (0 : Int) e2)
 else none))) : Option (Bool)) := by
  subst h_e1 h_e2
  kernel_rfl
theorem h_law04_FrameOne_s (k m : Nat) (t19 : Int) (t20 : Int) (t18 : List (List (Int))) (e1 : (List Int)) (h_e1 : e1 = (List.getD t18 (Int.toNat t20) [])) (e2 : Int) (h_e2 : e2 = (w64 (t20 + (1 : Int)))) (e3 : Int) (h_e3 : e3 = (e1.length : Int)) : h_law04_FrameOne k (m + 1) t19 t20 t18 =
 (bif decide (t20 < t19) then (bif (inb t20 t18.length) then ((CF k ⟨[(false, (.slice (.int .u8))), (false, (.int .i64)), (false, .bool)], []⟩ n_frame_One [inj (.slice (.int .u8)) e1]).bind fun (r : (List (Int)) × Int × Bool) =>
 (bif r.2.2 then (bif decide (e3 < r.2.1) then some false
 else ((CF k ⟨[(false, .str)], []⟩ n_law04_made [inj (.slice (.int .u8)) r.1]).bind fun (r_1 : (List Int)) =>
 (bif (decide ((0 : Int) ≤ r.2.1) && decide (r.2.1 ≤ e3)) then (bif (!decide (r_1 = (List.take (Int.toNat r.2.1) e1))) then some false
 else (bif (!r.2.2) then (bif (!decide (r.2.1 = (0 : Int))) then some false
 else (bif (!decide ((r.1.length : Int) = (0 : Int))) then some false
 else (h_law04_FrameOne k m t19 e2 t18)))
 else (h_law04_FrameOne k m t19 e2 t18)))
 else none)))
 else (bif (!r.2.2) then (bif (!decide (r.2.1 = (0 : Int))) then some false
 else (bif (!decide ((r.1.length : Int) = (0 : Int))) then some false
 else (h_law04_FrameOne k m t19 e2 t18)))
 else (h_law04_FrameOne k m t19 e2 t18))))
 else none)
 else some true) := by
  subst h_e1 h_e2 h_e3
  kernel_rfl
theorem h_law04_FrameOne_z (k  : Nat) (t19 : Int) (t20 : Int) (t18 : List (List (Int))) : h_law04_FrameOne k 0 t19 t20 t18 = none := by kernel_rfl
/-- hawala/hawalalaw04.FrameScan -/
theorem f_law04_FrameScan (k : Nat) (rs_ : List (List (Int))) (tail_ : List (Int)) (cut_ : Int) : CF (k + 1) ⟨[(false, .bool)], []⟩ n_law04_FrameScan [inj (.slice (.slice (.int .u8))) rs_, inj (.slice (.int .u8)) tail_, inj (.int .u16) cut_] =
 (((CF k ⟨[(false, .bool)], []⟩ n_law04_awake []).bind fun (r : Bool) =>
 (bif (!r) then some false
 else ((CF k ⟨[(false, (.slice (.slice (.int .u8))))], []⟩ n_law04_Few [inj (.slice (.slice (.int .u8))) rs_]).bind fun (r_1 : (List (List (Int)))) =>
 (h_law04_FrameScan k k r_1 tail_ cut_ ([] : List Int) r_1 (r_1.length : Int) (0 : Int) [])))) : Option (Bool)) := by kernel_rfl
theorem h_law04_FrameScan_s (k m : Nat) (rs_ : List (List (Int))) (tail_ : List (Int)) (cut_ : Int) (all_ : List Int) (t22 : List (List (Int))) (t23 : Int) (t24 : Int) (ends_ : List (Int)) (e1 : Int) (h_e1 : e1 = (all_.length : Int)) (e2 : Int) (h_e2 : e2 = (w64 (e1 + (1 : Int)))) (e3 : Int) (h_e3 : e3 = (Int.tmod (w64 cut_) e2)) (e4 : (List Int)) (h_e4 : e4 = (List.take ((Int.toNat e3) - 0) (List.drop 0 all_))) : h_law04_FrameScan k (m + 1) rs_ tail_ cut_ all_ t22 t23 t24 ends_ =
 (bif decide (t24 < t23) then (bif (inb t24 t22.length) then ((CF k ⟨[(false, .str)], []⟩ n_law04_made [inj (.slice (.int .u8)) (List.getD t22 (Int.toNat t24) [])]).bind fun (r : (List Int)) =>
 (bif decide ((all_.length + r.length) < 9223372036854775808) then (bif decide (((ends_.length + [((all_ ++ r).length : Int)].length) * 8) ≤ 211106232532992) then (h_law04_FrameScan k m rs_ tail_ cut_ (all_ ++ r) t22 t23 (w64 (t24 + (1 : Int))) (ends_ ++ [((all_ ++ r).length : Int)]))
 else none)
 else none))
 else none)
 else (bif (!decide (e2 = (0 : Int))) then (bif (decide ((0 : Int) ≤ e3) && decide (e3 ≤ e1)) then (bif decide (e4.length ≤ 211106232532992) then ((CF k ⟨[(false, (.slice (.slice (.int .u8)))), (false, (.int .i64))], []⟩ n_frame_Scan [inj (.slice (.int .u8)) e4]).bind fun (r : (List (List (Int))) × Int) =>
 (h_law04_FrameScan_1 k k rs_ tail_ all_ e3 r.1 r.2 (0 : Int) ends_))
 else none)
 else none)
 else none)) := by
  subst h_e1 h_e2 h_e3 h_e4
  kernel_rfl
theorem h_law04_FrameScan_z (k  : Nat) (rs_ : List (List (Int))) (tail_ : List (Int)) (cut_ : Int) (all_ : List Int) (t22 : List (List (Int))) (t23 : Int) (t24 : Int) (ends_ : List (Int)) : h_law04_FrameScan k 0 rs_ tail_ cut_ all_ t22 t23 t24 ends_ = none := by kernel_rfl
theorem h_law04_FrameScan_1_s (k m : Nat) (rs_ : List (List (Int))) (tail_ : List (Int)) (all_ : List Int) (at_ : Int) (xs_ : List (List (Int))) (n_ : Int) (want_ : Int) (ends_ : List (Int)) (e1 : Int) (h_e1 : e1 = (xs_.length : Int)) (e2 : Int) (h_e2 : e2 = (w64 (want_ - (1 : Int)))) (e3 : Int) (h_e3 : e3 = (List.getD ends_ (Int.toNat e2) (0 : Int))) : h_law04_FrameScan_1 k (m + 1) rs_ tail_ all_ at_ xs_ n_ want_ ends_ =
 (bif decide (want_ < (ends_.length : Int)) then (bif (inb want_ ends_.length) then (bif decide ((List.getD ends_ (Int.toNat want_) (0 : Int)) ≤ at_) then (h_law04_FrameScan_1 k m rs_ tail_ all_ at_ xs_ n_ (w64 (want_ + (1 : Int))) ends_)
 else (bif (!decide (e1 = want_)) then some false
 else (bif decide ((0 : Int) < want_) then (bif (inb e2 ends_.length) then (bif (!decide (n_ = e3)) then some false
 else (bif decide (want_ = (0 : Int)) then (bif (!decide (n_ = (0 : Int))) then some false
 else (h_law04_FrameScan_2 k k rs_ tail_ all_ xs_ e1 (0 : Int)))
 else (h_law04_FrameScan_2 k k rs_ tail_ all_ xs_ e1 (0 : Int))))
 else none)
 else (bif decide (want_ = (0 : Int)) then (bif (!decide (n_ = (0 : Int))) then some false
 else (h_law04_FrameScan_2 k k rs_ tail_ all_ xs_ e1 (0 : Int)))
 else (h_law04_FrameScan_2 k k rs_ tail_ all_ xs_ e1 (0 : Int))))))
 else none)
 else (bif (!decide (e1 = want_)) then some false
 else (bif decide ((0 : Int) < want_) then (bif (inb e2 ends_.length) then (bif (!decide (n_ = e3)) then some false
 else (bif decide (want_ = (0 : Int)) then (bif (!decide (n_ = (0 : Int))) then some false
 else (h_law04_FrameScan_2 k k rs_ tail_ all_ xs_ e1 (0 : Int)))
 else (h_law04_FrameScan_2 k k rs_ tail_ all_ xs_ e1 (0 : Int))))
 else none)
 else (bif decide (want_ = (0 : Int)) then (bif (!decide (n_ = (0 : Int))) then some false
 else (h_law04_FrameScan_2 k k rs_ tail_ all_ xs_ e1 (0 : Int)))
 else (h_law04_FrameScan_2 k k rs_ tail_ all_ xs_ e1 (0 : Int)))))) := by
  subst h_e1 h_e2 h_e3
  kernel_rfl
theorem h_law04_FrameScan_1_z (k  : Nat) (rs_ : List (List (Int))) (tail_ : List (Int)) (all_ : List Int) (at_ : Int) (xs_ : List (List (Int))) (n_ : Int) (want_ : Int) (ends_ : List (Int)) : h_law04_FrameScan_1 k 0 rs_ tail_ all_ at_ xs_ n_ want_ ends_ = none := by kernel_rfl
theorem h_law04_FrameScan_2_s (k m : Nat) (rs_ : List (List (Int))) (tail_ : List (Int)) (all_ : List Int) (xs_ : List (List (Int))) (t92 : Int) (t93 : Int) : h_law04_FrameScan_2 k (m + 1) rs_ tail_ all_ xs_ t92 t93 =
 (bif decide (t93 < t92) then (bif (inb t93 xs_.length) then (bif (inb t93 rs_.length) then (bif (!decide ((List.getD xs_ (Int.toNat t93) []) = (List.getD rs_ (Int.toNat t93) []))) then some false
 else (h_law04_FrameScan_2 k m rs_ tail_ all_ xs_ t92 (w64 (t93 + (1 : Int)))))
 else none)
 else none)
 else (bif decide ((all_.length + tail_.length) < 9223372036854775808) then (bif decide ((all_ ++ tail_).length ≤ 211106232532992) then ((CF k ⟨[(false, (.slice (.slice (.int .u8)))), (false, (.int .i64))], []⟩ n_frame_Scan [inj (.slice (.int .u8)) (all_ ++ tail_)]).bind fun (r : (List (List (Int))) × Int) =>
 (bif decide ((rs_.length : Int) ≤ (r.1.length : Int)) then some (decide ((all_.length : Int) ≤ r.2))
 else some false))
 else none)
 else none)) := by kernel_rfl
theorem h_law04_FrameScan_2_z (k  : Nat) (rs_ : List (List (Int))) (tail_ : List (Int)) (all_ : List Int) (xs_ : List (List (Int))) (t92 : Int) (t93 : Int) : h_law04_FrameScan_2 k 0 rs_ tail_ all_ xs_ t92 t93 = none := by kernel_rfl
/-- hawala/hawalalaw04.FrameTurned -/
theorem f_law04_FrameTurned (k : Nat) (b_ : List (Int)) (at_ : Int) (by_ : Int) (e1 : Int) (h_e1 : e1 = (b_.length : Int)) (e2 : Int) (h_e2 : e2 = (minI e1 (500 : Int))) : CF (k + 1) ⟨[(false, .bool)], []⟩ n_law04_FrameTurned [inj (.slice (.int .u8)) b_, inj (.int .u16) at_, inj (.int .u8) by_] =
 (((CF k ⟨[(false, .bool)], []⟩ n_law04_awake []).bind fun (r : Bool) =>
 (bif (!r) then some false
 else (bif (decide ((0 : Int) ≤ e2) && decide (e2 ≤ e1)) then ((CF k ⟨[(false, .str)], []⟩ n_law04_made [inj (.slice (.int .u8)) (List.take (Int.toNat e2) b_)]).bind fun (r_1 : (List Int)) =>
 (bif decide (r_1.length ≤ 211106232532992) then (bif (!decide ((w64 ((r_1.length : Int) - (2 : Int))) = (0 : Int))) then (bif (inb (w64 ((2 : Int) + (Int.tmod (w64 at_) (w64 ((r_1.length : Int) - (2 : Int)))))) r_1.length) then (bif (inb (w64 ((2 : Int) + (Int.tmod (w64 at_) (w64 ((r_1.length : Int) - (2 : Int)))))) r_1.length) then ((CF k ⟨[(false, (.slice (.int .u8))), (false, (.int .i64)), (false, .bool)], []⟩ n_frame_One [inj (.slice (.int .u8)) (List.set r_1 (Int.toNat (w64 ((2 : Int) + (Int.tmod (w64 at_) (w64 ((r_1.length : Int) - (2 : Int))))))) (wrapb .u8 .xor (List.getD r_1 (Int.toNat (w64 ((2 : Int) + (Int.tmod (w64 at_) (w64 ((r_1.length : Int) - (2 : Int))))))) (0 : Int)) by_))]).bind fun (r_2 : (List (Int)) × Int × Bool) =>
 some (r_2.2.2 == decide (by_ = (0 : Int))))
 else none)
 else none)
 else none)
 else none))
 else none))) : Option (Bool)) := by
  subst h_e1 h_e2
  kernel_rfl
/-- hawala/hawalalaw04.FrameCut -/
theorem f_law04_FrameCut (k : Nat) (b_ : List (Int)) (at_ : Int) (e1 : Int) (h_e1 : e1 = (b_.length : Int)) (e2 : Int) (h_e2 : e2 = (minI e1 (500 : Int))) : CF (k + 1) ⟨[(false, .bool)], []⟩ n_law04_FrameCut [inj (.slice (.int .u8)) b_, inj (.int .u16) at_] =
 (((CF k ⟨[(false, .bool)], []⟩ n_law04_awake []).bind fun (r : Bool) =>
 (bif (!r) then some false
 else (bif (decide ((0 : Int) ≤ e2) && decide (e2 ≤ e1)) then ((CF k ⟨[(false, .str)], []⟩ n_law04_made [inj (.slice (.int .u8)) (List.take (Int.toNat e2) b_)]).bind fun (r_1 : (List Int)) =>
 (bif decide (r_1.length ≤ 211106232532992) then (bif (!decide ((r_1.length : Int) = (0 : Int))) then (bif (decide ((0 : Int) ≤ (Int.tmod (w64 at_) (r_1.length : Int))) && decide ((Int.tmod (w64 at_) (r_1.length : Int)) ≤ (r_1.length : Int))) then ((CF k ⟨[(false, (.slice (.int .u8))), (false, (.int .i64)), (false, .bool)], []⟩ n_frame_One [inj (.slice (.int .u8)) (List.take ((Int.toNat (Int.tmod (w64 at_) (r_1.length : Int))) - 0) (List.drop 0 r_1))]).bind fun (r_2 : (List (Int)) × Int × Bool) =>
 (bif (!decide ((r_1.length : Int) = (0 : Int))) then (bif (decide ((0 : Int) ≤ (Int.tmod (w64 at_) (r_1.length : Int))) && decide ((Int.tmod (w64 at_) (r_1.length : Int)) ≤ (r_1.length : Int))) then ((CF k ⟨[(false, (.slice (.slice (.int .u8)))), (false, (.int .i64))], []⟩ n_frame_Scan [inj (.slice (.int .u8)) (List.take ((Int.toNat (Int.tmod (w64 at_) (r_1.length : Int))) - 0) (List.drop 0 r_1))]).bind fun (r_3 : (List (List (Int))) × Int) =>
 (bif (!r_2.2.2) then (bif decide (r_2.2.1 = (0 : Int)) then (bif decide ((r_2.1.length : Int) = (0 : Int)) then (bif decide ((r_3.1.length : Int) = (0 : Int)) then some (decide (r_3.2 = (0 : Int)))
 else some false)
 else some false)
 else some false)
 else some false))
 else none)
 else none))
 else none)
 else none)
 else none))
 else none))) : Option (Bool)) := by
  subst h_e1 h_e2
  kernel_rfl
/-- hawala/hawalalaw04.FrameAny -/
theorem f_law04_FrameAny (k : Nat) (b_ : List (Int)) : CF (k + 1) ⟨[(false, .bool)], []⟩ n_law04_FrameAny [inj (.slice (.int .u8)) b_] =
 (((CF k ⟨[(false, .bool)], []⟩ n_law04_awake []).bind fun (r : Bool) =>
 (bif (!r) then some false
 else ((CF k ⟨[(false, (.slice (.slice (.int .u8)))), (false, (.int .i64))], []⟩ n_frame_Scan [inj (.slice (.int .u8)) b_]).bind fun (r_1 : (List (List (Int))) × Int) =>
 (h_law04_FrameAny k k b_ r_1.2 ([] : List Int) r_1.1 (r_1.1.length : Int) (0 : Int))))) : Option (Bool)) := by kernel_rfl
theorem h_law04_FrameAny_s (k m : Nat) (b_ : List (Int)) (n_ : Int) (all_ : List Int) (t18 : List (List (Int))) (t19 : Int) (t20 : Int) (e1 : Int) (h_e1 : e1 = (b_.length : Int)) : h_law04_FrameAny k (m + 1) b_ n_ all_ t18 t19 t20 =
 (bif decide (t20 < t19) then (bif (inb t20 t18.length) then ((CF k ⟨[(false, .str)], []⟩ n_law04_made [inj (.slice (.int .u8)) (List.getD t18 (Int.toNat t20) [])]).bind fun (r : (List Int)) =>
 (bif decide ((all_.length + r.length) < 9223372036854775808) then (h_law04_FrameAny k m b_ n_ (all_ ++ r) t18 t19 (w64 (t20 + (1 : Int))))
 else none))
 else none)
 else (bif (!decide (n_ = (all_.length : Int))) then some false
 else (bif decide (e1 < n_) then some false
 else (bif (decide ((0 : Int) ≤ n_) && decide (n_ ≤ e1)) then (bif (!decide ((List.take (Int.toNat n_) b_) = all_)) then some false
 else (bif (decide ((0 : Int) ≤ n_) && decide (n_ ≤ e1)) then ((CF k ⟨[(false, (.slice (.int .u8))), (false, (.int .i64)), (false, .bool)], []⟩ n_frame_One [inj (.slice (.int .u8)) (List.drop (Int.toNat n_) b_)]).bind fun (r : (List (Int)) × Int × Bool) =>
 some (!r.2.2))
 else none))
 else none)))) := by
  subst h_e1
  kernel_rfl
theorem h_law04_FrameAny_z (k  : Nat) (b_ : List (Int)) (n_ : Int) (all_ : List Int) (t18 : List (List (Int))) (t19 : Int) (t20 : Int) : h_law04_FrameAny k 0 b_ n_ all_ t18 t19 t20 = none := by kernel_rfl
/-- hawala/hawalalaw04.awake -/
theorem f_law04_awake (k : Nat) : CF (k + 1) ⟨[(false, .bool)], []⟩ n_law04_awake [] =
 (((CF k ⟨[(false, (.slice (.int .u8))), (false, .bool)], []⟩ n_frame_Make [inj (.slice (.int .u8)) []]).bind fun (r : (List (Int)) × Bool) =>
 ((CF k ⟨[(false, (.slice (.slice (.int .u8)))), (false, (.int .i64))], []⟩ n_frame_Scan [inj (.slice (.int .u8)) [(0 : Int), (0 : Int), (0 : Int), (0 : Int), (0 : Int), (0 : Int), (1 : Int)]]).bind fun (r_1 : (List (List (Int))) × Int) =>
 (bif r.2 then (bif decide (r.1 = ([0, 0, 0, 0, 0, 0] : List Int)) then (bif decide ((r_1.1.length : Int) = (1 : Int)) then some (decide (r_1.2 = (6 : Int)))
 else some false)
 else some false)
 else some false))) : Option (Bool)) := by kernel_rfl
/-- hawala/hawalalaw04.Wide -/
theorem f_law04_Wide (k : Nat) (b_ : List (Int)) (n_ : Int) (e1 : Int) (h_e1 : e1 = (Int.tmod (w64 n_) (20000 : Int))) (e2 : (List Int)) (h_e2 : e2 = (List.replicate (Int.toNat e1) (0 : Int))) : CF (k + 1) ⟨[(false, (.slice (.int .u8)))], []⟩ n_law04_Wide [inj (.slice (.int .u8)) b_, inj (.int .u16) n_] =
 ((bif ((decide (e1 = e1) && decide ((0 : Int) ≤ e1)) && decide ((e1 * (1 : Int)) ≤ (140737488355328 : Int))) then (h_law04_Wide k k b_ (e2.length : Int) (0 : Int) e2)
 else none) : Option ((List (Int)))) := by
  subst h_e1 h_e2
  kernel_rfl
theorem h_law04_Wide_s (k m : Nat) (b_ : List (Int)) (t12 : Int) (t13 : Int) (out_ : List (Int)) (e1 : Int) (h_e1 : e1 = (b_.length : Int)) (e2 : Int) (h_e2 : e2 = (Int.tmod t13 e1)) (e3 : Int) (h_e3 : e3 = (w64 (t13 + (1 : Int)))) : h_law04_Wide k (m + 1) b_ t12 t13 out_ =
 (bif decide (t13 < t12) then (bif decide ((0 : Int) < e1) then (bif (!decide (e1 = (0 : Int))) then (bif (inb e2 b_.length) then (bif (inb t13 out_.length) then (h_law04_Wide k m b_ t12 e3 (List.set out_ (Int.toNat t13) (List.getD b_ (Int.toNat e2) (0 : Int))))
 else none)
 else none)
 else none)
 else (h_law04_Wide k m b_ t12 e3 out_))
 else some out_) := by
  subst h_e1 h_e2 h_e3
  kernel_rfl
theorem h_law04_Wide_z (k  : Nat) (b_ : List (Int)) (t12 : Int) (t13 : Int) (out_ : List (Int)) : h_law04_Wide k 0 b_ t12 t13 out_ = none := by kernel_rfl
/-- hawala/frame.Make -/
theorem f_frame_Make (k : Nat) (b_ : List (Int)) (e1 : Int) (h_e1 : e1 = (b_.length : Int)) (e2 : Int) (h_e2 : e2 = (w8 (Int.fdiv e1 (256 : Int)))) : CF (k + 1) ⟨[(false, (.slice (.int .u8))), (false, .bool)], []⟩ n_frame_Make [inj (.slice (.int .u8)) b_] =
 ((bif decide ((16384 : Int) < e1) then some ([], false)
 else ((CF k ⟨[(false, (.int .u32))], []⟩ n_crc_Sum [inj (.slice (.int .u8)) b_]).bind fun (r : Int) =>
 (bif decide ((([e2, (w8 e1), (w8 (Int.fdiv r (16777216 : Int))), (w8 (Int.fdiv r (65536 : Int))), (w8 (Int.fdiv r (256 : Int))), (w8 r)].length + b_.length) * 1) ≤ 211106232532992) then some (([e2, (w8 e1), (w8 (Int.fdiv r (16777216 : Int))), (w8 (Int.fdiv r (65536 : Int))), (w8 (Int.fdiv r (256 : Int))), (w8 r)] ++ b_), true)
 else none))) : Option ((List (Int)) × Bool)) := by
  subst h_e1 h_e2
  kernel_rfl
/-- hawala/frame.One -/
theorem f_frame_One (k : Nat) (b_ : List (Int)) (e1 : Int) (h_e1 : e1 = (b_.length : Int)) (e2 : Int) (h_e2 : e2 = (wrapb .i64 .or (w64 ((w64 (List.getD b_ 0 (0 : Int))) * (256 : Int))) (w64 (List.getD b_ 1 (0 : Int))))) (e3 : Int) (h_e3 : e3 = (w64 ((6 : Int) + e2))) (e4 : (List Int)) (h_e4 : e4 = (List.take ((Int.toNat e3) - 6) (List.drop 6 b_))) : CF (k + 1) ⟨[(false, (.slice (.int .u8))), (false, (.int .i64)), (false, .bool)], []⟩ n_frame_One [inj (.slice (.int .u8)) b_] =
 ((bif decide (e1 < (6 : Int)) then some ([], (0 : Int), false)
 else (bif (inb (0 : Int) b_.length) then (bif (inb (1 : Int) b_.length) then (bif decide ((16384 : Int) < e2) then some ([], (0 : Int), false)
 else (bif decide (e1 < e3) then some ([], (0 : Int), false)
 else (bif (inb (2 : Int) b_.length) then (bif (inb (3 : Int) b_.length) then (bif (inb (4 : Int) b_.length) then (bif (inb (5 : Int) b_.length) then (bif (decide ((6 : Int) ≤ e3) && decide (e3 ≤ e1)) then ((CF k ⟨[(false, (.int .u32))], []⟩ n_crc_Sum [inj (.slice (.int .u8)) e4]).bind fun (r : Int) =>
 (bif (!decide (r = (wrapb .u32 .or (wrapb .u32 .or (wrapb .u32 .or (w32 ((w32 (List.getD b_ 2 (0 : Int))) * (16777216 : Int))) (w32 ((w32 (List.getD b_ 3 (0 : Int))) * (65536 : Int)))) (w32 ((w32 (List.getD b_ 4 (0 : Int))) * (256 : Int)))) (w32 (List.getD b_ 5 (0 : Int)))))) then some ([], (0 : Int), false)
 else (bif decide ((e4.length * 1) ≤ 211106232532992) then some (e4, e3, true)
 else none)))
 else none)
 else none)
 else none)
 else none)
 else none)))
 else none)
 else none)) : Option ((List (Int)) × Int × Bool)) := by
  subst h_e1 h_e2 h_e3 h_e4
  kernel_rfl
/-- hawala/hawalalaw04.made -/
theorem f_law04_made (k : Nat) (b_ : List (Int)) (e1 : Int) (h_e1 : e1 = (b_.length : Int)) (e2 : Int) (h_e2 : e2 = (w8 (Int.tmod e1 (256 : Int)))) (e3 : Int) (h_e3 : e3 = (w8 (w64 (Int.tdiv e1 (256 : Int))))) : CF (k + 1) ⟨[(false, .str)], []⟩ n_law04_made [inj (.slice (.int .u8)) b_] =
 (((CF k ⟨[(false, (.int .u32))], []⟩ n_crc_Sum [inj (.slice (.int .u8)) b_]).bind fun (r : Int) =>
 (bif decide (([e3, e2, (w8 (w32 (Int.tdiv r (16777216 : Int)))), (w8 (Int.tmod (w32 (Int.tdiv r (65536 : Int))) (256 : Int))), (w8 (Int.tmod (w32 (Int.tdiv r (256 : Int))) (256 : Int))), (w8 (Int.tmod r (256 : Int)))].length + b_.length) < 9223372036854775808) then some ([e3, e2, (w8 (w32 (Int.tdiv r (16777216 : Int)))), (w8 (Int.tmod (w32 (Int.tdiv r (65536 : Int))) (256 : Int))), (w8 (Int.tmod (w32 (Int.tdiv r (256 : Int))) (256 : Int))), (w8 (Int.tmod r (256 : Int)))] ++ b_)
 else none)) : Option ((List Int))) := by
  subst h_e1 h_e2 h_e3
  kernel_rfl
/-- hawala/hawalalaw04.Few -/
theorem f_law04_Few (k : Nat) (rs_ : List (List (Int))) : CF (k + 1) ⟨[(false, (.slice (.slice (.int .u8))))], []⟩ n_law04_Few [inj (.slice (.slice (.int .u8))) rs_] =
 ((h_law04_Few k k rs_ (rs_.length : Int) (0 : Int) []) : Option ((List (List (Int))))) := by kernel_rfl
theorem h_law04_Few_s (k m : Nat) (t6 : List (List (Int))) (t7 : Int) (t8 : Int) (out_ : List (List (Int))) (e1 : (List Int)) (h_e1 : e1 = (List.getD t6 (Int.toNat t8) [])) (e2 : Int) (h_e2 : e2 = (w64 (t8 + (1 : Int)))) (e3 : Int) (h_e3 : e3 = (e1.length : Int)) (e4 : Int) (h_e4 : e4 = (minI e3 (500 : Int))) (e5 : (List (List Int))) (h_e5 : e5 = [(List.take (Int.toNat e4) e1)]) : h_law04_Few k (m + 1) t6 t7 t8 out_ =
 (bif decide (t8 < t7) then (bif (inb t8 t6.length) then (bif decide (t8 < (12 : Int)) then (bif (decide ((0 : Int) ≤ e4) && decide (e4 ≤ e3)) then (bif decide (((out_.length + e5.length) * 24) ≤ 211106232532992) then (h_law04_Few k m t6 t7 e2 (out_ ++ e5))
 else none)
 else none)
 else (h_law04_Few k m t6 t7 e2 out_))
 else none)
 else some out_) := by
  subst h_e1 h_e2 h_e3 h_e4 h_e5
  kernel_rfl
theorem h_law04_Few_z (k  : Nat) (t6 : List (List (Int))) (t7 : Int) (t8 : Int) (out_ : List (List (Int))) : h_law04_Few k 0 t6 t7 t8 out_ = none := by kernel_rfl
/-- hawala/frame.Scan -/
theorem f_frame_Scan (k : Nat) (b_ : List (Int)) : CF (k + 1) ⟨[(false, (.slice (.slice (.int .u8)))), (false, (.int .i64))], []⟩ n_frame_Scan [inj (.slice (.int .u8)) b_] =
 ((h_frame_Scan k k b_ (0 : Int) []) : Option ((List (List (Int))) × Int)) := by kernel_rfl
theorem h_frame_Scan_s (k m : Nat) (b_ : List (Int)) (at_ : Int) (out_ : List (List (Int))) : h_frame_Scan k (m + 1) b_ at_ out_ =
 (bif (decide ((0 : Int) ≤ at_) && decide (at_ ≤ (b_.length : Int))) then ((CF k ⟨[(false, (.slice (.int .u8))), (false, (.int .i64)), (false, .bool)], []⟩ n_frame_One [inj (.slice (.int .u8)) (List.drop (Int.toNat at_) b_)]).bind fun (r : (List (Int)) × Int × Bool) =>
 (bif (!r.2.2) then some (out_, at_)
 else (bif decide (((out_.length + [r.1].length) * 24) ≤ 211106232532992) then (h_frame_Scan k m b_ (w64 (at_ + r.2.1)) (out_ ++ [r.1]))
 else none)))
 else none) := by kernel_rfl
theorem h_frame_Scan_z (k  : Nat) (b_ : List (Int)) (at_ : Int) (out_ : List (List (Int))) : h_frame_Scan k 0 b_ at_ out_ = none := by kernel_rfl
/-- hawala/crc.Sum -/
theorem f_crc_Sum (k : Nat) (b_ : List (Int)) : CF (k + 1) ⟨[(false, (.int .u32))], []⟩ n_crc_Sum [inj (.slice (.int .u8)) b_] =
 ((h_crc_Sum k k (4294967295 : Int) b_ (b_.length : Int) (0 : Int)) : Option (Int)) := by kernel_rfl
theorem h_crc_Sum_s (k m : Nat) (r_ : Int) (t6 : List (Int)) (t7 : Int) (t8 : Int) : h_crc_Sum k (m + 1) r_ t6 t7 t8 =
 (bif decide (t8 < t7) then (bif (inb t8 t6.length) then ((CF k ⟨[(false, (.int .u32))], []⟩ n_crc_step [inj (.int .u32) r_, inj (.int .u8) (List.getD t6 (Int.toNat t8) (0 : Int))]).bind fun (r : Int) =>
 (h_crc_Sum k m r t6 t7 (w64 (t8 + (1 : Int)))))
 else none)
 else some (wrapb .u32 .xor (4294967295 : Int) r_)) := by kernel_rfl
theorem h_crc_Sum_z (k  : Nat) (r_ : Int) (t6 : List (Int)) (t7 : Int) (t8 : Int) : h_crc_Sum k 0 r_ t6 t7 t8 = none := by kernel_rfl
/-- hawala/crc.step -/
theorem f_crc_step (k : Nat) (r_ : Int) (c_ : Int) : CF (k + 1) ⟨[(false, (.int .u32))], []⟩ n_crc_step [inj (.int .u32) r_, inj (.int .u8) c_] =
 ((h_crc_step k k (wrapb .u32 .xor r_ (w32 c_)) (0 : Int)) : Option (Int)) := by kernel_rfl
theorem h_crc_step_s (k m : Nat) (r_ : Int) (t10 : Int) (e1 : Int) (h_e1 : e1 = (w64 (t10 + (1 : Int)))) (e2 : Int) (h_e2 : e2 = (Int.fdiv r_ (2 : Int))) : h_crc_step k (m + 1) r_ t10 =
 (bif decide (t10 < (8 : Int)) then (bif decide ((wrapb .u32 .and r_ (1 : Int)) = (1 : Int)) then (h_crc_step k m (wrapb .u32 .xor e2 (3988292384 : Int)) e1)
 else (h_crc_step k m e2 e1))
 else some r_) := by
  subst h_e1 h_e2
  kernel_rfl
theorem h_crc_step_z (k  : Nat) (r_ : Int) (t10 : Int) : h_crc_step k 0 r_ t10 = none := by kernel_rfl
end Go.Eng.Frm
