/- What the functions of this chapter come to (printed by eq.py out of the program, by the engine; each equation is checked by Lean's kernel). No conditions. -/
import Derived.Test.YtfbbcdkbgnmmcaaE30
import Derived.Test.YtfbbcdkbgnmmcaaProg
set_option linter.all false
set_option linter.unusedVariables false
set_option linter.unusedSimpArgs false
set_option linter.deprecated false
namespace Go.Eng.Vnt
open Go.Proofs Go.Eng
def aOwn : Nat → List Bool := fun f => match f with
  | 9 => [true]
  | 10 => [true]
  | _ => []
def aMv : Nat → List Bool := fun f => match f with
  | 10 => [true, false]
  | _ => []
def aProm : Nat → List Nat := fun f => match f with
  | 9 => [3]
  | 13 => [7]
  | _ => []
def aNils : Nat → List Nat := fun f => match f with
  | 9 => [2]
  | 10 => [4]
  | 11 => [3]
  | 13 => [4, 5]
  | _ => []
def aKeep : Nat → Nat → List Nat := fun f b => match f, b with
  | 5, 0 => [0, 6, 7]
  | 7, 0 => [0, 2, 8, 9, 10, 11, 12, 13]
  | 7, 2 => [0, 2, 81, 82, 83]
  | 9, 0 => [3, 6, 7, 8]
  | 10, 0 => [0, 5]
  | 11, 0 => [0, 5, 6]
  | 12, 0 => [3, 4]
  | 13, 0 => [0, 1, 7]
  | _, _ => []
def A : Ann := ⟨0, aOwn, aMv, aProm, aKeep, aNils⟩
abbrev X : Outer := (fun _ _ _ => none)
noncomputable abbrev CF : Nat → CallF := callF Try.prog A X
set_option maxRecDepth 1000000
set_option maxHeartbeats 0
abbrev KboundsError : K := (.strct (.prod (.int .i64) (.prod (.int .i64) (.prod .bool (.int .u8)))))
abbrev TboundsError : Type := (Int) × (Int) × (Bool) × Int
abbrev KerrorAddressString : K := (.strct (.prod .str (.int .u64)))
abbrev TerrorAddressString : Type := (List Int) × Int
abbrev n_law02_VarintTwo : Nat := 3
abbrev n_law02_VarintTake : Nat := 7
abbrev n_law02_VarintSmall : Nat := 6
abbrev n_law02_awake : Nat := 8
abbrev n_varint_All : Nat := 9
abbrev n_varint_Take : Nat := 13
abbrev n_law02_bytes : Nat := 12
abbrev n_varint_Get : Nat := 11
abbrev n_varint_Put : Nat := 10
/-- hawala/hawalalaw02.VarintTake -/
noncomputable def h_law02_VarintTake (k m : Nat) (ns_ : List (Int)) (rest_ : List (Int)) (m_ : Int) (xs_ : List (Int)) (left_ : List (Int)) (ok_ : Bool) (want_ : List Int) (k_ : Int) : Option (Bool) := headB Try.prog A (CF k) k ⟨[(false, .bool)], []⟩ 7 [] [.r, .r, .r, .r, .r, .r, .r, .l, .r, .l] m ⟨[(0, .val false [.sl (.int .i64) ns_]), (2, .val false [.sl (.int .u8) rest_]), (8, .val false [.int .i64 m_]), (9, .val false [.sl (.int .i64) xs_]), (10, .val false [.sl (.int .u8) left_]), (11, .val false [.bool ok_]), (12, .val false [.str want_]), (13, .val false [.int .i64 k_])], []⟩
/-- hawala/hawalalaw02.VarintTake -/
noncomputable def h_law02_VarintTake_1 (k m : Nat) (ns_ : List (Int)) (rest_ : List (Int)) (t81 : List (Int)) (t82 : Int) (t83 : Int) : Option (Bool) := headB Try.prog A (CF k) k ⟨[(false, .bool)], []⟩ 7 [] [.r, .r, .r, .r, .r, .r, .r, .r, .r, .l, .r, .l] m ⟨[(0, .val false [.sl (.int .i64) ns_]), (2, .val false [.sl (.int .u8) rest_]), (81, .val false [.sl (.int .i64) t81]), (82, .val false [.int .i64 t82]), (83, .val false [.int .i64 t83])], []⟩
/-- hawala/varint.All -/
noncomputable def h_varint_All (k m : Nat) (t6 : List (Int)) (t7 : Int) (t8 : Int) (out_ : List (Int)) : Option ((List (Int))) := headB Try.prog A (CF k) k ⟨[(true, (.slice (.int .u8)))], []⟩ 9 [] [.r, .r, .l, .r, .l] m ⟨[(3, .val false [.vw 3 0]), (6, .val false [.sl (.int .i64) t6]), (7, .val false [.int .i64 t7]), (8, .val false [.int .i64 t8])], [(3, .row (.int .u8) out_ 0 [] false)]⟩
/-- hawala/varint.Take -/
noncomputable def h_varint_Take (k m : Nat) (b_ : List (Int)) (n_ : Int) (out_ : List (Int)) : Option ((List (Int)) × (List (Int)) × Bool) := headB Try.prog A (CF k) k ⟨[(false, (.slice (.int .i64))), (false, (.slice (.int .u8))), (false, .bool)], []⟩ 13 [] [.r, .r, .l, .l] m ⟨[(0, .val false [.sl (.int .u8) b_]), (1, .val false [.int .i64 n_]), (7, .val false [.vw 7 0])], [(7, .row (.int .i64) out_ 0 [] false)]⟩
/-- hawala/hawalalaw02.bytes -/
noncomputable def h_law02_bytes (k m : Nat) (u_ : Int) (s_ : List Int) : Option ((List Int)) := headB Try.prog A (CF k) k ⟨[(false, .str)], []⟩ 12 [] [.r, .r, .r, .r, .l, .l] m ⟨[(3, .val false [.int .u64 u_]), (4, .val false [.str s_])], []⟩
/-- hawala/varint.Get -/
noncomputable def h_varint_Get (k m : Nat) (b_ : List (Int)) (u_ : Int) (k_ : Int) : Option (Int × (List (Int)) × Bool) := headB Try.prog A (CF k) k ⟨[(false, (.int .i64)), (false, (.slice (.int .u8))), (false, .bool)], []⟩ 11 [] [.r, .r, .l, .r, .l] m ⟨[(0, .val false [.sl (.int .u8) b_]), (5, .val false [.int .u64 u_]), (6, .val false [.int .i64 k_])], []⟩
/-- hawala/varint.Put -/
noncomputable def h_varint_Put (k m : Nat) (u_ : Int) (b_ : List (Int)) : Option ((List (Int))) := headB Try.prog A (CF k) k ⟨[(true, (.slice (.int .u8)))], []⟩ 10 [] [.r, .r, .r, .l, .l] m ⟨[(0, .val false [.vw 0 0]), (5, .val false [.int .u64 u_])], [(0, .row (.int .u8) b_ 0 [] false)]⟩
/-- hawala/hawalalaw02.VarintTwo -/
theorem f_law02_VarintTwo (k : Nat) (a_ : Int) (b_ : Int) : CF (k + 1) ⟨[(false, .bool)], []⟩ n_law02_VarintTwo [inj (.int .i64) a_, inj (.int .i64) b_] =
 (((CF k ⟨[(false, .bool)], []⟩ n_law02_awake []).bind fun (r : Bool) =>
 (bif (!r) then some false
 else ((CF k ⟨[(true, (.slice (.int .u8)))], []⟩ n_varint_All [inj (.slice (.int .i64)) [a_]]).bind fun (r_1 : (List (Int))) =>
 ((CF k ⟨[(true, (.slice (.int .u8)))], []⟩ n_varint_All [inj (.slice (.int .i64)) [b_]]).bind fun (r_2 : (List (Int))) =>
 (bif (!(decide (r_1 = r_2) == decide (a_ = b_))) then some false
 else (bif decide ((r_1.length : Int) < (1 : Int)) then some false
 else (bif decide ((10 : Int) < (r_1.length : Int)) then some false
 else (bif decide (a_ = b_) then some true
 else (bif decide ((r_2.length : Int) < (r_1.length : Int)) then some true
 else (bif (decide ((0 : Int) ≤ (r_1.length : Int)) && decide ((r_1.length : Int) ≤ (r_2.length : Int))) then some (!decide ((List.take ((Int.toNat (r_1.length : Int)) - 0) (List.drop 0 r_2)) = r_1))
 else none)))))))))) : Option (Bool)) := by kernel_rfl
/-- hawala/hawalalaw02.VarintTake -/
theorem f_law02_VarintTake (k : Nat) (ns_ : List (Int)) (n_ : Int) (rest_ : List (Int)) : CF (k + 1) ⟨[(false, .bool)], []⟩ n_law02_VarintTake [inj (.slice (.int .i64)) ns_, inj (.int .i8) n_, inj (.slice (.int .u8)) rest_] =
 (((CF k ⟨[(false, .bool)], []⟩ n_law02_awake []).bind fun (r : Bool) =>
 (bif (!r) then some false
 else ((CF k ⟨[(true, (.slice (.int .u8)))], []⟩ n_varint_All [inj (.slice (.int .i64)) ns_]).bind fun (r_1 : (List (Int))) =>
 (bif decide (((r_1.length + 1) * 1) ≤ 211106232532992) then ((CF k ⟨[(false, (.slice (.int .i64))), (false, (.slice (.int .u8))), (false, .bool)], []⟩ n_varint_Take [inj (.slice (.int .u8)) (r_1 ++ [(255 : Int)]), inj (.int .i64) (w64 n_)]).bind fun (r_2 : (List (Int)) × (List (Int)) × Bool) =>
 (bif decide ((ns_.length : Int) < (w64 n_)) then (bif (!r_2.2.2) then (bif decide ((r_2.1.length : Int) = (0 : Int)) then some (decide ((r_2.2.1.length : Int) = (0 : Int)))
 else some false)
 else some false)
 else (h_law02_VarintTake k k ns_ rest_ (w64 n_) r_2.1 r_2.2.1 r_2.2.2 ([] : List Int) (maxI (0 : Int) (w64 n_)))))
 else none)))) : Option (Bool)) := by kernel_rfl
theorem h_law02_VarintTake_s (k m : Nat) (ns_ : List (Int)) (rest_ : List (Int)) (m_ : Int) (xs_ : List (Int)) (left_ : List (Int)) (ok_ : Bool) (want_ : List Int) (k_ : Int) : h_law02_VarintTake k (m + 1) ns_ rest_ m_ xs_ left_ ok_ want_ k_ =
 (bif decide (k_ < (ns_.length : Int)) then (bif (inb k_ ns_.length) then ((CF k ⟨[(false, .str)], []⟩ n_law02_bytes [inj (.int .i64) (List.getD ns_ (Int.toNat k_) (0 : Int))]).bind fun (r : (List Int)) =>
 (bif decide ((want_.length + r.length) < 9223372036854775808) then (h_law02_VarintTake k m ns_ rest_ m_ xs_ left_ ok_ (want_ ++ r) (w64 (k_ + (1 : Int))))
 else none))
 else none)
 else (bif (!ok_) then some false
 else (bif (!decide ((xs_.length : Int) = (maxI (0 : Int) m_))) then some false
 else (bif decide ((want_.length + 1) < 9223372036854775808) then (bif (!decide (left_ = (want_ ++ ([255] : List Int)))) then some false
 else (h_law02_VarintTake_1 k k ns_ rest_ xs_ (xs_.length : Int) (0 : Int)))
 else none)))) := by kernel_rfl
theorem h_law02_VarintTake_z (k  : Nat) (ns_ : List (Int)) (rest_ : List (Int)) (m_ : Int) (xs_ : List (Int)) (left_ : List (Int)) (ok_ : Bool) (want_ : List Int) (k_ : Int) : h_law02_VarintTake k 0 ns_ rest_ m_ xs_ left_ ok_ want_ k_ = none := by kernel_rfl
theorem h_law02_VarintTake_1_s (k m : Nat) (ns_ : List (Int)) (rest_ : List (Int)) (t81 : List (Int)) (t82 : Int) (t83 : Int) : h_law02_VarintTake_1 k (m + 1) ns_ rest_ t81 t82 t83 =
 (bif decide (t83 < t82) then (bif (inb t83 t81.length) then (bif (inb t83 ns_.length) then (bif (!decide ((List.getD t81 (Int.toNat t83) (0 : Int)) = (List.getD ns_ (Int.toNat t83) (0 : Int)))) then some false
 else (h_law02_VarintTake_1 k m ns_ rest_ t81 t82 (w64 (t83 + (1 : Int)))))
 else none)
 else none)
 else ((CF k ⟨[(false, (.slice (.int .i64))), (false, (.slice (.int .u8))), (false, .bool)], []⟩ n_varint_Take [inj (.slice (.int .u8)) rest_, inj (.int .i64) (-1 : Int)]).bind fun (r : (List (Int)) × (List (Int)) × Bool) =>
 some r.2.2)) := by kernel_rfl
theorem h_law02_VarintTake_1_z (k  : Nat) (ns_ : List (Int)) (rest_ : List (Int)) (t81 : List (Int)) (t82 : Int) (t83 : Int) : h_law02_VarintTake_1 k 0 ns_ rest_ t81 t82 t83 = none := by kernel_rfl
/-- hawala/hawalalaw02.VarintSmall -/
theorem f_law02_VarintSmall (k : Nat) (n_ : Int) (b_ : List (Int)) : CF (k + 1) ⟨[(false, .bool)], []⟩ n_law02_VarintSmall [inj (.int .i8) n_, inj (.slice (.int .u8)) b_] =
 (((CF k ⟨[(false, .bool)], []⟩ n_law02_awake []).bind fun (r : Bool) =>
 (bif (!r) then some false
 else ((CF k ⟨[(true, (.slice (.int .u8)))], []⟩ n_varint_All [inj (.slice (.int .i64)) [(w64 n_)]]).bind fun (r_1 : (List (Int))) =>
 (bif decide (n_ < (-64 : Int)) then some (decide ((r_1.length : Int) = (2 : Int)))
 else (bif decide ((63 : Int) < n_) then some (decide ((r_1.length : Int) = (2 : Int)))
 else (bif decide (((r_1.length + b_.length) * 1) ≤ 211106232532992) then ((CF k ⟨[(false, (.int .i64)), (false, (.slice (.int .u8))), (false, .bool)], []⟩ n_varint_Get [inj (.slice (.int .u8)) (r_1 ++ b_)]).bind fun (r_2 : Int × (List (Int)) × Bool) =>
 (bif decide ((r_1.length : Int) = (1 : Int)) then (bif r_2.2.2 then (bif decide (r_2.1 = (w64 n_)) then some (decide (r_2.2.1 = b_))
 else some false)
 else some false)
 else some false))
 else none)))))) : Option (Bool)) := by kernel_rfl
/-- hawala/hawalalaw02.awake -/
theorem f_law02_awake (k : Nat) : CF (k + 1) ⟨[(false, .bool)], []⟩ n_law02_awake [] =
 (((CF k ⟨[(true, (.slice (.int .u8)))], []⟩ n_varint_All [inj (.slice (.int .i64)) [(-1 : Int), (64 : Int)]]).bind fun (r : (List (Int))) =>
 some (decide (r = ([1, 128, 1] : List Int)))) : Option (Bool)) := by kernel_rfl
/-- hawala/varint.All -/
theorem f_varint_All (k : Nat) (ns_ : List (Int)) : CF (k + 1) ⟨[(true, (.slice (.int .u8)))], []⟩ n_varint_All [inj (.slice (.int .i64)) ns_] =
 ((h_varint_All k k ns_ (ns_.length : Int) (0 : Int) []) : Option ((List (Int)))) := by kernel_rfl
theorem h_varint_All_s (k m : Nat) (t6 : List (Int)) (t7 : Int) (t8 : Int) (out_ : List (Int)) : h_varint_All k (m + 1) t6 t7 t8 out_ =
 (bif decide (t8 < t7) then (bif (inb t8 t6.length) then ((CF k ⟨[(true, (.slice (.int .u8)))], []⟩ n_varint_Put [.val false [.mv (.int .u8) out_], inj (.int .i64) (List.getD t6 (Int.toNat t8) (0 : Int))]).bind fun (r : (List (Int))) =>
 (h_varint_All k m t6 t7 (w64 (t8 + (1 : Int))) r))
 else none)
 else some out_) := by kernel_rfl
theorem h_varint_All_z (k  : Nat) (t6 : List (Int)) (t7 : Int) (t8 : Int) (out_ : List (Int)) : h_varint_All k 0 t6 t7 t8 out_ = none := by kernel_rfl
/-- hawala/varint.Take -/
theorem f_varint_Take (k : Nat) (b_ : List (Int)) (n_ : Int) : CF (k + 1) ⟨[(false, (.slice (.int .i64))), (false, (.slice (.int .u8))), (false, .bool)], []⟩ n_varint_Take [inj (.slice (.int .u8)) b_, inj (.int .i64) n_] =
 ((h_varint_Take k k b_ n_ []) : Option ((List (Int)) × (List (Int)) × Bool)) := by kernel_rfl
theorem h_varint_Take_s (k m : Nat) (b_ : List (Int)) (n_ : Int) (out_ : List (Int)) : h_varint_Take k (m + 1) b_ n_ out_ =
 (bif decide ((out_.length : Int) < n_) then ((CF k ⟨[(false, (.int .i64)), (false, (.slice (.int .u8))), (false, .bool)], []⟩ n_varint_Get [inj (.slice (.int .u8)) b_]).bind fun (r : Int × (List (Int)) × Bool) =>
 (bif (!r.2.2) then some ([], [], false)
 else (bif decide (((out_.length + [r.1].length) * 8) ≤ 211106232532992) then (h_varint_Take k m r.2.1 n_ (out_ ++ [r.1]))
 else none)))
 else some (out_, b_, true)) := by kernel_rfl
theorem h_varint_Take_z (k  : Nat) (b_ : List (Int)) (n_ : Int) (out_ : List (Int)) : h_varint_Take k 0 b_ n_ out_ = none := by kernel_rfl
/-- hawala/hawalalaw02.bytes -/
theorem f_law02_bytes (k : Nat) (n_ : Int) : CF (k + 1) ⟨[(false, .str)], []⟩ n_law02_bytes [inj (.int .i64) n_] =
 ((bif decide (n_ < (0 : Int)) then (h_law02_bytes k k (wu64 ((wu64 ((2 : Int) * (wu64 (w64 ((-1 : Int) - n_))))) + (1 : Int))) ([] : List Int))
 else (h_law02_bytes k k (wu64 ((2 : Int) * (wu64 n_))) ([] : List Int))) : Option ((List Int))) := by kernel_rfl
theorem h_law02_bytes_s (k m : Nat) (u_ : Int) (s_ : List Int) : h_law02_bytes k (m + 1) u_ s_ =
 (bif decide ((127 : Int) < u_) then (bif decide ((s_.length + [(w8 ((w8 (Int.tmod u_ (128 : Int))) + (128 : Int)))].length) < 9223372036854775808) then (h_law02_bytes k m (wu64 (Int.tdiv u_ (128 : Int))) (s_ ++ [(w8 ((w8 (Int.tmod u_ (128 : Int))) + (128 : Int)))]))
 else none)
 else (bif decide ((s_.length + [(w8 u_)].length) < 9223372036854775808) then some (s_ ++ [(w8 u_)])
 else none)) := by kernel_rfl
theorem h_law02_bytes_z (k  : Nat) (u_ : Int) (s_ : List Int) : h_law02_bytes k 0 u_ s_ = none := by kernel_rfl
/-- hawala/varint.Get -/
theorem f_varint_Get (k : Nat) (b_ : List (Int)) : CF (k + 1) ⟨[(false, (.int .i64)), (false, (.slice (.int .u8))), (false, .bool)], []⟩ n_varint_Get [inj (.slice (.int .u8)) b_] =
 ((h_varint_Get k k b_ (0 : Int) (0 : Int)) : Option (Int × (List (Int)) × Bool)) := by kernel_rfl
theorem h_varint_Get_s (k m : Nat) (b_ : List (Int)) (u_ : Int) (k_ : Int) : h_varint_Get k (m + 1) b_ u_ k_ =
 (bif decide (k_ < (b_.length : Int)) then (bif decide (k_ < (10 : Int)) then (bif (inb k_ b_.length) then (bif decide (k_ = (9 : Int)) then (bif decide ((1 : Int) < (List.getD b_ (Int.toNat k_) (0 : Int))) then some ((0 : Int), [], false)
 else (bif decide ((0 : Int) ≤ (w64 ((7 : Int) * k_))) then (bif decide ((128 : Int) ≤ (List.getD b_ (Int.toNat k_) (0 : Int))) then (h_varint_Get k m b_ (wrapb .u64 .or u_ (wu64 ((wu64 (wrapb .u8 .and (List.getD b_ (Int.toNat k_) (0 : Int)) (127 : Int))) * ((2 : Int) ^ (min (Int.toNat (w64 ((7 : Int) * k_))) 64))))) (w64 (k_ + (1 : Int))))
 else (bif decide ((0 : Int) < k_) then (bif decide ((List.getD b_ (Int.toNat k_) (0 : Int)) = (0 : Int)) then some ((0 : Int), [], false)
 else (bif decide ((wrapb .u64 .and (wrapb .u64 .or u_ (wu64 ((wu64 (wrapb .u8 .and (List.getD b_ (Int.toNat k_) (0 : Int)) (127 : Int))) * ((2 : Int) ^ (min (Int.toNat (w64 ((7 : Int) * k_))) 64))))) (1 : Int)) = (1 : Int)) then (bif (decide ((0 : Int) ≤ (w64 (k_ + (1 : Int)))) && decide ((w64 (k_ + (1 : Int))) ≤ (b_.length : Int))) then some ((wrapb .i64 .xor (-1 : Int) (w64 (Int.fdiv (wrapb .u64 .or u_ (wu64 ((wu64 (wrapb .u8 .and (List.getD b_ (Int.toNat k_) (0 : Int)) (127 : Int))) * ((2 : Int) ^ (min (Int.toNat (w64 ((7 : Int) * k_))) 64))))) (2 : Int)))), (List.drop (Int.toNat (w64 (k_ + (1 : Int)))) b_), true)
 else none)
 else (bif (decide ((0 : Int) ≤ (w64 (k_ + (1 : Int)))) && decide ((w64 (k_ + (1 : Int))) ≤ (b_.length : Int))) then some ((w64 (Int.fdiv (wrapb .u64 .or u_ (wu64 ((wu64 (wrapb .u8 .and (List.getD b_ (Int.toNat k_) (0 : Int)) (127 : Int))) * ((2 : Int) ^ (min (Int.toNat (w64 ((7 : Int) * k_))) 64))))) (2 : Int))), (List.drop (Int.toNat (w64 (k_ + (1 : Int)))) b_), true)
 else none)))
 else (bif decide ((wrapb .u64 .and (wrapb .u64 .or u_ (wu64 ((wu64 (wrapb .u8 .and (List.getD b_ (Int.toNat k_) (0 : Int)) (127 : Int))) * ((2 : Int) ^ (min (Int.toNat (w64 ((7 : Int) * k_))) 64))))) (1 : Int)) = (1 : Int)) then (bif (decide ((0 : Int) ≤ (w64 (k_ + (1 : Int)))) && decide ((w64 (k_ + (1 : Int))) ≤ (b_.length : Int))) then some ((wrapb .i64 .xor (-1 : Int) (w64 (Int.fdiv (wrapb .u64 .or u_ (wu64 ((wu64 (wrapb .u8 .and (List.getD b_ (Int.toNat k_) (0 : Int)) (127 : Int))) * ((2 : Int) ^ (min (Int.toNat (w64 ((7 : Int) * k_))) 64))))) (2 : Int)))), (List.drop (Int.toNat (w64 (k_ + (1 : Int)))) b_), true)
 else none)
 else (bif (decide ((0 : Int) ≤ (w64 (k_ + (1 : Int)))) && decide ((w64 (k_ + (1 : Int))) ≤ (b_.length : Int))) then some ((w64 (Int.fdiv (wrapb .u64 .or u_ (wu64 ((wu64 (wrapb .u8 .and (List.getD b_ (Int.toNat k_) (0 : Int)) (127 : Int))) * ((2 : Int) ^ (min (Int.toNat (w64 ((7 : Int) * k_))) 64))))) (2 : Int))), (List.drop (Int.toNat (w64 (k_ + (1 : Int)))) b_), true)
 else none))))
 else none))
 else (bif decide ((0 : Int) ≤ (w64 ((7 : Int) * k_))) then (bif decide ((128 : Int) ≤ (List.getD b_ (Int.toNat k_) (0 : Int))) then (h_varint_Get k m b_ (wrapb .u64 .or u_ (wu64 ((wu64 (wrapb .u8 .and (List.getD b_ (Int.toNat k_) (0 : Int)) (127 : Int))) * ((2 : Int) ^ (min (Int.toNat (w64 ((7 : Int) * k_))) 64))))) (w64 (k_ + (1 : Int))))
 else (bif decide ((0 : Int) < k_) then (bif decide ((List.getD b_ (Int.toNat k_) (0 : Int)) = (0 : Int)) then some ((0 : Int), [], false)
 else (bif decide ((wrapb .u64 .and (wrapb .u64 .or u_ (wu64 ((wu64 (wrapb .u8 .and (List.getD b_ (Int.toNat k_) (0 : Int)) (127 : Int))) * ((2 : Int) ^ (min (Int.toNat (w64 ((7 : Int) * k_))) 64))))) (1 : Int)) = (1 : Int)) then (bif (decide ((0 : Int) ≤ (w64 (k_ + (1 : Int)))) && decide ((w64 (k_ + (1 : Int))) ≤ (b_.length : Int))) then some ((wrapb .i64 .xor (-1 : Int) (w64 (Int.fdiv (wrapb .u64 .or u_ (wu64 ((wu64 (wrapb .u8 .and (List.getD b_ (Int.toNat k_) (0 : Int)) (127 : Int))) * ((2 : Int) ^ (min (Int.toNat (w64 ((7 : Int) * k_))) 64))))) (2 : Int)))), (List.drop (Int.toNat (w64 (k_ + (1 : Int)))) b_), true)
 else none)
 else (bif (decide ((0 : Int) ≤ (w64 (k_ + (1 : Int)))) && decide ((w64 (k_ + (1 : Int))) ≤ (b_.length : Int))) then some ((w64 (Int.fdiv (wrapb .u64 .or u_ (wu64 ((wu64 (wrapb .u8 .and (List.getD b_ (Int.toNat k_) (0 : Int)) (127 : Int))) * ((2 : Int) ^ (min (Int.toNat (w64 ((7 : Int) * k_))) 64))))) (2 : Int))), (List.drop (Int.toNat (w64 (k_ + (1 : Int)))) b_), true)
 else none)))
 else (bif decide ((wrapb .u64 .and (wrapb .u64 .or u_ (wu64 ((wu64 (wrapb .u8 .and (List.getD b_ (Int.toNat k_) (0 : Int)) (127 : Int))) * ((2 : Int) ^ (min (Int.toNat (w64 ((7 : Int) * k_))) 64))))) (1 : Int)) = (1 : Int)) then (bif (decide ((0 : Int) ≤ (w64 (k_ + (1 : Int)))) && decide ((w64 (k_ + (1 : Int))) ≤ (b_.length : Int))) then some ((wrapb .i64 .xor (-1 : Int) (w64 (Int.fdiv (wrapb .u64 .or u_ (wu64 ((wu64 (wrapb .u8 .and (List.getD b_ (Int.toNat k_) (0 : Int)) (127 : Int))) * ((2 : Int) ^ (min (Int.toNat (w64 ((7 : Int) * k_))) 64))))) (2 : Int)))), (List.drop (Int.toNat (w64 (k_ + (1 : Int)))) b_), true)
 else none)
 else (bif (decide ((0 : Int) ≤ (w64 (k_ + (1 : Int)))) && decide ((w64 (k_ + (1 : Int))) ≤ (b_.length : Int))) then some ((w64 (Int.fdiv (wrapb .u64 .or u_ (wu64 ((wu64 (wrapb .u8 .and (List.getD b_ (Int.toNat k_) (0 : Int)) (127 : Int))) * ((2 : Int) ^ (min (Int.toNat (w64 ((7 : Int) * k_))) 64))))) (2 : Int))), (List.drop (Int.toNat (w64 (k_ + (1 : Int)))) b_), true)
 else none))))
 else none))
 else none)
 else some ((0 : Int), [], false))
 else some ((0 : Int), [], false)) := by kernel_rfl
theorem h_varint_Get_z (k  : Nat) (b_ : List (Int)) (u_ : Int) (k_ : Int) : h_varint_Get k 0 b_ u_ k_ = none := by kernel_rfl
/-- hawala/varint.Put -/
theorem f_varint_Put (k : Nat) (b_ : List (Int)) (n_ : Int) : CF (k + 1) ⟨[(true, (.slice (.int .u8)))], []⟩ n_varint_Put [.val false [.mv (.int .u8) b_], inj (.int .i64) n_] =
 ((bif decide (n_ < (0 : Int)) then (h_varint_Put k k (wrapb .u64 .xor (18446744073709551615 : Int) (wu64 ((wu64 n_) * (2 : Int)))) b_)
 else (h_varint_Put k k (wu64 ((wu64 n_) * (2 : Int))) b_)) : Option ((List (Int)))) := by kernel_rfl
theorem h_varint_Put_s (k m : Nat) (u_ : Int) (b_ : List (Int)) : h_varint_Put k (m + 1) u_ b_ =
 (bif decide ((128 : Int) ≤ u_) then (bif decide (((b_.length + [(wrapb .u8 .or (w8 u_) (128 : Int))].length) * 1) ≤ 211106232532992) then (h_varint_Put k m (Int.fdiv u_ (128 : Int)) (b_ ++ [(wrapb .u8 .or (w8 u_) (128 : Int))]))
 else none)
 else (bif decide (((b_.length + [(w8 u_)].length) * 1) ≤ 211106232532992) then some (b_ ++ [(w8 u_)])
 else none)) := by kernel_rfl
theorem h_varint_Put_z (k  : Nat) (u_ : Int) (b_ : List (Int)) : h_varint_Put k 0 u_ b_ = none := by kernel_rfl
end Go.Eng.Vnt
