/- What the functions of this chapter come to (printed by eq.py out of the program, by the engine; each equation is checked by Lean's kernel). No conditions. -/
import Derived.Test.YteildamgmkapbaaE30
import Derived.Test.YteildamgmkapbaaProg
set_option linter.all false
set_option linter.unusedVariables false
set_option linter.unusedSimpArgs false
set_option linter.deprecated false
namespace Go.Eng.Req
open Go.Proofs Go.Eng
def aOwn : Nat → List Bool := fun f => match f with
  | 11 => [true]
  | 12 => [true]
  | 17 => [true]
  | 20 => [true]
  | _ => []
def aMv : Nat → List Bool := fun f => match f with
  | 20 => [true, false]
  | _ => []
def aProm : Nat → List Nat := fun f => match f with
  | 12 => [3]
  | 21 => [7]
  | _ => []
def aNils : Nat → List Nat := fun f => match f with
  | 11 => [2]
  | 12 => [2]
  | 13 => [3]
  | 17 => [2]
  | 18 => [3]
  | 19 => [2]
  | 20 => [4]
  | 21 => [4, 5]
  | 23 => [3]
  | _ => []
def aKeep : Nat → Nat → List Nat := fun f b => match f, b with
  | 3, 0 => [2, 18, 19, 20]
  | 4, 0 => [39, 40, 41]
  | 12, 0 => [3, 6, 7, 8]
  | 20, 0 => [0, 5]
  | 21, 0 => [0, 1, 7]
  | 23, 0 => [0, 5, 6]
  | _, _ => []
def A : Ann := ⟨44, aOwn, aMv, aProm, aKeep, aNils⟩
abbrev X : Outer := (fun _ _ _ => none)
noncomputable abbrev CF : Nat → CallF := callF Try.prog A X
set_option maxRecDepth 1000000
set_option maxHeartbeats 0
abbrev KboundsError : K := (.strct (.prod (.int .i64) (.prod (.int .i64) (.prod .bool (.int .u8)))))
abbrev TboundsError : Type := (Int) × (Int) × (Bool) × Int
abbrev KerrorAddressString : K := (.strct (.prod .str (.int .u64)))
abbrev TerrorAddressString : Type := (List Int) × Int
abbrev KAsk : K := (.strct (.prod (.int .u8) (.prod (.int .u8) (.prod (.int .u8) (.prod (.int .u8) (.prod (.int .u16) (.prod (.int .u8) (.int .u8))))))))
abbrev TAsk : Type := (Int) × (Int) × (Int) × (Int) × (Int) × (Int) × Int
abbrev KRequest : K := (.strct (.prod (.int .i64) (.prod (.int .i64) (.prod (.int .i64) (.prod (.int .i64) (.prod (.int .i64) (.prod (.int .i64) (.int .i64))))))))
abbrev TRequest : Type := (Int) × (Int) × (Int) × (Int) × (Int) × (Int) × Int
abbrev KReply : K := (.strct (.prod (.int .i64) (.int .i64)))
abbrev TReply : Type := (Int) × Int
abbrev n_law10_RequestMay : Nat := 6
abbrev n_law10_RequestLong : Nat := 7
abbrev n_law10_RequestTwo : Nat := 5
abbrev n_law10_RequestReply : Nat := 8
abbrev n_law10_RequestRead : Nat := 4
abbrev n_law10_RequestBack : Nat := 3
abbrev n_law10_awake : Nat := 9
abbrev n_request_May : Nat := 15
abbrev n_law10_may : Nat := 14
abbrev n_law10_Ask_Request : Nat := 10
abbrev n_request_Long : Nat := 16
abbrev n_request_Bytes : Nat := 11
abbrev n_request_Reply : Nat := 17
abbrev n_request_ReadReply : Nat := 18
abbrev n_varint_All : Nat := 12
abbrev n_request_Read : Nat := 13
abbrev n_money_Amount : Nat := 22
abbrev n_request_numbers : Nat := 19
abbrev n_varint_Take : Nat := 21
abbrev n_varint_Put : Nat := 20
abbrev n_varint_Get : Nat := 23
/-- hawala/hawalalaw10.RequestRead -/
noncomputable def h_law10_RequestRead (k m : Nat) (t40 : Int) (t41 : Int) (t39 : List (List (Int))) : Option (Bool) := headB Try.prog A (CF k) k ⟨[(false, .bool)], []⟩ 4 [] [.r, .r, .r, .r, .l, .r, .l] m ⟨[(39, .val false [.vw 39 0]), (40, .val false [.int .i64 t40]), (41, .val false [.int .i64 t41])], [(39, .row (.slice (.int .u8)) t39 0 [] false)]⟩
/-- hawala/hawalalaw10.RequestBack -/
noncomputable def h_law10_RequestBack (k m : Nat) (rest_ : List (Int)) (t19 : Int) (t20 : Int) (t18 : List (TRequest)) : Option (Bool) := headB Try.prog A (CF k) k ⟨[(false, .bool)], []⟩ 3 [] [.r, .r, .l, .r, .l] m ⟨[(2, .val false [.sl (.int .u8) rest_]), (18, .val false [.vw 18 0]), (19, .val false [.int .i64 t19]), (20, .val false [.int .i64 t20])], [(18, .row KRequest t18 0 [] false)]⟩
/-- hawala/varint.All -/
noncomputable def h_varint_All (k m : Nat) (t6 : List (Int)) (t7 : Int) (t8 : Int) (out_ : List (Int)) : Option ((List (Int))) := headB Try.prog A (CF k) k ⟨[(true, (.slice (.int .u8)))], []⟩ 12 [] [.r, .r, .l, .r, .l] m ⟨[(3, .val false [.vw 3 0]), (6, .val false [.sl (.int .i64) t6]), (7, .val false [.int .i64 t7]), (8, .val false [.int .i64 t8])], [(3, .row (.int .u8) out_ 0 [] false)]⟩
/-- hawala/varint.Take -/
noncomputable def h_varint_Take (k m : Nat) (b_ : List (Int)) (n_ : Int) (out_ : List (Int)) : Option ((List (Int)) × (List (Int)) × Bool) := headB Try.prog A (CF k) k ⟨[(false, (.slice (.int .i64))), (false, (.slice (.int .u8))), (false, .bool)], []⟩ 21 [] [.r, .r, .l, .l] m ⟨[(0, .val false [.sl (.int .u8) b_]), (1, .val false [.int .i64 n_]), (7, .val false [.vw 7 0])], [(7, .row (.int .i64) out_ 0 [] false)]⟩
/-- hawala/varint.Put -/
noncomputable def h_varint_Put (k m : Nat) (u_ : Int) (b_ : List (Int)) : Option ((List (Int))) := headB Try.prog A (CF k) k ⟨[(true, (.slice (.int .u8)))], []⟩ 20 [] [.r, .r, .r, .l, .l] m ⟨[(0, .val false [.vw 0 0]), (5, .val false [.int .u64 u_])], [(0, .row (.int .u8) b_ 0 [] false)]⟩
/-- hawala/varint.Get -/
noncomputable def h_varint_Get (k m : Nat) (b_ : List (Int)) (u_ : Int) (k_ : Int) : Option (Int × (List (Int)) × Bool) := headB Try.prog A (CF k) k ⟨[(false, (.int .i64)), (false, (.slice (.int .u8))), (false, .bool)], []⟩ 23 [] [.r, .r, .l, .r, .l] m ⟨[(0, .val false [.sl (.int .u8) b_]), (5, .val false [.int .u64 u_]), (6, .val false [.int .i64 k_])], []⟩
/-- hawala/hawalalaw10.RequestMay -/
theorem f_law10_RequestMay (k : Nat) (r_ : TRequest) (a_ : TAsk) : CF (k + 1) ⟨[(false, .bool)], []⟩ n_law10_RequestMay [inj KRequest r_, inj KAsk a_] =
 (((CF k ⟨[(false, .bool)], []⟩ n_law10_awake []).bind fun (r : Bool) =>
 (bif (!r) then some false
 else ((CF k ⟨[(false, .bool)], []⟩ n_request_May [inj KRequest r_]).bind fun (r_1 : Bool) =>
 ((CF k ⟨[(false, .bool)], []⟩ n_law10_may [inj KRequest r_]).bind fun (r_2 : Bool) =>
 (bif (r_1 == r_2) then ((CF k ⟨[(false, KRequest)], []⟩ n_law10_Ask_Request [inj KAsk a_]).bind fun (r_3 : TRequest) =>
 ((CF k ⟨[(false, .bool)], []⟩ n_request_May [inj KRequest r_3]).bind fun (r_4 : Bool) =>
 (bif r_4 then ((CF k ⟨[(false, .bool)], []⟩ n_request_Long [inj KRequest r_]).bind fun (r_5 : Bool) =>
 (bif decide (r_.2.1 = (2 : Int)) then some (r_5 == decide ((0 : Int) < r_.2.2.2.2.2.1))
 else some (r_5 == false)))
 else some false)))
 else some false))))) : Option (Bool)) := by kernel_rfl
/-- hawala/hawalalaw10.RequestLong -/
theorem f_law10_RequestLong (k : Nat) (a_ : TAsk) (legs_ : Int) (op_ : Int) : CF (k + 1) ⟨[(false, .bool)], []⟩ n_law10_RequestLong [inj KAsk a_, inj (.int .i64) legs_, inj (.int .i8) op_] =
 (((CF k ⟨[(false, .bool)], []⟩ n_law10_awake []).bind fun (r : Bool) =>
 (bif (!r) then some false
 else ((CF k ⟨[(false, KRequest)], []⟩ n_law10_Ask_Request [inj KAsk a_]).bind fun (r_1 : TRequest) =>
 ((CF k ⟨[(false, .bool)], []⟩ n_request_Long [inj KRequest r_1]).bind fun (r_2 : Bool) =>
 (bif (!(r_2 == decide ((0 : Int) < r_1.2.2.2.2.2.1))) then some false
 else ((CF k ⟨[(false, .bool)], []⟩ n_request_May [inj KRequest (r_1.1, (w64 op_), r_1.2.2.1, r_1.2.2.2.1, r_1.2.2.2.2.1, legs_, r_1.2.2.2.2.2.2)]).bind fun (r_3 : Bool) =>
 (bif (!r_3) then some true
 else ((CF k ⟨[(false, .bool)], []⟩ n_request_Long [inj KRequest (r_1.1, (w64 op_), r_1.2.2.1, r_1.2.2.2.1, r_1.2.2.2.2.1, legs_, r_1.2.2.2.2.2.2)]).bind fun (r_4 : Bool) =>
 some (r_4 == decide ((0 : Int) < legs_)))))))))) : Option (Bool)) := by kernel_rfl
/-- hawala/hawalalaw10.RequestTwo -/
theorem f_law10_RequestTwo (k : Nat) (a_ : TAsk) (b_ : TAsk) : CF (k + 1) ⟨[(false, .bool)], []⟩ n_law10_RequestTwo [inj KAsk a_, inj KAsk b_] =
 (((CF k ⟨[(false, .bool)], []⟩ n_law10_awake []).bind fun (r : Bool) =>
 (bif (!r) then some false
 else ((CF k ⟨[(false, KRequest)], []⟩ n_law10_Ask_Request [inj KAsk a_]).bind fun (r_1 : TRequest) =>
 ((CF k ⟨[(false, KRequest)], []⟩ n_law10_Ask_Request [inj KAsk b_]).bind fun (r_2 : TRequest) =>
 ((CF k ⟨[(true, (.slice (.int .u8)))], []⟩ n_request_Bytes [inj KRequest r_1]).bind fun (r_3 : (List (Int))) =>
 ((CF k ⟨[(true, (.slice (.int .u8)))], []⟩ n_request_Bytes [inj KRequest r_2]).bind fun (r_4 : (List (Int))) =>
 some (decide (r_3 = r_4) == (decide (r_1.1 = r_2.1) && (decide (r_1.2.1 = r_2.2.1) && (decide (r_1.2.2.1 = r_2.2.2.1) && (decide (r_1.2.2.2.1 = r_2.2.2.2.1) && (decide (r_1.2.2.2.2.1 = r_2.2.2.2.2.1) && (decide (r_1.2.2.2.2.2.1 = r_2.2.2.2.2.2.1) && (decide (r_1.2.2.2.2.2.2 = r_2.2.2.2.2.2.2) && true)))))))))))))) : Option (Bool)) := by kernel_rfl
/-- hawala/hawalalaw10.RequestReply -/
theorem f_law10_RequestReply (k : Nat) (no_ : Int) (id_ : Int) (rest_ : List (Int)) (b_ : List (Int)) : CF (k + 1) ⟨[(false, .bool)], []⟩ n_law10_RequestReply [inj (.int .i64) no_, inj (.int .i64) id_, inj (.slice (.int .u8)) rest_, inj (.slice (.int .u8)) b_] =
 (((CF k ⟨[(false, .bool)], []⟩ n_law10_awake []).bind fun (r : Bool) =>
 (bif (!r) then some false
 else ((CF k ⟨[(true, (.slice (.int .u8)))], []⟩ n_request_Reply [inj KReply (no_, id_)]).bind fun (r_1 : (List (Int))) =>
 (bif decide ((r_1.length * 1) ≤ 211106232532992) then (bif decide (((r_1.length + rest_.length) * 1) ≤ 211106232532992) then ((CF k ⟨[(false, KReply), (false, (.slice (.int .u8))), (false, .bool)], []⟩ n_request_ReadReply [inj (.slice (.int .u8)) (r_1 ++ rest_)]).bind fun (r_2 : TReply × (List (Int)) × Bool) =>
 (bif decide ((0 : Int) ≤ no_) then ((CF k ⟨[(true, (.slice (.int .u8)))], []⟩ n_varint_All [inj (.slice (.int .i64)) [no_, id_]]).bind fun (r_3 : (List (Int))) =>
 (bif (!decide (r_1 = r_3)) then some false
 else (bif (!(r_2.2.2 == decide (no_ ≤ (13 : Int)))) then some false
 else (bif r_2.2.2 then (bif (!(decide (r_2.1.1 = no_) && (decide (r_2.1.2 = id_) && true))) then some false
 else (bif (!decide (r_2.2.1 = rest_)) then some false
 else ((CF k ⟨[(false, KReply), (false, (.slice (.int .u8))), (false, .bool)], []⟩ n_request_ReadReply [inj (.slice (.int .u8)) b_]).bind fun (r_4 : TReply × (List (Int)) × Bool) =>
 (bif (!r_4.2.2) then (bif (decide (r_4.1.1 = (0 : Int)) && (decide (r_4.1.2 = (0 : Int)) && true)) then (bif decide ((r_4.2.1.length : Int) = (0 : Int)) then some true
 else (bif r_4.2.2 then ((CF k ⟨[(true, (.slice (.int .u8)))], []⟩ n_request_Reply [inj KReply r_4.1]).bind fun (r_5 : (List (Int))) =>
 (bif decide ((r_5.length + r_4.2.1.length) < 9223372036854775808) then some (decide ((r_5 ++ r_4.2.1) = b_))
 else none))
 else some false))
 else (bif r_4.2.2 then ((CF k ⟨[(true, (.slice (.int .u8)))], []⟩ n_request_Reply [inj KReply r_4.1]).bind fun (r_5 : (List (Int))) =>
 (bif decide ((r_5.length + r_4.2.1.length) < 9223372036854775808) then some (decide ((r_5 ++ r_4.2.1) = b_))
 else none))
 else some false))
 else (bif r_4.2.2 then ((CF k ⟨[(true, (.slice (.int .u8)))], []⟩ n_request_Reply [inj KReply r_4.1]).bind fun (r_5 : (List (Int))) =>
 (bif decide ((r_5.length + r_4.2.1.length) < 9223372036854775808) then some (decide ((r_5 ++ r_4.2.1) = b_))
 else none))
 else some false)))))
 else ((CF k ⟨[(false, KReply), (false, (.slice (.int .u8))), (false, .bool)], []⟩ n_request_ReadReply [inj (.slice (.int .u8)) b_]).bind fun (r_4 : TReply × (List (Int)) × Bool) =>
 (bif (!r_4.2.2) then (bif (decide (r_4.1.1 = (0 : Int)) && (decide (r_4.1.2 = (0 : Int)) && true)) then (bif decide ((r_4.2.1.length : Int) = (0 : Int)) then some true
 else (bif r_4.2.2 then ((CF k ⟨[(true, (.slice (.int .u8)))], []⟩ n_request_Reply [inj KReply r_4.1]).bind fun (r_5 : (List (Int))) =>
 (bif decide ((r_5.length + r_4.2.1.length) < 9223372036854775808) then some (decide ((r_5 ++ r_4.2.1) = b_))
 else none))
 else some false))
 else (bif r_4.2.2 then ((CF k ⟨[(true, (.slice (.int .u8)))], []⟩ n_request_Reply [inj KReply r_4.1]).bind fun (r_5 : (List (Int))) =>
 (bif decide ((r_5.length + r_4.2.1.length) < 9223372036854775808) then some (decide ((r_5 ++ r_4.2.1) = b_))
 else none))
 else some false))
 else (bif r_4.2.2 then ((CF k ⟨[(true, (.slice (.int .u8)))], []⟩ n_request_Reply [inj KReply r_4.1]).bind fun (r_5 : (List (Int))) =>
 (bif decide ((r_5.length + r_4.2.1.length) < 9223372036854775808) then some (decide ((r_5 ++ r_4.2.1) = b_))
 else none))
 else some false)))))))
 else ((CF k ⟨[(true, (.slice (.int .u8)))], []⟩ n_varint_All [inj (.slice (.int .i64)) [no_, id_]]).bind fun (r_3 : (List (Int))) =>
 (bif (!decide (r_1 = r_3)) then some false
 else (bif (!(r_2.2.2 == false)) then some false
 else (bif r_2.2.2 then (bif (!(decide (r_2.1.1 = no_) && (decide (r_2.1.2 = id_) && true))) then some false
 else (bif (!decide (r_2.2.1 = rest_)) then some false
 else ((CF k ⟨[(false, KReply), (false, (.slice (.int .u8))), (false, .bool)], []⟩ n_request_ReadReply [inj (.slice (.int .u8)) b_]).bind fun (r_4 : TReply × (List (Int)) × Bool) =>
 (bif (!r_4.2.2) then (bif (decide (r_4.1.1 = (0 : Int)) && (decide (r_4.1.2 = (0 : Int)) && true)) then (bif decide ((r_4.2.1.length : Int) = (0 : Int)) then some true
 else (bif r_4.2.2 then ((CF k ⟨[(true, (.slice (.int .u8)))], []⟩ n_request_Reply [inj KReply r_4.1]).bind fun (r_5 : (List (Int))) =>
 (bif decide ((r_5.length + r_4.2.1.length) < 9223372036854775808) then some (decide ((r_5 ++ r_4.2.1) = b_))
 else none))
 else some false))
 else (bif r_4.2.2 then ((CF k ⟨[(true, (.slice (.int .u8)))], []⟩ n_request_Reply [inj KReply r_4.1]).bind fun (r_5 : (List (Int))) =>
 (bif decide ((r_5.length + r_4.2.1.length) < 9223372036854775808) then some (decide ((r_5 ++ r_4.2.1) = b_))
 else none))
 else some false))
 else (bif r_4.2.2 then ((CF k ⟨[(true, (.slice (.int .u8)))], []⟩ n_request_Reply [inj KReply r_4.1]).bind fun (r_5 : (List (Int))) =>
 (bif decide ((r_5.length + r_4.2.1.length) < 9223372036854775808) then some (decide ((r_5 ++ r_4.2.1) = b_))
 else none))
 else some false)))))
 else ((CF k ⟨[(false, KReply), (false, (.slice (.int .u8))), (false, .bool)], []⟩ n_request_ReadReply [inj (.slice (.int .u8)) b_]).bind fun (r_4 : TReply × (List (Int)) × Bool) =>
 (bif (!r_4.2.2) then (bif (decide (r_4.1.1 = (0 : Int)) && (decide (r_4.1.2 = (0 : Int)) && true)) then (bif decide ((r_4.2.1.length : Int) = (0 : Int)) then some true
 else (bif r_4.2.2 then ((CF k ⟨[(true, (.slice (.int .u8)))], []⟩ n_request_Reply [inj KReply r_4.1]).bind fun (r_5 : (List (Int))) =>
 (bif decide ((r_5.length + r_4.2.1.length) < 9223372036854775808) then some (decide ((r_5 ++ r_4.2.1) = b_))
 else none))
 else some false))
 else (bif r_4.2.2 then ((CF k ⟨[(true, (.slice (.int .u8)))], []⟩ n_request_Reply [inj KReply r_4.1]).bind fun (r_5 : (List (Int))) =>
 (bif decide ((r_5.length + r_4.2.1.length) < 9223372036854775808) then some (decide ((r_5 ++ r_4.2.1) = b_))
 else none))
 else some false))
 else (bif r_4.2.2 then ((CF k ⟨[(true, (.slice (.int .u8)))], []⟩ n_request_Reply [inj KReply r_4.1]).bind fun (r_5 : (List (Int))) =>
 (bif decide ((r_5.length + r_4.2.1.length) < 9223372036854775808) then some (decide ((r_5 ++ r_4.2.1) = b_))
 else none))
 else some false)))))))))
 else none)
 else none)))) : Option (Bool)) := by kernel_rfl
/-- hawala/hawalalaw10.RequestRead -/
theorem f_law10_RequestRead (k : Nat) (b_ : List (Int)) (a_ : TAsk) (at_ : Int) (by_ : Int) : CF (k + 1) ⟨[(false, .bool)], []⟩ n_law10_RequestRead [inj (.slice (.int .u8)) b_, inj KAsk a_, inj (.int .u8) at_, inj (.int .u8) by_] =
 (((CF k ⟨[(false, .bool)], []⟩ n_law10_awake []).bind fun (r : Bool) =>
 (bif (!r) then some false
 else ((CF k ⟨[(false, KRequest)], []⟩ n_law10_Ask_Request [inj KAsk a_]).bind fun (r_1 : TRequest) =>
 ((CF k ⟨[(true, (.slice (.int .u8)))], []⟩ n_request_Bytes [inj KRequest r_1]).bind fun (r_2 : (List (Int))) =>
 (bif (!decide ((r_2.length : Int) = (0 : Int))) then (bif (!decide ((r_2.length : Int) = (0 : Int))) then (bif (inb (Int.tmod (w64 at_) (r_2.length : Int)) r_2.length) then (bif (inb (Int.tmod (w64 at_) (r_2.length : Int)) r_2.length) then (h_law10_RequestRead k k ([b_, (List.set r_2 (Int.toNat (Int.tmod (w64 at_) (r_2.length : Int))) (wrapb .u8 .xor (List.getD r_2 (Int.toNat (Int.tmod (w64 at_) (r_2.length : Int))) (0 : Int)) by_))].length : Int) (0 : Int) [b_, (List.set r_2 (Int.toNat (Int.tmod (w64 at_) (r_2.length : Int))) (wrapb .u8 .xor (List.getD r_2 (Int.toNat (Int.tmod (w64 at_) (r_2.length : Int))) (0 : Int)) by_))])
 else none)
 else none)
 else none)
 else none))))) : Option (Bool)) := by kernel_rfl
theorem h_law10_RequestRead_s (k m : Nat) (t40 : Int) (t41 : Int) (t39 : List (List (Int))) : h_law10_RequestRead k (m + 1) t40 t41 t39 =
 (bif decide (t41 < t40) then (bif (inb t41 t39.length) then ((CF k ⟨[(false, KRequest), (false, (.slice (.int .u8))), (false, .bool)], []⟩ n_request_Read [inj (.slice (.int .u8)) (List.getD t39 (Int.toNat t41) [])]).bind fun (r : TRequest × (List (Int)) × Bool) =>
 (bif r.2.2 then ((CF k ⟨[(false, .bool)], []⟩ n_law10_may [inj KRequest r.1]).bind fun (r_1 : Bool) =>
 (bif (!r_1) then some false
 else ((CF k ⟨[(true, (.slice (.int .u8)))], []⟩ n_request_Bytes [inj KRequest r.1]).bind fun (r_2 : (List (Int))) =>
 (bif decide ((r_2.length + r.2.1.length) < 9223372036854775808) then (bif (!decide ((r_2 ++ r.2.1) = (List.getD t39 (Int.toNat t41) []))) then some false
 else (h_law10_RequestRead k m t40 (w64 (t41 + (1 : Int))) t39))
 else none))))
 else (h_law10_RequestRead k m t40 (w64 (t41 + (1 : Int))) t39)))
 else none)
 else some true) := by kernel_rfl
theorem h_law10_RequestRead_z (k  : Nat) (t40 : Int) (t41 : Int) (t39 : List (List (Int))) : h_law10_RequestRead k 0 t40 t41 t39 = none := by kernel_rfl
/-- hawala/hawalalaw10.RequestBack -/
theorem f_law10_RequestBack (k : Nat) (a_ : TAsk) (r_ : TRequest) (rest_ : List (Int)) : CF (k + 1) ⟨[(false, .bool)], []⟩ n_law10_RequestBack [inj KAsk a_, inj KRequest r_, inj (.slice (.int .u8)) rest_] =
 (((CF k ⟨[(false, .bool)], []⟩ n_law10_awake []).bind fun (r : Bool) =>
 (bif (!r) then some false
 else ((CF k ⟨[(false, KRequest)], []⟩ n_law10_Ask_Request [inj KAsk a_]).bind fun (r_1 : TRequest) =>
 (h_law10_RequestBack k k rest_ ([r_1, r_].length : Int) (0 : Int) [r_1, r_])))) : Option (Bool)) := by kernel_rfl
theorem h_law10_RequestBack_s (k m : Nat) (rest_ : List (Int)) (t19 : Int) (t20 : Int) (t18 : List (TRequest)) : h_law10_RequestBack k (m + 1) rest_ t19 t20 t18 =
 (bif decide (t20 < t19) then (bif (inb t20 t18.length) then ((CF k ⟨[(true, (.slice (.int .u8)))], []⟩ n_request_Bytes [inj KRequest (List.getD t18 (Int.toNat t20) ((0 : Int), (0 : Int), (0 : Int), (0 : Int), (0 : Int), (0 : Int), (0 : Int)))]).bind fun (r : (List (Int))) =>
 ((CF k ⟨[(true, (.slice (.int .u8)))], []⟩ n_varint_All [inj (.slice (.int .i64)) [(List.getD t18 (Int.toNat t20) ((0 : Int), (0 : Int), (0 : Int), (0 : Int), (0 : Int), (0 : Int), (0 : Int))).1, (List.getD t18 (Int.toNat t20) ((0 : Int), (0 : Int), (0 : Int), (0 : Int), (0 : Int), (0 : Int), (0 : Int))).2.1, (List.getD t18 (Int.toNat t20) ((0 : Int), (0 : Int), (0 : Int), (0 : Int), (0 : Int), (0 : Int), (0 : Int))).2.2.1, (List.getD t18 (Int.toNat t20) ((0 : Int), (0 : Int), (0 : Int), (0 : Int), (0 : Int), (0 : Int), (0 : Int))).2.2.2.1, (List.getD t18 (Int.toNat t20) ((0 : Int), (0 : Int), (0 : Int), (0 : Int), (0 : Int), (0 : Int), (0 : Int))).2.2.2.2.1, (List.getD t18 (Int.toNat t20) ((0 : Int), (0 : Int), (0 : Int), (0 : Int), (0 : Int), (0 : Int), (0 : Int))).2.2.2.2.2.1, (List.getD t18 (Int.toNat t20) ((0 : Int), (0 : Int), (0 : Int), (0 : Int), (0 : Int), (0 : Int), (0 : Int))).2.2.2.2.2.2]]).bind fun (r_1 : (List (Int))) =>
 (bif (!decide (r = r_1)) then some false
 else (bif decide (((r.length + rest_.length) * 1) ≤ 211106232532992) then ((CF k ⟨[(false, KRequest), (false, (.slice (.int .u8))), (false, .bool)], []⟩ n_request_Read [inj (.slice (.int .u8)) (r ++ rest_)]).bind fun (r_2 : TRequest × (List (Int)) × Bool) =>
 ((CF k ⟨[(false, .bool)], []⟩ n_law10_may [inj KRequest (List.getD t18 (Int.toNat t20) ((0 : Int), (0 : Int), (0 : Int), (0 : Int), (0 : Int), (0 : Int), (0 : Int)))]).bind fun (r_3 : Bool) =>
 (bif (!(r_2.2.2 == r_3)) then some false
 else (bif r_2.2.2 then (bif (!(decide (r_2.1.1 = (List.getD t18 (Int.toNat t20) ((0 : Int), (0 : Int), (0 : Int), (0 : Int), (0 : Int), (0 : Int), (0 : Int))).1) && (decide (r_2.1.2.1 = (List.getD t18 (Int.toNat t20) ((0 : Int), (0 : Int), (0 : Int), (0 : Int), (0 : Int), (0 : Int), (0 : Int))).2.1) && (decide (r_2.1.2.2.1 = (List.getD t18 (Int.toNat t20) ((0 : Int), (0 : Int), (0 : Int), (0 : Int), (0 : Int), (0 : Int), (0 : Int))).2.2.1) && (decide (r_2.1.2.2.2.1 = (List.getD t18 (Int.toNat t20) ((0 : Int), (0 : Int), (0 : Int), (0 : Int), (0 : Int), (0 : Int), (0 : Int))).2.2.2.1) && (decide (r_2.1.2.2.2.2.1 = (List.getD t18 (Int.toNat t20) ((0 : Int), (0 : Int), (0 : Int), (0 : Int), (0 : Int), (0 : Int), (0 : Int))).2.2.2.2.1) && (decide (r_2.1.2.2.2.2.2.1 = (List.getD t18 (Int.toNat t20) ((0 : Int), (0 : Int), (0 : Int), (0 : Int), (0 : Int), (0 : Int), (0 : Int))).2.2.2.2.2.1) && (decide (r_2.1.2.2.2.2.2.2 = (List.getD t18 (Int.toNat t20) ((0 : Int), (0 : Int), (0 : Int), (0 : Int), (0 : Int), (0 : Int), (0 : Int))).2.2.2.2.2.2) && true)))))))) then some false
 else (bif (!decide (r_2.2.1 = rest_)) then some false
 else (bif (!r_2.2.2) then (bif (!(decide (r_2.1.1 = (0 : Int)) && (decide (r_2.1.2.1 = (0 : Int)) && (decide (r_2.1.2.2.1 = (0 : Int)) && (decide (r_2.1.2.2.2.1 = (0 : Int)) && (decide (r_2.1.2.2.2.2.1 = (0 : Int)) && (decide (r_2.1.2.2.2.2.2.1 = (0 : Int)) && (decide (r_2.1.2.2.2.2.2.2 = (0 : Int)) && true)))))))) then some false
 else (bif (!decide ((r_2.2.1.length : Int) = (0 : Int))) then some false
 else (h_law10_RequestBack k m rest_ t19 (w64 (t20 + (1 : Int))) t18)))
 else (h_law10_RequestBack k m rest_ t19 (w64 (t20 + (1 : Int))) t18))))
 else (bif (!r_2.2.2) then (bif (!(decide (r_2.1.1 = (0 : Int)) && (decide (r_2.1.2.1 = (0 : Int)) && (decide (r_2.1.2.2.1 = (0 : Int)) && (decide (r_2.1.2.2.2.1 = (0 : Int)) && (decide (r_2.1.2.2.2.2.1 = (0 : Int)) && (decide (r_2.1.2.2.2.2.2.1 = (0 : Int)) && (decide (r_2.1.2.2.2.2.2.2 = (0 : Int)) && true)))))))) then some false
 else (bif (!decide ((r_2.2.1.length : Int) = (0 : Int))) then some false
 else (h_law10_RequestBack k m rest_ t19 (w64 (t20 + (1 : Int))) t18)))
 else (h_law10_RequestBack k m rest_ t19 (w64 (t20 + (1 : Int))) t18))))))
 else none))))
 else none)
 else some true) := by kernel_rfl
theorem h_law10_RequestBack_z (k  : Nat) (rest_ : List (Int)) (t19 : Int) (t20 : Int) (t18 : List (TRequest)) : h_law10_RequestBack k 0 rest_ t19 t20 t18 = none := by kernel_rfl
/-- hawala/hawalalaw10.awake -/
theorem f_law10_awake (k : Nat) : CF (k + 1) ⟨[(false, .bool)], []⟩ n_law10_awake [] =
 (((CF k ⟨[(true, (.slice (.int .u8)))], []⟩ n_request_Bytes [inj KRequest ((1 : Int), (0 : Int), (2 : Int), (0 : Int), (0 : Int), (0 : Int), (0 : Int))]).bind fun (r : (List (Int))) =>
 (bif decide (((r.length + 1) * 1) ≤ 211106232532992) then ((CF k ⟨[(false, KRequest), (false, (.slice (.int .u8))), (false, .bool)], []⟩ n_request_Read [inj (.slice (.int .u8)) (r ++ [(9 : Int)])]).bind fun (r_1 : TRequest × (List (Int)) × Bool) =>
 (bif decide (r = ([2, 0, 4, 0, 0, 0, 0] : List Int)) then (bif r_1.2.2 then (bif (decide (r_1.1.1 = (1 : Int)) && (decide (r_1.1.2.1 = (0 : Int)) && (decide (r_1.1.2.2.1 = (2 : Int)) && (decide (r_1.1.2.2.2.1 = (0 : Int)) && (decide (r_1.1.2.2.2.2.1 = (0 : Int)) && (decide (r_1.1.2.2.2.2.2.1 = (0 : Int)) && (decide (r_1.1.2.2.2.2.2.2 = (0 : Int)) && true))))))) then some (decide (r_1.2.1 = ([9] : List Int)))
 else some false)
 else some false)
 else some false))
 else none)) : Option (Bool)) := by kernel_rfl
/-- hawala/request.May -/
theorem f_request_May (k : Nat) (r_ : TRequest) : CF (k + 1) ⟨[(false, .bool)], []⟩ n_request_May [inj KRequest r_] =
 ((bif decide (r_.1 < (0 : Int)) then some false
 else (bif decide ((1073741824 : Int) ≤ r_.1) then some false
 else (bif decide (r_.2.2.2.2.2.1 < (0 : Int)) then some false
 else (bif decide ((4 : Int) < r_.2.2.2.2.2.1) then some false
 else (bif decide (r_.2.2.2.2.2.2 < (0 : Int)) then some false
 else (bif decide ((1073741824 : Int) < r_.2.2.2.2.2.2) then some false
 else (bif decide ((0 : Int) < r_.2.2.2.2.2.1) then (bif (!decide (r_.2.1 = (2 : Int))) then some false
 else (bif decide (r_.2.1 = (0 : Int)) then (bif decide ((0 : Int) ≤ r_.2.2.1) then some (decide (r_.2.2.1 < (3 : Int)))
 else some false)
 else (bif decide (r_.2.1 = (5 : Int)) then some true
 else (bif decide (r_.2.1 = (1 : Int)) then (bif decide (r_.2.1 = (1 : Int)) then ((CF k ⟨[(false, .bool)], []⟩ n_money_Amount [inj (.int .i64) r_.2.2.2.2.1]).bind fun (r : Bool) =>
 some r)
 else some false)
 else (bif decide (r_.2.1 = (2 : Int)) then (bif decide (r_.2.1 = (2 : Int)) then ((CF k ⟨[(false, .bool)], []⟩ n_money_Amount [inj (.int .i64) r_.2.2.2.2.1]).bind fun (r : Bool) =>
 some r)
 else some false)
 else (bif decide (r_.2.1 = (3 : Int)) then (bif decide (r_.2.1 = (3 : Int)) then ((CF k ⟨[(false, .bool)], []⟩ n_money_Amount [inj (.int .i64) r_.2.2.2.2.1]).bind fun (r : Bool) =>
 some r)
 else some false)
 else (bif decide (r_.2.1 = (4 : Int)) then (bif decide (r_.2.1 = (4 : Int)) then ((CF k ⟨[(false, .bool)], []⟩ n_money_Amount [inj (.int .i64) r_.2.2.2.2.1]).bind fun (r : Bool) =>
 some r)
 else some false)
 else (bif decide (r_.2.1 = (6 : Int)) then (bif decide (r_.2.1 = (6 : Int)) then ((CF k ⟨[(false, .bool)], []⟩ n_money_Amount [inj (.int .i64) r_.2.2.2.2.1]).bind fun (r : Bool) =>
 some r)
 else some false)
 else (bif decide (r_.2.1 = (7 : Int)) then ((CF k ⟨[(false, .bool)], []⟩ n_money_Amount [inj (.int .i64) r_.2.2.2.2.1]).bind fun (r : Bool) =>
 some r)
 else some false)))))))))
 else (bif decide (r_.2.1 = (0 : Int)) then (bif decide ((0 : Int) ≤ r_.2.2.1) then some (decide (r_.2.2.1 < (3 : Int)))
 else some false)
 else (bif decide (r_.2.1 = (5 : Int)) then some true
 else (bif decide (r_.2.1 = (1 : Int)) then (bif decide (r_.2.1 = (1 : Int)) then ((CF k ⟨[(false, .bool)], []⟩ n_money_Amount [inj (.int .i64) r_.2.2.2.2.1]).bind fun (r : Bool) =>
 some r)
 else some false)
 else (bif decide (r_.2.1 = (2 : Int)) then (bif decide (r_.2.1 = (2 : Int)) then ((CF k ⟨[(false, .bool)], []⟩ n_money_Amount [inj (.int .i64) r_.2.2.2.2.1]).bind fun (r : Bool) =>
 some r)
 else some false)
 else (bif decide (r_.2.1 = (3 : Int)) then (bif decide (r_.2.1 = (3 : Int)) then ((CF k ⟨[(false, .bool)], []⟩ n_money_Amount [inj (.int .i64) r_.2.2.2.2.1]).bind fun (r : Bool) =>
 some r)
 else some false)
 else (bif decide (r_.2.1 = (4 : Int)) then (bif decide (r_.2.1 = (4 : Int)) then ((CF k ⟨[(false, .bool)], []⟩ n_money_Amount [inj (.int .i64) r_.2.2.2.2.1]).bind fun (r : Bool) =>
 some r)
 else some false)
 else (bif decide (r_.2.1 = (6 : Int)) then (bif decide (r_.2.1 = (6 : Int)) then ((CF k ⟨[(false, .bool)], []⟩ n_money_Amount [inj (.int .i64) r_.2.2.2.2.1]).bind fun (r : Bool) =>
 some r)
 else some false)
 else (bif decide (r_.2.1 = (7 : Int)) then ((CF k ⟨[(false, .bool)], []⟩ n_money_Amount [inj (.int .i64) r_.2.2.2.2.1]).bind fun (r : Bool) =>
 some r)
 else some false))))))))))))))) : Option (Bool)) := by kernel_rfl
/-- hawala/hawalalaw10.may -/
theorem f_law10_may (k : Nat) (r_ : TRequest) : CF (k + 1) ⟨[(false, .bool)], []⟩ n_law10_may [inj KRequest r_] =
 ((bif decide (r_.1 < (0 : Int)) then some false
 else (bif decide ((1073741823 : Int) < r_.1) then some false
 else (bif decide (r_.2.2.2.2.2.1 < (0 : Int)) then some false
 else (bif decide ((4 : Int) < r_.2.2.2.2.2.1) then some false
 else (bif decide (r_.2.2.2.2.2.2 < (0 : Int)) then some false
 else (bif decide ((1073741824 : Int) < r_.2.2.2.2.2.2) then some false
 else (bif (!decide (r_.2.1 = (2 : Int))) then (bif (!decide (r_.2.2.2.2.2.1 = (0 : Int))) then some false
 else (bif decide (r_.2.1 = (0 : Int)) then (bif decide ((0 : Int) ≤ r_.2.2.1) then some (decide (r_.2.2.1 ≤ (2 : Int)))
 else some false)
 else (bif decide (r_.2.1 = (5 : Int)) then some true
 else (bif decide ((0 : Int) < r_.2.1) then (bif decide (r_.2.1 < (8 : Int)) then (bif decide ((1 : Int) ≤ r_.2.2.2.2.1) then some (decide (r_.2.2.2.2.1 ≤ (1099511627776 : Int)))
 else some false)
 else some false)
 else some false))))
 else (bif decide (r_.2.1 = (0 : Int)) then (bif decide ((0 : Int) ≤ r_.2.2.1) then some (decide (r_.2.2.1 ≤ (2 : Int)))
 else some false)
 else (bif decide (r_.2.1 = (5 : Int)) then some true
 else (bif decide ((0 : Int) < r_.2.1) then (bif decide (r_.2.1 < (8 : Int)) then (bif decide ((1 : Int) ≤ r_.2.2.2.2.1) then some (decide (r_.2.2.2.2.1 ≤ (1099511627776 : Int)))
 else some false)
 else some false)
 else some false)))))))))) : Option (Bool)) := by kernel_rfl
/-- (hawala/hawalalaw10.Ask).Request -/
theorem f_law10_Ask_Request (k : Nat) (a_ : TAsk) : CF (k + 1) ⟨[(false, KRequest)], []⟩ n_law10_Ask_Request [inj KAsk a_] =
 ((bif decide ((w64 (Int.tmod a_.2.1 (8 : Int))) = (0 : Int)) then some ((w64 a_.1), (w64 (Int.tmod a_.2.1 (8 : Int))), (w64 (Int.tmod a_.2.2.1 (3 : Int))), (w64 ((9 : Int) + (w64 (Int.tmod a_.2.2.2.1 (6 : Int))))), (w64 ((1 : Int) + (w64 (Int.tmod a_.2.2.2.2.1 (2000 : Int))))), (0 : Int), (0 : Int))
 else (bif decide ((w64 (Int.tmod a_.2.1 (8 : Int))) = (2 : Int)) then some ((w64 a_.1), (w64 (Int.tmod a_.2.1 (8 : Int))), (w64 ((9 : Int) + (w64 (Int.tmod a_.2.2.1 (6 : Int))))), (w64 ((9 : Int) + (w64 (Int.tmod a_.2.2.2.1 (6 : Int))))), (w64 ((1 : Int) + (w64 (Int.tmod a_.2.2.2.2.1 (2000 : Int))))), (w64 (Int.tmod a_.2.2.2.2.2.1 (5 : Int))), (0 : Int))
 else (bif decide ((w64 (Int.tmod a_.2.1 (8 : Int))) = (3 : Int)) then some ((w64 a_.1), (w64 (Int.tmod a_.2.1 (8 : Int))), (w64 ((9 : Int) + (w64 (Int.tmod a_.2.2.1 (6 : Int))))), (w64 ((9 : Int) + (w64 (Int.tmod a_.2.2.2.1 (6 : Int))))), (w64 ((1 : Int) + (w64 (Int.tmod a_.2.2.2.2.1 (2000 : Int))))), (0 : Int), (w64 (Int.tmod a_.2.2.2.2.2.2 (12 : Int))))
 else (bif decide ((w64 (Int.tmod a_.2.1 (8 : Int))) = (4 : Int)) then (bif decide ((w64 (Int.tmod a_.2.1 (8 : Int))) = (4 : Int)) then some ((w64 a_.1), (w64 (Int.tmod a_.2.1 (8 : Int))), (w64 (Int.tmod a_.2.2.1 (5 : Int))), (w64 ((9 : Int) + (w64 (Int.tmod a_.2.2.2.1 (6 : Int))))), (w64 ((1 : Int) + (w64 (Int.tmod a_.2.2.2.2.1 (2000 : Int))))), (0 : Int), (0 : Int))
 else some ((w64 a_.1), (w64 (Int.tmod a_.2.1 (8 : Int))), (w64 ((9 : Int) + (w64 (Int.tmod a_.2.2.1 (6 : Int))))), (w64 ((9 : Int) + (w64 (Int.tmod a_.2.2.2.1 (6 : Int))))), (w64 ((1 : Int) + (w64 (Int.tmod a_.2.2.2.2.1 (2000 : Int))))), (0 : Int), (0 : Int)))
 else (bif decide ((w64 (Int.tmod a_.2.1 (8 : Int))) = (5 : Int)) then (bif decide ((w64 (Int.tmod a_.2.1 (8 : Int))) = (5 : Int)) then some ((w64 a_.1), (w64 (Int.tmod a_.2.1 (8 : Int))), (w64 (Int.tmod a_.2.2.1 (5 : Int))), (w64 ((9 : Int) + (w64 (Int.tmod a_.2.2.2.1 (6 : Int))))), (w64 ((1 : Int) + (w64 (Int.tmod a_.2.2.2.2.1 (2000 : Int))))), (0 : Int), (0 : Int))
 else some ((w64 a_.1), (w64 (Int.tmod a_.2.1 (8 : Int))), (w64 ((9 : Int) + (w64 (Int.tmod a_.2.2.1 (6 : Int))))), (w64 ((9 : Int) + (w64 (Int.tmod a_.2.2.2.1 (6 : Int))))), (w64 ((1 : Int) + (w64 (Int.tmod a_.2.2.2.2.1 (2000 : Int))))), (0 : Int), (0 : Int)))
 else (bif decide ((w64 (Int.tmod a_.2.1 (8 : Int))) = (6 : Int)) then (bif decide ((w64 (Int.tmod a_.2.1 (8 : Int))) = (6 : Int)) then some ((w64 a_.1), (w64 (Int.tmod a_.2.1 (8 : Int))), (w64 (Int.tmod a_.2.2.1 (5 : Int))), (w64 ((9 : Int) + (w64 (Int.tmod a_.2.2.2.1 (6 : Int))))), (w64 ((1 : Int) + (w64 (Int.tmod a_.2.2.2.2.1 (2000 : Int))))), (0 : Int), (0 : Int))
 else some ((w64 a_.1), (w64 (Int.tmod a_.2.1 (8 : Int))), (w64 ((9 : Int) + (w64 (Int.tmod a_.2.2.1 (6 : Int))))), (w64 ((9 : Int) + (w64 (Int.tmod a_.2.2.2.1 (6 : Int))))), (w64 ((1 : Int) + (w64 (Int.tmod a_.2.2.2.2.1 (2000 : Int))))), (0 : Int), (0 : Int)))
 else (bif decide ((w64 (Int.tmod a_.2.1 (8 : Int))) = (7 : Int)) then some ((w64 a_.1), (w64 (Int.tmod a_.2.1 (8 : Int))), (w64 (Int.tmod a_.2.2.1 (5 : Int))), (w64 ((9 : Int) + (w64 (Int.tmod a_.2.2.2.1 (6 : Int))))), (w64 ((1 : Int) + (w64 (Int.tmod a_.2.2.2.2.1 (2000 : Int))))), (0 : Int), (0 : Int))
 else some ((w64 a_.1), (w64 (Int.tmod a_.2.1 (8 : Int))), (w64 ((9 : Int) + (w64 (Int.tmod a_.2.2.1 (6 : Int))))), (w64 ((9 : Int) + (w64 (Int.tmod a_.2.2.2.1 (6 : Int))))), (w64 ((1 : Int) + (w64 (Int.tmod a_.2.2.2.2.1 (2000 : Int))))), (0 : Int), (0 : Int))))))))) : Option (TRequest)) := by kernel_rfl
/-- hawala/request.Long -/
theorem f_request_Long (k : Nat) (r_ : TRequest) : CF (k + 1) ⟨[(false, .bool)], []⟩ n_request_Long [inj KRequest r_] =
 ((bif decide ((0 : Int) < r_.2.2.2.2.2.1) then some (decide (r_.2.1 = (2 : Int)))
 else some false) : Option (Bool)) := by kernel_rfl
/-- hawala/request.Bytes -/
theorem f_request_Bytes (k : Nat) (r_ : TRequest) : CF (k + 1) ⟨[(true, (.slice (.int .u8)))], []⟩ n_request_Bytes [inj KRequest r_] =
 (((CF k ⟨[(false, (.slice (.int .i64)))], []⟩ n_request_numbers [inj KRequest r_]).bind fun (r : (List (Int))) =>
 ((CF k ⟨[(true, (.slice (.int .u8)))], []⟩ n_varint_All [inj (.slice (.int .i64)) r]).bind fun (r_1 : (List (Int))) =>
 some r_1)) : Option ((List (Int)))) := by kernel_rfl
/-- hawala/request.Reply -/
theorem f_request_Reply (k : Nat) (r_ : TReply) : CF (k + 1) ⟨[(true, (.slice (.int .u8)))], []⟩ n_request_Reply [inj KReply r_] =
 (((CF k ⟨[(true, (.slice (.int .u8)))], []⟩ n_varint_All [inj (.slice (.int .i64)) [r_.1, r_.2]]).bind fun (r : (List (Int))) =>
 some r) : Option ((List (Int)))) := by kernel_rfl
/-- hawala/request.ReadReply -/
theorem f_request_ReadReply (k : Nat) (b_ : List (Int)) : CF (k + 1) ⟨[(false, KReply), (false, (.slice (.int .u8))), (false, .bool)], []⟩ n_request_ReadReply [inj (.slice (.int .u8)) b_] =
 (((CF k ⟨[(false, (.slice (.int .i64))), (false, (.slice (.int .u8))), (false, .bool)], []⟩ n_varint_Take [inj (.slice (.int .u8)) b_, inj (.int .i64) (2 : Int)]).bind fun (r : (List (Int)) × (List (Int)) × Bool) =>
 (bif (!r.2.2) then some (((0 : Int), (0 : Int)), [], false)
 else (bif (inb (0 : Int) r.1.length) then (bif decide ((List.getD r.1 0 (0 : Int)) < (0 : Int)) then some (((0 : Int), (0 : Int)), [], false)
 else (bif (inb (0 : Int) r.1.length) then (bif decide ((13 : Int) < (List.getD r.1 0 (0 : Int))) then some (((0 : Int), (0 : Int)), [], false)
 else (bif (inb (0 : Int) r.1.length) then (bif (inb (1 : Int) r.1.length) then some (((List.getD r.1 0 (0 : Int)), (List.getD r.1 1 (0 : Int))), r.2.1, true)
 else none)
 else none))
 else none))
 else none))) : Option (TReply × (List (Int)) × Bool)) := by kernel_rfl
/-- hawala/varint.All -/
theorem f_varint_All (k : Nat) (ns_ : List (Int)) : CF (k + 1) ⟨[(true, (.slice (.int .u8)))], []⟩ n_varint_All [inj (.slice (.int .i64)) ns_] =
 ((h_varint_All k k ns_ (ns_.length : Int) (0 : Int) []) : Option ((List (Int)))) := by kernel_rfl
theorem h_varint_All_s (k m : Nat) (t6 : List (Int)) (t7 : Int) (t8 : Int) (out_ : List (Int)) : h_varint_All k (m + 1) t6 t7 t8 out_ =
 (bif decide (t8 < t7) then (bif (inb t8 t6.length) then ((CF k ⟨[(true, (.slice (.int .u8)))], []⟩ n_varint_Put [.val false [.mv (.int .u8) out_], inj (.int .i64) (List.getD t6 (Int.toNat t8) (0 : Int))]).bind fun (r : (List (Int))) =>
 (h_varint_All k m t6 t7 (w64 (t8 + (1 : Int))) r))
 else none)
 else some out_) := by kernel_rfl
theorem h_varint_All_z (k  : Nat) (t6 : List (Int)) (t7 : Int) (t8 : Int) (out_ : List (Int)) : h_varint_All k 0 t6 t7 t8 out_ = none := by kernel_rfl
/-- hawala/request.Read -/
theorem f_request_Read (k : Nat) (b_ : List (Int)) : CF (k + 1) ⟨[(false, KRequest), (false, (.slice (.int .u8))), (false, .bool)], []⟩ n_request_Read [inj (.slice (.int .u8)) b_] =
 (((CF k ⟨[(false, (.slice (.int .i64))), (false, (.slice (.int .u8))), (false, .bool)], []⟩ n_varint_Take [inj (.slice (.int .u8)) b_, inj (.int .i64) (7 : Int)]).bind fun (r : (List (Int)) × (List (Int)) × Bool) =>
 (bif (!r.2.2) then some (((0 : Int), (0 : Int), (0 : Int), (0 : Int), (0 : Int), (0 : Int), (0 : Int)), [], false)
 else (bif (inb (0 : Int) r.1.length) then (bif (inb (1 : Int) r.1.length) then (bif (inb (2 : Int) r.1.length) then (bif (inb (3 : Int) r.1.length) then (bif (inb (4 : Int) r.1.length) then (bif (inb (5 : Int) r.1.length) then (bif (inb (6 : Int) r.1.length) then ((CF k ⟨[(false, .bool)], []⟩ n_request_May [inj KRequest ((List.getD r.1 0 (0 : Int)), (List.getD r.1 1 (0 : Int)), (List.getD r.1 2 (0 : Int)), (List.getD r.1 3 (0 : Int)), (List.getD r.1 4 (0 : Int)), (List.getD r.1 5 (0 : Int)), (List.getD r.1 6 (0 : Int)))]).bind fun (r_1 : Bool) =>
 (bif (!r_1) then some (((0 : Int), (0 : Int), (0 : Int), (0 : Int), (0 : Int), (0 : Int), (0 : Int)), [], false)
 else some (((List.getD r.1 0 (0 : Int)), (List.getD r.1 1 (0 : Int)), (List.getD r.1 2 (0 : Int)), (List.getD r.1 3 (0 : Int)), (List.getD r.1 4 (0 : Int)), (List.getD r.1 5 (0 : Int)), (List.getD r.1 6 (0 : Int))), r.2.1, true)))
 else none)
 else none)
 else none)
 else none)
 else none)
 else none)
 else none))) : Option (TRequest × (List (Int)) × Bool)) := by kernel_rfl
/-- hawala/money.Amount -/
theorem f_money_Amount (k : Nat) (n_ : Int) : CF (k + 1) ⟨[(false, .bool)], []⟩ n_money_Amount [inj (.int .i64) n_] =
 ((bif decide ((1 : Int) ≤ n_) then some (decide (n_ ≤ (1099511627776 : Int)))
 else some false) : Option (Bool)) := by kernel_rfl
/-- hawala/request.numbers -/
theorem f_request_numbers (k : Nat) (r_ : TRequest) : CF (k + 1) ⟨[(false, (.slice (.int .i64)))], []⟩ n_request_numbers [inj KRequest r_] =
 (some [r_.1, r_.2.1, r_.2.2.1, r_.2.2.2.1, r_.2.2.2.2.1, r_.2.2.2.2.2.1, r_.2.2.2.2.2.2] : Option ((List (Int)))) := by kernel_rfl
/-- hawala/varint.Take -/
theorem f_varint_Take (k : Nat) (b_ : List (Int)) (n_ : Int) : CF (k + 1) ⟨[(false, (.slice (.int .i64))), (false, (.slice (.int .u8))), (false, .bool)], []⟩ n_varint_Take [inj (.slice (.int .u8)) b_, inj (.int .i64) n_] =
 ((h_varint_Take k k b_ n_ []) : Option ((List (Int)) × (List (Int)) × Bool)) := by kernel_rfl
theorem h_varint_Take_s (k m : Nat) (b_ : List (Int)) (n_ : Int) (out_ : List (Int)) : h_varint_Take k (m + 1) b_ n_ out_ =
 (bif decide ((out_.length : Int) < n_) then ((CF k ⟨[(false, (.int .i64)), (false, (.slice (.int .u8))), (false, .bool)], []⟩ n_varint_Get [inj (.slice (.int .u8)) b_]).bind fun (r : Int × (List (Int)) × Bool) =>
 (bif (!r.2.2) then some ([], [], false)
 else (bif decide (((out_.length + [r.1].length) * 8) ≤ 211106232532992) then (h_varint_Take k m r.2.1 n_ (out_ ++ [r.1]))
 else none)))
 else some (out_, b_, true)) := by kernel_rfl
theorem h_varint_Take_z (k  : Nat) (b_ : List (Int)) (n_ : Int) (out_ : List (Int)) : h_varint_Take k 0 b_ n_ out_ = none := by kernel_rfl
/-- hawala/varint.Put -/
theorem f_varint_Put (k : Nat) (b_ : List (Int)) (n_ : Int) : CF (k + 1) ⟨[(true, (.slice (.int .u8)))], []⟩ n_varint_Put [.val false [.mv (.int .u8) b_], inj (.int .i64) n_] =
 ((bif decide (n_ < (0 : Int)) then (h_varint_Put k k (wrapb .u64 .xor (18446744073709551615 : Int) (wu64 ((wu64 n_) * (2 : Int)))) b_)
 else (h_varint_Put k k (wu64 ((wu64 n_) * (2 : Int))) b_)) : Option ((List (Int)))) := by kernel_rfl
theorem h_varint_Put_s (k m : Nat) (u_ : Int) (b_ : List (Int)) : h_varint_Put k (m + 1) u_ b_ =
 (bif decide ((128 : Int) ≤ u_) then (bif decide (((b_.length + [(wrapb .u8 .or (w8 u_) (128 : Int))].length) * 1) ≤ 211106232532992) then (h_varint_Put k m (Int.fdiv u_ (128 : Int)) (b_ ++ [(wrapb .u8 .or (w8 u_) (128 : Int))]))
 else none)
 else (bif decide (((b_.length + [(w8 u_)].length) * 1) ≤ 211106232532992) then some (b_ ++ [(w8 u_)])
 else none)) := by kernel_rfl
theorem h_varint_Put_z (k  : Nat) (u_ : Int) (b_ : List (Int)) : h_varint_Put k 0 u_ b_ = none := by kernel_rfl
/-- hawala/varint.Get -/
theorem f_varint_Get (k : Nat) (b_ : List (Int)) : CF (k + 1) ⟨[(false, (.int .i64)), (false, (.slice (.int .u8))), (false, .bool)], []⟩ n_varint_Get [inj (.slice (.int .u8)) b_] =
 ((h_varint_Get k k b_ (0 : Int) (0 : Int)) : Option (Int × (List (Int)) × Bool)) := by kernel_rfl
theorem h_varint_Get_s (k m : Nat) (b_ : List (Int)) (u_ : Int) (k_ : Int) : h_varint_Get k (m + 1) b_ u_ k_ =
 (bif decide (k_ < (b_.length : Int)) then (bif decide (k_ < (10 : Int)) then (bif (inb k_ b_.length) then (bif decide (k_ = (9 : Int)) then (bif decide ((1 : Int) < (List.getD b_ (Int.toNat k_) (0 : Int))) then some ((0 : Int), [], false)
 else (bif decide ((0 : Int) ≤ (w64 ((7 : Int) * k_))) then (bif decide ((128 : Int) ≤ (List.getD b_ (Int.toNat k_) (0 : Int))) then (h_varint_Get k m b_ (wrapb .u64 .or u_ (wu64 ((wu64 (wrapb .u8 .and (List.getD b_ (Int.toNat k_) (0 : Int)) (127 : Int))) * ((2 : Int) ^ (min (Int.toNat (w64 ((7 : Int) * k_))) 64))))) (w64 (k_ + (1 : Int))))
 else (bif decide ((0 : Int) < k_) then (bif decide ((List.getD b_ (Int.toNat k_) (0 : Int)) = (0 : Int)) then some ((0 : Int), [], false)
 else (bif decide ((wrapb .u64 .and (wrapb .u64 .or u_ (wu64 ((wu64 (wrapb .u8 .and (List.getD b_ (Int.toNat k_) (0 : Int)) (127 : Int))) * ((2 : Int) ^ (min (Int.toNat (w64 ((7 : Int) * k_))) 64))))) (1 : Int)) = (1 : Int)) then (bif (decide ((0 : Int) ≤ (w64 (k_ + (1 : Int)))) && decide ((w64 (k_ + (1 : Int))) ≤ (b_.length : Int))) then some ((wrapb .i64 .xor (-1 : Int) (w64 (Int.fdiv (wrapb .u64 .or u_ (wu64 ((wu64 (wrapb .u8 .and (List.getD b_ (Int.toNat k_) (0 : Int)) (127 : Int))) * ((2 : Int) ^ (min (Int.toNat (w64 ((7 : Int) * k_))) 64))))) (2 : Int)))), (List.drop (Int.toNat (w64 (k_ + (1 : Int)))) b_), true)
 else none)
 else (bif (decide ((0 : Int) ≤ (w64 (k_ + (1 : Int)))) && decide ((w64 (k_ + (1 : Int))) ≤ (b_.length : Int))) then some ((w64 (Int.fdiv (wrapb .u64 .or u_ (wu64 ((wu64 (wrapb .u8 .and (List.getD b_ (Int.toNat k_) (0 : Int)) (127 : Int))) * ((2 : Int) ^ (min (Int.toNat (w64 ((7 : Int) * k_))) 64))))) (2 : Int))), (List.drop (Int.toNat (w64 (k_ + (1 : Int)))) b_), true)
 else none)))
 else (bif decide ((wrapb .u64 .and (wrapb .u64 .or u_ (wu64 ((wu64 (wrapb .u8 .and (List.getD b_ (Int.toNat k_) (0 : Int)) (127 : Int))) * ((2 : Int) ^ (min (Int.toNat (w64 ((7 : Int) * k_))) 64))))) (1 : Int)) = (1 : Int)) then (bif (decide ((0 : Int) ≤ (w64 (k_ + (1 : Int)))) && decide ((w64 (k_ + (1 : Int))) ≤ (b_.length : Int))) then some ((wrapb .i64 .xor (-1 : Int) (w64 (Int.fdiv (wrapb .u64 .or u_ (wu64 ((wu64 (wrapb .u8 .and (List.getD b_ (Int.toNat k_) (0 : Int)) (127 : Int))) * ((2 : Int) ^ (min (Int.toNat (w64 ((7 : Int) * k_))) 64))))) (2 : Int)))), (List.drop (Int.toNat (w64 (k_ + (1 : Int)))) b_), true)
 else none)
 else (bif (decide ((0 : Int) ≤ (w64 (k_ + (1 : Int)))) && decide ((w64 (k_ + (1 : Int))) ≤ (b_.length : Int))) then some ((w64 (Int.fdiv (wrapb .u64 .or u_ (wu64 ((wu64 (wrapb .u8 .and (List.getD b_ (Int.toNat k_) (0 : Int)) (127 : Int))) * ((2 : Int) ^ (min (Int.toNat (w64 ((7 : Int) * k_))) 64))))) (2 : Int))), (List.drop (Int.toNat (w64 (k_ + (1 : Int)))) b_), true)
 else none))))
 else none))
 else (bif decide ((0 : Int) ≤ (w64 ((7 : Int) * k_))) then (bif decide ((128 : Int) ≤ (List.getD b_ (Int.toNat k_) (0 : Int))) then (h_varint_Get k m b_ (wrapb .u64 .or u_ (wu64 ((wu64 (wrapb .u8 .and (List.getD b_ (Int.toNat k_) (0 : Int)) (127 : Int))) * ((2 : Int) ^ (min (Int.toNat (w64 ((7 : Int) * k_))) 64))))) (w64 (k_ + (1 : Int))))
 else (bif decide ((0 : Int) < k_) then (bif decide ((List.getD b_ (Int.toNat k_) (0 : Int)) = (0 : Int)) then some ((0 : Int), [], false)
 else (bif decide ((wrapb .u64 .and (wrapb .u64 .or u_ (wu64 ((wu64 (wrapb .u8 .and (List.getD b_ (Int.toNat k_) (0 : Int)) (127 : Int))) * ((2 : Int) ^ (min (Int.toNat (w64 ((7 : Int) * k_))) 64))))) (1 : Int)) = (1 : Int)) then (bif (decide ((0 : Int) ≤ (w64 (k_ + (1 : Int)))) && decide ((w64 (k_ + (1 : Int))) ≤ (b_.length : Int))) then some ((wrapb .i64 .xor (-1 : Int) (w64 (Int.fdiv (wrapb .u64 .or u_ (wu64 ((wu64 (wrapb .u8 .and (List.getD b_ (Int.toNat k_) (0 : Int)) (127 : Int))) * ((2 : Int) ^ (min (Int.toNat (w64 ((7 : Int) * k_))) 64))))) (2 : Int)))), (List.drop (Int.toNat (w64 (k_ + (1 : Int)))) b_), true)
 else none)
 else (bif (decide ((0 : Int) ≤ (w64 (k_ + (1 : Int)))) && decide ((w64 (k_ + (1 : Int))) ≤ (b_.length : Int))) then some ((w64 (Int.fdiv (wrapb .u64 .or u_ (wu64 ((wu64 (wrapb .u8 .and (List.getD b_ (Int.toNat k_) (0 : Int)) (127 : Int))) * ((2 : Int) ^ (min (Int.toNat (w64 ((7 : Int) * k_))) 64))))) (2 : Int))), (List.drop (Int.toNat (w64 (k_ + (1 : Int)))) b_), true)
 else none)))
 else (bif decide ((wrapb .u64 .and (wrapb .u64 .or u_ (wu64 ((wu64 (wrapb .u8 .and (List.getD b_ (Int.toNat k_) (0 : Int)) (127 : Int))) * ((2 : Int) ^ (min (Int.toNat (w64 ((7 : Int) * k_))) 64))))) (1 : Int)) = (1 : Int)) then (bif (decide ((0 : Int) ≤ (w64 (k_ + (1 : Int)))) && decide ((w64 (k_ + (1 : Int))) ≤ (b_.length : Int))) then some ((wrapb .i64 .xor (-1 : Int) (w64 (Int.fdiv (wrapb .u64 .or u_ (wu64 ((wu64 (wrapb .u8 .and (List.getD b_ (Int.toNat k_) (0 : Int)) (127 : Int))) * ((2 : Int) ^ (min (Int.toNat (w64 ((7 : Int) * k_))) 64))))) (2 : Int)))), (List.drop (Int.toNat (w64 (k_ + (1 : Int)))) b_), true)
 else none)
 else (bif (decide ((0 : Int) ≤ (w64 (k_ + (1 : Int)))) && decide ((w64 (k_ + (1 : Int))) ≤ (b_.length : Int))) then some ((w64 (Int.fdiv (wrapb .u64 .or u_ (wu64 ((wu64 (wrapb .u8 .and (List.getD b_ (Int.toNat k_) (0 : Int)) (127 : Int))) * ((2 : Int) ^ (min (Int.toNat (w64 ((7 : Int) * k_))) 64))))) (2 : Int))), (List.drop (Int.toNat (w64 (k_ + (1 : Int)))) b_), true)
 else none))))
 else none))
 else none)
 else some ((0 : Int), [], false))
 else some ((0 : Int), [], false)) := by kernel_rfl
theorem h_varint_Get_z (k  : Nat) (b_ : List (Int)) (u_ : Int) (k_ : Int) : h_varint_Get k 0 b_ u_ k_ = none := by kernel_rfl
end Go.Eng.Req
