/- What the functions of this chapter come to (printed by eq.py out of the program, by the engine; each equation is checked by Lean's kernel). No conditions. -/
import Derived.Test.YtdkpbikegheieaaDoorE30
import Derived.Test.YtdkpbikegheieaaDoorProg
set_option linter.all false
set_option linter.unusedVariables false
set_option linter.unusedSimpArgs false
set_option linter.deprecated false
namespace Go.Eng.Pay
open Go.Proofs Go.Eng
def aOwn : Nat → List Bool := fun _ => []
def aMv : Nat → List Bool := fun _ => []
def aProm : Nat → List Nat := fun _ => []
def aNils : Nat → List Nat := fun _ => []
def aKeep : Nat → Nat → List Nat := fun f b => match f, b with
  | 3, 0 => [1, 9, 23, 24, 25]
  | 8, 0 => [2, 7, 17, 18, 19]
  | _, _ => []
def A : Ann := ⟨36, aOwn, aMv, aProm, aKeep, aNils⟩
abbrev X : Outer := (XNum 13)
noncomputable abbrev CF : Nat → CallF := callF Tryd.prog A X
set_option maxRecDepth 1000000
set_option maxHeartbeats 0
abbrev KboundsError : K := (.strct (.prod (.int .i64) (.prod (.int .i64) (.prod .bool (.int .u8)))))
abbrev KerrorAddressString : K := (.strct (.prod .str (.int .u64)))
abbrev KPaid : K := (.strct (.prod (.int .u8) (.prod (.int .u8) (.prod (.int .u8) (.prod (.int .u8) (.prod (.int .u8) (.prod (.int .u8) (.prod (.int .u8) .bool))))))))
abbrev KPayment : K := (.strct (.prod (.int .i64) (.prod (.int .i64) (.prod (.int .i64) (.prod (.int .i64) (.prod (.int .i64) (.prod (.int .i64) (.prod (.int .i64) (.int .i64)))))))))
abbrev KValueError : K := (.strct (.prod .str (.int .u8)))
abbrev KUncommonType : K := (.strct (.prod (.int .i32) (.prod (.int .u16) (.prod (.int .u16) (.prod (.int .u32) (.int .u32))))))
abbrev KMethod : K := (.strct (.prod (.int .i32) (.prod (.int .i32) (.prod (.int .i32) (.int .i32)))))
/-- hawala/hawalalaw12.PaymentDo -/
noncomputable def h3_0 (k m : Nat) (op_ : Int) (t24 : Int) (t25 : Int) (x_ : Int) (x_1 : Int) (x_2 : Int) (x_3 : Int) (x_4 : Int) (x_5 : Int) (x_6 : Int) (x_7 : Int) (t23 : List (Int)) : Option (Bool) := headB Tryd.prog A (CF k) k ⟨[(false, .bool)], []⟩ 3 [] [.r, .r, .r, .l, .r, .l] m ⟨[(1, .val false [.int .i8 op_]), (9, .val false [.ptr 9 0 0 []]), (23, .val false [.vw 23 0]), (24, .val false [.int .i64 t24]), (25, .val false [.int .i64 t25])], [(9, .box [.int .i64 x_, .int .i64 x_1, .int .i64 x_2, .int .i64 x_3, .int .i64 x_4, .int .i64 x_5, .int .i64 x_6, .int .i64 x_7]), (23, .row (.int .i64) t23 0 [] false)]⟩
/-- hawala/hawalalaw12.PaymentStays -/
noncomputable def h8_0 (k m : Nat) (ns_ : List (Int)) (t17 : List (Int)) (t18 : Int) (t19 : Int) (x_ : Int) (x_1 : Int) (x_2 : Int) (x_3 : Int) (x_4 : Int) (x_5 : Int) (x_6 : Int) (x_7 : Int) : Option (Bool) := headB Tryd.prog A (CF k) k ⟨[(false, .bool)], []⟩ 8 [] [.r, .r, .r, .l, .r, .l] m ⟨[(2, .val false [.sl (.int .u8) ns_]), (7, .val false [.ptr 7 0 0 []]), (17, .val false [.sl (.int .u8) t17]), (18, .val false [.int .i64 t18]), (19, .val false [.int .i64 t19])], [(7, .box [.int .i64 x_, .int .i64 x_1, .int .i64 x_2, .int .i64 x_3, .int .i64 x_4, .int .i64 x_5, .int .i64 x_6, .int .i64 x_7])]⟩
/-- hawala/hawalalaw12.PaymentDo -/
theorem f3 (k : Nat) (p_ : KPaid.T) (op_ : Int) (n_ : Int) (small_ : Int) : CF (k + 1) ⟨[(false, .bool)], []⟩ 3 [inj KPaid p_, inj (.int .i8) op_, inj (.int .i64) n_, inj (.int .u8) small_] =
 (((CF k ⟨[(false, .bool)], []⟩ 9 []).bind fun (r : Bool) =>
 (bif (!r) then some false
 else ((CF k ⟨[(false, KPayment)], []⟩ 10 [inj KPaid p_]).bind fun (r_1 : KPayment.T) =>
 (h3_0 k k op_ ([n_, (w64 small_)].length : Int) (0 : Int) r_1.1 r_1.2.1 r_1.2.2.1 r_1.2.2.2.1 r_1.2.2.2.2.1 r_1.2.2.2.2.2.1 r_1.2.2.2.2.2.2.1 r_1.2.2.2.2.2.2.2 [n_, (w64 small_)])))) : Option (Bool)) := by kernel_rfl
theorem h3_0_s (k m : Nat) (op_ : Int) (t24 : Int) (t25 : Int) (x_ : Int) (x_1 : Int) (x_2 : Int) (x_3 : Int) (x_4 : Int) (x_5 : Int) (x_6 : Int) (x_7 : Int) (t23 : List (Int)) : h3_0 k (m + 1) op_ t24 t25 x_ x_1 x_2 x_3 x_4 x_5 x_6 x_7 t23 =
 (bif decide (t25 < t24) then (bif (inb t25 t23.length) then ((CF k ⟨[(false, KPayment), (false, .err)], []⟩ 11 [inj KPayment (x_, x_1, x_2, x_3, x_4, x_5, x_6, x_7), inj (.int .i64) (w64 op_), inj (.int .i64) (List.getD t23 (Int.toNat t25) (0 : Int))]).bind fun (r : KPayment.T × (Option Int)) =>
 ((CF k ⟨[(false, KPayment), (false, (.int .i64))], []⟩ 12 [inj KPayment (x_, x_1, x_2, x_3, x_4, x_5, x_6, x_7), inj (.int .i64) (w64 op_), inj (.int .i64) (List.getD t23 (Int.toNat t25) (0 : Int))]).bind fun (r_1 : KPayment.T × Int) =>
 (bif (!(decide (r.1.1 = r_1.1.1) && (decide (r.1.2.1 = r_1.1.2.1) && (decide (r.1.2.2.1 = r_1.1.2.2.1) && (decide (r.1.2.2.2.1 = r_1.1.2.2.2.1) && (decide (r.1.2.2.2.2.1 = r_1.1.2.2.2.2.1) && (decide (r.1.2.2.2.2.2.1 = r_1.1.2.2.2.2.2.1) && (decide (r.1.2.2.2.2.2.2.1 = r_1.1.2.2.2.2.2.2.1) && (decide (r.1.2.2.2.2.2.2.2 = r_1.1.2.2.2.2.2.2.2) && true))))))))) then some false
 else ((CF k ⟨[(false, (.int .i64))], []⟩ 13 [inj .err r.2]).bind fun (r_2 : Int) =>
 (bif (!decide (r_2 = r_1.2)) then some false
 else (h3_0 k m op_ t24 (w64 (t25 + (1 : Int))) x_ x_1 x_2 x_3 x_4 x_5 x_6 x_7 t23))))))
 else none)
 else some true) := by kernel_rfl
theorem h3_0_z (k  : Nat) (op_ : Int) (t24 : Int) (t25 : Int) (x_ : Int) (x_1 : Int) (x_2 : Int) (x_3 : Int) (x_4 : Int) (x_5 : Int) (x_6 : Int) (x_7 : Int) (t23 : List (Int)) : h3_0 k 0 op_ t24 t25 x_ x_1 x_2 x_3 x_4 x_5 x_6 x_7 t23 = none := by kernel_rfl
/-- hawala/hawalalaw12.PaymentParts -/
theorem f4 (k : Nat) (p_ : KPaid.T) (a_ : Int) (b_ : Int) (op_ : Int) : CF (k + 1) ⟨[(false, .bool)], []⟩ 4 [inj KPaid p_, inj (.int .u8) a_, inj (.int .u8) b_, inj (.int .u8) op_] =
 (((CF k ⟨[(false, .bool)], []⟩ 9 []).bind fun (r : Bool) =>
 (bif (!r) then some false
 else ((CF k ⟨[(false, KPayment)], []⟩ 10 [inj KPaid p_]).bind fun (r_1 : KPayment.T) =>
 (bif (inb (Int.tmod op_ (3 : Int)) [(4 : Int), (6 : Int), (7 : Int)].length) then ((CF k ⟨[(false, KPayment), (false, .err)], []⟩ 11 [inj KPayment r_1, inj (.int .i64) (List.getD [(4 : Int), (6 : Int), (7 : Int)] (Int.toNat (Int.tmod op_ (3 : Int))) (0 : Int)), inj (.int .i64) (w64 ((w64 ((1 : Int) + (w64 a_))) + (w64 ((1 : Int) + (w64 b_)))))]).bind fun (r_2 : KPayment.T × (Option Int)) =>
 ((CF k ⟨[(false, KPayment), (false, .err)], []⟩ 11 [inj KPayment r_1, inj (.int .i64) (List.getD [(4 : Int), (6 : Int), (7 : Int)] (Int.toNat (Int.tmod op_ (3 : Int))) (0 : Int)), inj (.int .i64) (w64 ((1 : Int) + (w64 a_)))]).bind fun (r_3 : KPayment.T × (Option Int)) =>
 (bif r_3.2.isSome then some r_2.2.isSome
 else ((CF k ⟨[(false, KPayment), (false, .err)], []⟩ 11 [inj KPayment r_3.1, inj (.int .i64) (List.getD [(4 : Int), (6 : Int), (7 : Int)] (Int.toNat (Int.tmod op_ (3 : Int))) (0 : Int)), inj (.int .i64) (w64 ((1 : Int) + (w64 b_)))]).bind fun (r_4 : KPayment.T × (Option Int)) =>
 (bif ((!r_2.2.isSome) == (!r_4.2.isSome)) then some (decide (r_2.1.1 = r_4.1.1) && (decide (r_2.1.2.1 = r_4.1.2.1) && (decide (r_2.1.2.2.1 = r_4.1.2.2.1) && (decide (r_2.1.2.2.2.1 = r_4.1.2.2.2.1) && (decide (r_2.1.2.2.2.2.1 = r_4.1.2.2.2.2.1) && (decide (r_2.1.2.2.2.2.2.1 = r_4.1.2.2.2.2.2.1) && (decide (r_2.1.2.2.2.2.2.2.1 = r_4.1.2.2.2.2.2.2.1) && (decide (r_2.1.2.2.2.2.2.2.2 = r_4.1.2.2.2.2.2.2.2) && true))))))))
 else some false)))))
 else none)))) : Option (Bool)) := by kernel_rfl
/-- hawala/hawalalaw12.PaymentAny -/
theorem f5 (k : Nat) (p_ : KPayment.T) (op_ : Int) (n_ : Int) : CF (k + 1) ⟨[(false, .bool)], []⟩ 5 [inj KPayment p_, inj (.int .i8) op_, inj (.int .i64) n_] =
 (((CF k ⟨[(false, .bool)], []⟩ 9 []).bind fun (r : Bool) =>
 (bif (!r) then some false
 else ((CF k ⟨[(false, KPayment), (false, .err)], []⟩ 11 [inj KPayment p_, inj (.int .i64) (w64 op_), inj (.int .i64) n_]).bind fun (r_1 : KPayment.T × (Option Int)) =>
 (bif decide (op_ < (4 : Int)) then (bif (decide (r_1.1.1 = (0 : Int)) && (decide (r_1.1.2.1 = (0 : Int)) && (decide (r_1.1.2.2.1 = (0 : Int)) && (decide (r_1.1.2.2.2.1 = (0 : Int)) && (decide (r_1.1.2.2.2.2.1 = (0 : Int)) && (decide (r_1.1.2.2.2.2.2.1 = (0 : Int)) && (decide (r_1.1.2.2.2.2.2.2.1 = (0 : Int)) && (decide (r_1.1.2.2.2.2.2.2.2 = (0 : Int)) && true)))))))) then ((CF k ⟨[(false, (.int .i64))], []⟩ 13 [inj .err r_1.2]).bind fun (r_2 : Int) =>
 some (decide (r_2 = (13 : Int))))
 else some false)
 else (bif decide ((7 : Int) < op_) then (bif (decide (r_1.1.1 = (0 : Int)) && (decide (r_1.1.2.1 = (0 : Int)) && (decide (r_1.1.2.2.1 = (0 : Int)) && (decide (r_1.1.2.2.2.1 = (0 : Int)) && (decide (r_1.1.2.2.2.2.1 = (0 : Int)) && (decide (r_1.1.2.2.2.2.2.1 = (0 : Int)) && (decide (r_1.1.2.2.2.2.2.2.1 = (0 : Int)) && (decide (r_1.1.2.2.2.2.2.2.2 = (0 : Int)) && true)))))))) then ((CF k ⟨[(false, (.int .i64))], []⟩ 13 [inj .err r_1.2]).bind fun (r_2 : Int) =>
 some (decide (r_2 = (13 : Int))))
 else some false)
 else (bif (!r_1.2.isSome) then some true
 else (bif (decide (r_1.1.1 = (0 : Int)) && (decide (r_1.1.2.1 = (0 : Int)) && (decide (r_1.1.2.2.1 = (0 : Int)) && (decide (r_1.1.2.2.2.1 = (0 : Int)) && (decide (r_1.1.2.2.2.2.1 = (0 : Int)) && (decide (r_1.1.2.2.2.2.2.1 = (0 : Int)) && (decide (r_1.1.2.2.2.2.2.2.1 = (0 : Int)) && (decide (r_1.1.2.2.2.2.2.2.2 = (0 : Int)) && true)))))))) then ((CF k ⟨[(false, (.int .i64))], []⟩ 13 [inj .err r_1.2]).bind fun (r_2 : Int) =>
 (bif decide (r_2 = (1 : Int)) then some true
 else ((CF k ⟨[(false, (.int .i64))], []⟩ 13 [inj .err r_1.2]).bind fun (r_3 : Int) =>
 some (decide (r_3 = (6 : Int))))))
 else some false))))))) : Option (Bool)) := by kernel_rfl
/-- hawala/hawalalaw12.PaymentVoid -/
theorem f6 (k : Nat) (p_ : KPaid.T) (n_ : Int) : CF (k + 1) ⟨[(false, .bool)], []⟩ 6 [inj KPaid p_, inj (.int .i64) n_] =
 (((CF k ⟨[(false, .bool)], []⟩ 9 []).bind fun (r : Bool) =>
 (bif (!r) then some false
 else ((CF k ⟨[(false, KPayment)], []⟩ 10 [inj KPaid p_]).bind fun (r_1 : KPayment.T) =>
 ((CF k ⟨[(false, KPayment), (false, .err)], []⟩ 11 [inj KPayment r_1, inj (.int .i64) (5 : Int), inj (.int .i64) n_]).bind fun (r_2 : KPayment.T × (Option Int)) =>
 (bif decide (r_1.2.2.2.2.2.2.2 = (1 : Int)) then (bif (decide (r_2.1.1 = (0 : Int)) && (decide (r_2.1.2.1 = (0 : Int)) && (decide (r_2.1.2.2.1 = (0 : Int)) && (decide (r_2.1.2.2.2.1 = (0 : Int)) && (decide (r_2.1.2.2.2.2.1 = (0 : Int)) && (decide (r_2.1.2.2.2.2.2.1 = (0 : Int)) && (decide (r_2.1.2.2.2.2.2.2.1 = (0 : Int)) && (decide (r_2.1.2.2.2.2.2.2.2 = (0 : Int)) && true)))))))) then ((CF k ⟨[(false, (.int .i64))], []⟩ 13 [inj .err r_2.2]).bind fun (r_3 : Int) =>
 some (decide (r_3 = (6 : Int))))
 else some false)
 else ((CF k ⟨[(false, KPayment), (false, .err)], []⟩ 11 [inj KPayment r_2.1, inj (.int .i64) (5 : Int), inj (.int .i64) (1 : Int)]).bind fun (r_3 : KPayment.T × (Option Int)) =>
 ((CF k ⟨[(false, KPayment), (false, .err)], []⟩ 11 [inj KPayment r_2.1, inj (.int .i64) (4 : Int), inj (.int .i64) (1 : Int)]).bind fun (r_4 : KPayment.T × (Option Int)) =>
 (bif (!r_2.2.isSome) then ((CF k ⟨[(false, (.int .i64))], []⟩ 14 [inj KPayment r_2.1]).bind fun (r_5 : Int) =>
 (bif decide (r_5 = (0 : Int)) then ((CF k ⟨[(false, (.int .i64))], []⟩ 15 [inj KPayment r_2.1]).bind fun (r_6 : Int) =>
 ((CF k ⟨[(false, (.int .i64))], []⟩ 15 [inj KPayment r_1]).bind fun (r_7 : Int) =>
 (bif decide (r_6 = r_7) then ((CF k ⟨[(false, (.int .i64))], []⟩ 13 [inj .err r_3.2]).bind fun (r_8 : Int) =>
 (bif decide (r_8 = (6 : Int)) then ((CF k ⟨[(false, (.int .i64))], []⟩ 13 [inj .err r_4.2]).bind fun (r_9 : Int) =>
 some (decide (r_9 = (6 : Int))))
 else some false))
 else some false)))
 else some false))
 else some false)))))))) : Option (Bool)) := by kernel_rfl
/-- hawala/hawalalaw12.PaymentRight -/
theorem f7 (k : Nat) (p_ : KPayment.T) (q_ : KPaid.T) : CF (k + 1) ⟨[(false, .bool)], []⟩ 7 [inj KPayment p_, inj KPaid q_] =
 (((CF k ⟨[(false, .bool)], []⟩ 9 []).bind fun (r : Bool) =>
 (bif (!r) then some false
 else ((CF k ⟨[(false, KPayment)], []⟩ 10 [inj KPaid q_]).bind fun (r_1 : KPayment.T) =>
 ((CF k ⟨[(false, .bool)], []⟩ 16 [inj KPayment p_]).bind fun (r_2 : Bool) =>
 ((CF k ⟨[(false, .bool)], []⟩ 17 [inj KPayment p_]).bind fun (r_3 : Bool) =>
 (bif (!(r_2 == r_3)) then some false
 else ((CF k ⟨[(false, .bool)], []⟩ 16 [inj KPayment r_1]).bind fun (r_4 : Bool) =>
 (bif (!r_4) then some false
 else (bif decide (r_1.2.2.2.2.2.2.2 = (0 : Int)) then ((CF k ⟨[(false, (.int .i64))], []⟩ 14 [inj KPayment r_1]).bind fun (r_5 : Int) =>
 (bif decide (r_5 = (w64 (r_1.2.2.1 - r_1.2.2.2.1))) then ((CF k ⟨[(false, (.int .i64))], []⟩ 15 [inj KPayment r_1]).bind fun (r_6 : Int) =>
 some (decide (r_6 = (w64 ((w64 (r_1.2.2.2.1 - r_1.2.2.2.2.1)) - r_1.2.2.2.2.2.1)))))
 else some false))
 else ((CF k ⟨[(false, (.int .i64))], []⟩ 14 [inj KPayment r_1]).bind fun (r_5 : Int) =>
 (bif decide (r_5 = (0 : Int)) then ((CF k ⟨[(false, (.int .i64))], []⟩ 15 [inj KPayment r_1]).bind fun (r_6 : Int) =>
 some (decide (r_6 = (w64 ((w64 (r_1.2.2.2.1 - r_1.2.2.2.2.1)) - r_1.2.2.2.2.2.1)))))
 else some false))))))))))) : Option (Bool)) := by kernel_rfl
/-- hawala/hawalalaw12.PaymentStays -/
theorem f8 (k : Nat) (p_ : KPaid.T) (ops_ : List (Int)) (ns_ : List (Int)) : CF (k + 1) ⟨[(false, .bool)], []⟩ 8 [inj KPaid p_, inj (.slice (.int .u8)) ops_, inj (.slice (.int .u8)) ns_] =
 (((CF k ⟨[(false, .bool)], []⟩ 9 []).bind fun (r : Bool) =>
 (bif (!r) then some false
 else ((CF k ⟨[(false, KPayment)], []⟩ 10 [inj KPaid p_]).bind fun (r_1 : KPayment.T) =>
 (h8_0 k k ns_ ops_ (ops_.length : Int) (0 : Int) r_1.1 r_1.2.1 r_1.2.2.1 r_1.2.2.2.1 r_1.2.2.2.2.1 r_1.2.2.2.2.2.1 r_1.2.2.2.2.2.2.1 r_1.2.2.2.2.2.2.2)))) : Option (Bool)) := by kernel_rfl
theorem h8_0_s (k m : Nat) (ns_ : List (Int)) (t17 : List (Int)) (t18 : Int) (t19 : Int) (x_ : Int) (x_1 : Int) (x_2 : Int) (x_3 : Int) (x_4 : Int) (x_5 : Int) (x_6 : Int) (x_7 : Int) : h8_0 k (m + 1) ns_ t17 t18 t19 x_ x_1 x_2 x_3 x_4 x_5 x_6 x_7 =
 (bif decide (t19 < t18) then (bif (inb t19 t17.length) then (bif decide (t19 < (ns_.length : Int)) then (bif (inb t19 ns_.length) then ((CF k ⟨[(false, KPayment), (false, .err)], []⟩ 11 [inj KPayment (x_, x_1, x_2, x_3, x_4, x_5, x_6, x_7), inj (.int .i64) (w64 ((4 : Int) + (w64 (Int.tmod (List.getD t17 (Int.toNat t19) (0 : Int)) (4 : Int))))), inj (.int .i64) (w64 (List.getD ns_ (Int.toNat t19) (0 : Int)))]).bind fun (r : KPayment.T × (Option Int)) =>
 (bif r.2.isSome then (bif (!(decide (r.1.1 = (0 : Int)) && (decide (r.1.2.1 = (0 : Int)) && (decide (r.1.2.2.1 = (0 : Int)) && (decide (r.1.2.2.2.1 = (0 : Int)) && (decide (r.1.2.2.2.2.1 = (0 : Int)) && (decide (r.1.2.2.2.2.2.1 = (0 : Int)) && (decide (r.1.2.2.2.2.2.2.1 = (0 : Int)) && (decide (r.1.2.2.2.2.2.2.2 = (0 : Int)) && true))))))))) then some false
 else (h8_0 k m ns_ t17 t18 (w64 (t19 + (1 : Int))) x_ x_1 x_2 x_3 x_4 x_5 x_6 x_7))
 else ((CF k ⟨[(false, .bool)], []⟩ 16 [inj KPayment r.1]).bind fun (r_1 : Bool) =>
 (bif (!r_1) then some false
 else (bif decide (r.1.2.2.2.1 < x_3) then some false
 else (bif decide (r.1.2.2.2.2.1 < x_4) then some false
 else (bif decide (r.1.2.2.2.2.2.1 < x_5) then some false
 else (bif (!decide (r.1.2.2.1 = x_2)) then some false
 else (bif decide (x_7 = (1 : Int)) then (bif decide (r.1.2.2.2.2.2.2.2 = (0 : Int)) then some false
 else (h8_0 k m ns_ t17 t18 (w64 (t19 + (1 : Int))) r.1.1 r.1.2.1 r.1.2.2.1 r.1.2.2.2.1 r.1.2.2.2.2.1 r.1.2.2.2.2.2.1 r.1.2.2.2.2.2.2.1 r.1.2.2.2.2.2.2.2))
 else (h8_0 k m ns_ t17 t18 (w64 (t19 + (1 : Int))) r.1.1 r.1.2.1 r.1.2.2.1 r.1.2.2.2.1 r.1.2.2.2.2.1 r.1.2.2.2.2.2.1 r.1.2.2.2.2.2.2.1 r.1.2.2.2.2.2.2.2))))))))))
 else none)
 else ((CF k ⟨[(false, KPayment), (false, .err)], []⟩ 11 [inj KPayment (x_, x_1, x_2, x_3, x_4, x_5, x_6, x_7), inj (.int .i64) (w64 ((4 : Int) + (w64 (Int.tmod (List.getD t17 (Int.toNat t19) (0 : Int)) (4 : Int))))), inj (.int .i64) (1 : Int)]).bind fun (r : KPayment.T × (Option Int)) =>
 (bif r.2.isSome then (bif (!(decide (r.1.1 = (0 : Int)) && (decide (r.1.2.1 = (0 : Int)) && (decide (r.1.2.2.1 = (0 : Int)) && (decide (r.1.2.2.2.1 = (0 : Int)) && (decide (r.1.2.2.2.2.1 = (0 : Int)) && (decide (r.1.2.2.2.2.2.1 = (0 : Int)) && (decide (r.1.2.2.2.2.2.2.1 = (0 : Int)) && (decide (r.1.2.2.2.2.2.2.2 = (0 : Int)) && true))))))))) then some false
 else (h8_0 k m ns_ t17 t18 (w64 (t19 + (1 : Int))) x_ x_1 x_2 x_3 x_4 x_5 x_6 x_7))
 else ((CF k ⟨[(false, .bool)], []⟩ 16 [inj KPayment r.1]).bind fun (r_1 : Bool) =>
 (bif (!r_1) then some false
 else (bif decide (r.1.2.2.2.1 < x_3) then some false
 else (bif decide (r.1.2.2.2.2.1 < x_4) then some false
 else (bif decide (r.1.2.2.2.2.2.1 < x_5) then some false
 else (bif (!decide (r.1.2.2.1 = x_2)) then some false
 else (bif decide (x_7 = (1 : Int)) then (bif decide (r.1.2.2.2.2.2.2.2 = (0 : Int)) then some false
 else (h8_0 k m ns_ t17 t18 (w64 (t19 + (1 : Int))) r.1.1 r.1.2.1 r.1.2.2.1 r.1.2.2.2.1 r.1.2.2.2.2.1 r.1.2.2.2.2.2.1 r.1.2.2.2.2.2.2.1 r.1.2.2.2.2.2.2.2))
 else (h8_0 k m ns_ t17 t18 (w64 (t19 + (1 : Int))) r.1.1 r.1.2.1 r.1.2.2.1 r.1.2.2.2.1 r.1.2.2.2.2.1 r.1.2.2.2.2.2.1 r.1.2.2.2.2.2.2.1 r.1.2.2.2.2.2.2.2)))))))))))
 else none)
 else ((CF k ⟨[(false, (.int .i64))], []⟩ 14 [inj KPayment (x_, x_1, x_2, x_3, x_4, x_5, x_6, x_7)]).bind fun (r : Int) =>
 (bif decide ((0 : Int) ≤ r) then ((CF k ⟨[(false, (.int .i64))], []⟩ 15 [inj KPayment (x_, x_1, x_2, x_3, x_4, x_5, x_6, x_7)]).bind fun (r_1 : Int) =>
 some (decide ((0 : Int) ≤ r_1)))
 else some false))) := by kernel_rfl
theorem h8_0_z (k  : Nat) (ns_ : List (Int)) (t17 : List (Int)) (t18 : Int) (t19 : Int) (x_ : Int) (x_1 : Int) (x_2 : Int) (x_3 : Int) (x_4 : Int) (x_5 : Int) (x_6 : Int) (x_7 : Int) : h8_0 k 0 ns_ t17 t18 t19 x_ x_1 x_2 x_3 x_4 x_5 x_6 x_7 = none := by kernel_rfl
/-- hawala/payment.capture -/
theorem f20 (k : Nat) (p_ : KPayment.T) (n_ : Int) : CF (k + 1) ⟨[(false, KPayment), (false, .bool)], []⟩ 20 [inj KPayment p_, inj (.int .i64) n_] =
 (((CF k ⟨[(false, (.int .i64))], []⟩ 14 [inj KPayment p_]).bind fun (r : Int) =>
 (bif decide ((w64 (p_.2.2.2.1 + n_)) = p_.2.2.1) then some ((p_.1, p_.2.1, p_.2.2.1, (w64 (p_.2.2.2.1 + n_)), p_.2.2.2.2.1, p_.2.2.2.2.2.1, p_.2.2.2.2.2.2.1, (1 : Int)), decide (n_ ≤ r))
 else some ((p_.1, p_.2.1, p_.2.2.1, (w64 (p_.2.2.2.1 + n_)), p_.2.2.2.2), decide (n_ ≤ r)))) : Option (KPayment.T × Bool)) := by kernel_rfl
/-- hawala/payment.refund -/
theorem f21 (k : Nat) (p_ : KPayment.T) (n_ : Int) : CF (k + 1) ⟨[(false, KPayment), (false, .bool)], []⟩ 21 [inj KPayment p_, inj (.int .i64) n_] =
 (((CF k ⟨[(false, (.int .i64))], []⟩ 15 [inj KPayment p_]).bind fun (r : Int) =>
 some ((p_.1, p_.2.1, p_.2.2.1, p_.2.2.2.1, (w64 (p_.2.2.2.2.1 + n_)), p_.2.2.2.2.2), decide (n_ ≤ r))) : Option (KPayment.T × Bool)) := by kernel_rfl
/-- hawala/payment.charge -/
theorem f22 (k : Nat) (p_ : KPayment.T) (n_ : Int) : CF (k + 1) ⟨[(false, KPayment), (false, .bool)], []⟩ 22 [inj KPayment p_, inj (.int .i64) n_] =
 (((CF k ⟨[(false, (.int .i64))], []⟩ 15 [inj KPayment p_]).bind fun (r : Int) =>
 some ((p_.1, p_.2.1, p_.2.2.1, p_.2.2.2.1, p_.2.2.2.2.1, (w64 (p_.2.2.2.2.2.1 + n_)), p_.2.2.2.2.2.2), decide (n_ ≤ r))) : Option (KPayment.T × Bool)) := by kernel_rfl
/-- hawala/payment.shut -/
theorem f23 (k : Nat) (p_ : KPayment.T) (a1_ : Int) : CF (k + 1) ⟨[(false, KPayment), (false, .bool)], []⟩ 23 [inj KPayment p_, inj (.int .i64) a1_] =
 (some ((p_.1, p_.2.1, p_.2.2.1, p_.2.2.2.1, p_.2.2.2.2.1, p_.2.2.2.2.2.1, p_.2.2.2.2.2.2.1, (1 : Int)), decide (p_.2.2.2.2.2.2.2 = (0 : Int))) : Option (KPayment.T × Bool)) := by kernel_rfl
/-- hawala/hawalalaw12.awake -/
theorem f9 (k : Nat) : CF (k + 1) ⟨[(false, .bool)], []⟩ 9 [] =
 (((CF k ⟨[(false, KPayment), (false, .err)], []⟩ 11 [inj KPayment ((0 : Int), (0 : Int), (9 : Int), (0 : Int), (0 : Int), (0 : Int), (0 : Int), (0 : Int)), inj (.int .i64) (4 : Int), inj (.int .i64) (9 : Int)]).bind fun (r : KPayment.T × (Option Int)) =>
 ((CF k ⟨[(false, KPayment), (false, .err)], []⟩ 11 [inj KPayment r.1, inj (.int .i64) (6 : Int), inj (.int .i64) (10 : Int)]).bind fun (r_1 : KPayment.T × (Option Int)) =>
 (bif (!r.2.isSome) then (bif decide (r.1.2.2.2.1 = (9 : Int)) then (bif decide (r.1.2.2.2.2.2.2.2 = (1 : Int)) then ((CF k ⟨[(false, (.int .i64))], []⟩ 13 [inj .err r_1.2]).bind fun (r_2 : Int) =>
 some (decide (r_2 = (6 : Int))))
 else some false)
 else some false)
 else some false))) : Option (Bool)) := by kernel_rfl
/-- (hawala/hawalalaw12.Paid).Payment -/
theorem f10 (k : Nat) (p_ : KPaid.T) : CF (k + 1) ⟨[(false, KPayment)], []⟩ 10 [inj KPaid p_] =
 ((bif (!decide ((w64 ((w64 ((1 : Int) + (w64 p_.2.2.1))) + (1 : Int))) = (0 : Int))) then (bif (!decide ((w64 ((Int.tmod (w64 p_.2.2.2.1) (w64 ((w64 ((1 : Int) + (w64 p_.2.2.1))) + (1 : Int)))) + (1 : Int))) = (0 : Int))) then (bif (!decide ((w64 ((w64 ((Int.tmod (w64 p_.2.2.2.1) (w64 ((w64 ((1 : Int) + (w64 p_.2.2.1))) + (1 : Int)))) - (Int.tmod (w64 p_.2.2.2.2.1) (w64 ((Int.tmod (w64 p_.2.2.2.1) (w64 ((w64 ((1 : Int) + (w64 p_.2.2.1))) + (1 : Int)))) + (1 : Int)))))) + (1 : Int))) = (0 : Int))) then (bif p_.2.2.2.2.2.2.2 then some ((w64 ((9 : Int) + (w64 (Int.tmod p_.1 (6 : Int))))), (w64 ((9 : Int) + (w64 (Int.tmod p_.2.1 (6 : Int))))), (w64 ((1 : Int) + (w64 p_.2.2.1))), (Int.tmod (w64 p_.2.2.2.1) (w64 ((w64 ((1 : Int) + (w64 p_.2.2.1))) + (1 : Int)))), (Int.tmod (w64 p_.2.2.2.2.1) (w64 ((Int.tmod (w64 p_.2.2.2.1) (w64 ((w64 ((1 : Int) + (w64 p_.2.2.1))) + (1 : Int)))) + (1 : Int)))), (Int.tmod (w64 p_.2.2.2.2.2.1) (w64 ((w64 ((Int.tmod (w64 p_.2.2.2.1) (w64 ((w64 ((1 : Int) + (w64 p_.2.2.1))) + (1 : Int)))) - (Int.tmod (w64 p_.2.2.2.2.1) (w64 ((Int.tmod (w64 p_.2.2.2.1) (w64 ((w64 ((1 : Int) + (w64 p_.2.2.1))) + (1 : Int)))) + (1 : Int)))))) + (1 : Int)))), (w64 (Int.tmod p_.2.2.2.2.2.2.1 (20 : Int))), (1 : Int))
 else (bif decide ((Int.tmod (w64 p_.2.2.2.1) (w64 ((w64 ((1 : Int) + (w64 p_.2.2.1))) + (1 : Int)))) = (w64 ((1 : Int) + (w64 p_.2.2.1)))) then some ((w64 ((9 : Int) + (w64 (Int.tmod p_.1 (6 : Int))))), (w64 ((9 : Int) + (w64 (Int.tmod p_.2.1 (6 : Int))))), (w64 ((1 : Int) + (w64 p_.2.2.1))), (Int.tmod (w64 p_.2.2.2.1) (w64 ((w64 ((1 : Int) + (w64 p_.2.2.1))) + (1 : Int)))), (Int.tmod (w64 p_.2.2.2.2.1) (w64 ((Int.tmod (w64 p_.2.2.2.1) (w64 ((w64 ((1 : Int) + (w64 p_.2.2.1))) + (1 : Int)))) + (1 : Int)))), (Int.tmod (w64 p_.2.2.2.2.2.1) (w64 ((w64 ((Int.tmod (w64 p_.2.2.2.1) (w64 ((w64 ((1 : Int) + (w64 p_.2.2.1))) + (1 : Int)))) - (Int.tmod (w64 p_.2.2.2.2.1) (w64 ((Int.tmod (w64 p_.2.2.2.1) (w64 ((w64 ((1 : Int) + (w64 p_.2.2.1))) + (1 : Int)))) + (1 : Int)))))) + (1 : Int)))), (w64 (Int.tmod p_.2.2.2.2.2.2.1 (20 : Int))), (1 : Int))
 else some ((w64 ((9 : Int) + (w64 (Int.tmod p_.1 (6 : Int))))), (w64 ((9 : Int) + (w64 (Int.tmod p_.2.1 (6 : Int))))), (w64 ((1 : Int) + (w64 p_.2.2.1))), (Int.tmod (w64 p_.2.2.2.1) (w64 ((w64 ((1 : Int) + (w64 p_.2.2.1))) + (1 : Int)))), (Int.tmod (w64 p_.2.2.2.2.1) (w64 ((Int.tmod (w64 p_.2.2.2.1) (w64 ((w64 ((1 : Int) + (w64 p_.2.2.1))) + (1 : Int)))) + (1 : Int)))), (Int.tmod (w64 p_.2.2.2.2.2.1) (w64 ((w64 ((Int.tmod (w64 p_.2.2.2.1) (w64 ((w64 ((1 : Int) + (w64 p_.2.2.1))) + (1 : Int)))) - (Int.tmod (w64 p_.2.2.2.2.1) (w64 ((Int.tmod (w64 p_.2.2.2.1) (w64 ((w64 ((1 : Int) + (w64 p_.2.2.1))) + (1 : Int)))) + (1 : Int)))))) + (1 : Int)))), (w64 (Int.tmod p_.2.2.2.2.2.2.1 (20 : Int))), (0 : Int))))
 else none)
 else none)
 else none) : Option (KPayment.T)) := by kernel_rfl
/-- hawala/payment.Do -/
theorem f11 (k : Nat) (p_ : KPayment.T) (op_ : Int) (n_ : Int) : CF (k + 1) ⟨[(false, KPayment), (false, .err)], []⟩ 11 [inj KPayment p_, inj (.int .i64) op_, inj (.int .i64) n_] =
 (((CF k ⟨[(false, .fn)], []⟩ 18 [inj (.int .i64) op_]).bind fun (r : (Option Nat)) =>
 (bif (!r.isSome) then some (((0 : Int), (0 : Int), (0 : Int), (0 : Int), (0 : Int), (0 : Int), (0 : Int), (0 : Int)), some (13 : Int))
 else (bif (!decide (op_ = (5 : Int))) then (bif decide (n_ < (1 : Int)) then some (((0 : Int), (0 : Int), (0 : Int), (0 : Int), (0 : Int), (0 : Int), (0 : Int), (0 : Int)), some (1 : Int))
 else (bif r.isSome then ((CF k ⟨[(false, KPayment), (false, .bool)], []⟩ (r.getD 0) [inj KPayment p_, inj (.int .i64) n_]).bind fun (r_1 : KPayment.T × Bool) =>
 (bif (!r_1.2) then some (((0 : Int), (0 : Int), (0 : Int), (0 : Int), (0 : Int), (0 : Int), (0 : Int), (0 : Int)), some (6 : Int))
 else some (r_1.1, none)))
 else none))
 else (bif r.isSome then ((CF k ⟨[(false, KPayment), (false, .bool)], []⟩ (r.getD 0) [inj KPayment p_, inj (.int .i64) n_]).bind fun (r_1 : KPayment.T × Bool) =>
 (bif (!r_1.2) then some (((0 : Int), (0 : Int), (0 : Int), (0 : Int), (0 : Int), (0 : Int), (0 : Int), (0 : Int)), some (6 : Int))
 else some (r_1.1, none)))
 else none)))) : Option (KPayment.T × (Option Int))) := by kernel_rfl
/-- hawala/hawalalaw12.do -/
theorem f12 (k : Nat) (p_ : KPayment.T) (op_ : Int) (n_ : Int) : CF (k + 1) ⟨[(false, KPayment), (false, (.int .i64))], []⟩ 12 [inj KPayment p_, inj (.int .i64) op_, inj (.int .i64) n_] =
 ((bif decide (p_.2.2.2.2.2.2.2 = (0 : Int)) then (bif decide (op_ = (4 : Int)) then (bif decide ((w64 (p_.2.2.2.1 + n_)) = p_.2.2.1) then (bif decide (n_ < (1 : Int)) then some (((0 : Int), (0 : Int), (0 : Int), (0 : Int), (0 : Int), (0 : Int), (0 : Int), (0 : Int)), (1 : Int))
 else (bif decide ((w64 (p_.2.2.1 - p_.2.2.2.1)) < n_) then some (((0 : Int), (0 : Int), (0 : Int), (0 : Int), (0 : Int), (0 : Int), (0 : Int), (0 : Int)), (6 : Int))
 else some ((p_.1, p_.2.1, p_.2.2.1, (w64 (p_.2.2.2.1 + n_)), p_.2.2.2.2.1, p_.2.2.2.2.2.1, p_.2.2.2.2.2.2.1, (1 : Int)), (0 : Int))))
 else (bif decide (n_ < (1 : Int)) then some (((0 : Int), (0 : Int), (0 : Int), (0 : Int), (0 : Int), (0 : Int), (0 : Int), (0 : Int)), (1 : Int))
 else (bif decide ((w64 (p_.2.2.1 - p_.2.2.2.1)) < n_) then some (((0 : Int), (0 : Int), (0 : Int), (0 : Int), (0 : Int), (0 : Int), (0 : Int), (0 : Int)), (6 : Int))
 else some ((p_.1, p_.2.1, p_.2.2.1, (w64 (p_.2.2.2.1 + n_)), p_.2.2.2.2), (0 : Int)))))
 else (bif decide (op_ = (6 : Int)) then (bif decide (n_ < (1 : Int)) then some (((0 : Int), (0 : Int), (0 : Int), (0 : Int), (0 : Int), (0 : Int), (0 : Int), (0 : Int)), (1 : Int))
 else (bif decide ((w64 ((w64 (p_.2.2.2.1 - p_.2.2.2.2.1)) - p_.2.2.2.2.2.1)) < n_) then some (((0 : Int), (0 : Int), (0 : Int), (0 : Int), (0 : Int), (0 : Int), (0 : Int), (0 : Int)), (6 : Int))
 else some ((p_.1, p_.2.1, p_.2.2.1, p_.2.2.2.1, (w64 (p_.2.2.2.2.1 + n_)), p_.2.2.2.2.2), (0 : Int))))
 else (bif decide (op_ = (7 : Int)) then (bif decide (n_ < (1 : Int)) then some (((0 : Int), (0 : Int), (0 : Int), (0 : Int), (0 : Int), (0 : Int), (0 : Int), (0 : Int)), (1 : Int))
 else (bif decide ((w64 ((w64 (p_.2.2.2.1 - p_.2.2.2.2.1)) - p_.2.2.2.2.2.1)) < n_) then some (((0 : Int), (0 : Int), (0 : Int), (0 : Int), (0 : Int), (0 : Int), (0 : Int), (0 : Int)), (6 : Int))
 else some ((p_.1, p_.2.1, p_.2.2.1, p_.2.2.2.1, p_.2.2.2.2.1, (w64 (p_.2.2.2.2.2.1 + n_)), p_.2.2.2.2.2.2), (0 : Int))))
 else (bif decide (op_ = (5 : Int)) then (bif (!decide (p_.2.2.2.2.2.2.2 = (0 : Int))) then some (((0 : Int), (0 : Int), (0 : Int), (0 : Int), (0 : Int), (0 : Int), (0 : Int), (0 : Int)), (6 : Int))
 else some ((p_.1, p_.2.1, p_.2.2.1, p_.2.2.2.1, p_.2.2.2.2.1, p_.2.2.2.2.2.1, p_.2.2.2.2.2.2.1, (1 : Int)), (0 : Int)))
 else some (((0 : Int), (0 : Int), (0 : Int), (0 : Int), (0 : Int), (0 : Int), (0 : Int), (0 : Int)), (13 : Int))))))
 else (bif decide (op_ = (4 : Int)) then (bif decide ((w64 (p_.2.2.2.1 + n_)) = p_.2.2.1) then (bif decide (n_ < (1 : Int)) then some (((0 : Int), (0 : Int), (0 : Int), (0 : Int), (0 : Int), (0 : Int), (0 : Int), (0 : Int)), (1 : Int))
 else (bif decide ((0 : Int) < n_) then some (((0 : Int), (0 : Int), (0 : Int), (0 : Int), (0 : Int), (0 : Int), (0 : Int), (0 : Int)), (6 : Int))
 else some ((p_.1, p_.2.1, p_.2.2.1, (w64 (p_.2.2.2.1 + n_)), p_.2.2.2.2.1, p_.2.2.2.2.2.1, p_.2.2.2.2.2.2.1, (1 : Int)), (0 : Int))))
 else (bif decide (n_ < (1 : Int)) then some (((0 : Int), (0 : Int), (0 : Int), (0 : Int), (0 : Int), (0 : Int), (0 : Int), (0 : Int)), (1 : Int))
 else (bif decide ((0 : Int) < n_) then some (((0 : Int), (0 : Int), (0 : Int), (0 : Int), (0 : Int), (0 : Int), (0 : Int), (0 : Int)), (6 : Int))
 else some ((p_.1, p_.2.1, p_.2.2.1, (w64 (p_.2.2.2.1 + n_)), p_.2.2.2.2), (0 : Int)))))
 else (bif decide (op_ = (6 : Int)) then (bif decide (n_ < (1 : Int)) then some (((0 : Int), (0 : Int), (0 : Int), (0 : Int), (0 : Int), (0 : Int), (0 : Int), (0 : Int)), (1 : Int))
 else (bif decide ((w64 ((w64 (p_.2.2.2.1 - p_.2.2.2.2.1)) - p_.2.2.2.2.2.1)) < n_) then some (((0 : Int), (0 : Int), (0 : Int), (0 : Int), (0 : Int), (0 : Int), (0 : Int), (0 : Int)), (6 : Int))
 else some ((p_.1, p_.2.1, p_.2.2.1, p_.2.2.2.1, (w64 (p_.2.2.2.2.1 + n_)), p_.2.2.2.2.2), (0 : Int))))
 else (bif decide (op_ = (7 : Int)) then (bif decide (n_ < (1 : Int)) then some (((0 : Int), (0 : Int), (0 : Int), (0 : Int), (0 : Int), (0 : Int), (0 : Int), (0 : Int)), (1 : Int))
 else (bif decide ((w64 ((w64 (p_.2.2.2.1 - p_.2.2.2.2.1)) - p_.2.2.2.2.2.1)) < n_) then some (((0 : Int), (0 : Int), (0 : Int), (0 : Int), (0 : Int), (0 : Int), (0 : Int), (0 : Int)), (6 : Int))
 else some ((p_.1, p_.2.1, p_.2.2.1, p_.2.2.2.1, p_.2.2.2.2.1, (w64 (p_.2.2.2.2.2.1 + n_)), p_.2.2.2.2.2.2), (0 : Int))))
 else (bif decide (op_ = (5 : Int)) then (bif (!decide (p_.2.2.2.2.2.2.2 = (0 : Int))) then some (((0 : Int), (0 : Int), (0 : Int), (0 : Int), (0 : Int), (0 : Int), (0 : Int), (0 : Int)), (6 : Int))
 else some ((p_.1, p_.2.1, p_.2.2.1, p_.2.2.2.1, p_.2.2.2.2.1, p_.2.2.2.2.2.1, p_.2.2.2.2.2.2.1, (1 : Int)), (0 : Int)))
 else some (((0 : Int), (0 : Int), (0 : Int), (0 : Int), (0 : Int), (0 : Int), (0 : Int), (0 : Int)), (13 : Int))))))) : Option (KPayment.T × Int)) := by kernel_rfl
/-- hawala/api.Number -/
theorem f13 (k : Nat) (e_ : Option Int) : CF (k + 1) ⟨[(false, (.int .i64))], []⟩ 13 [inj .err e_] =
 (some (e_.getD (0 : Int)) : Option (Int)) := by kernel_rfl
/-- hawala/payment.Left -/
theorem f14 (k : Nat) (p_ : KPayment.T) : CF (k + 1) ⟨[(false, (.int .i64))], []⟩ 14 [inj KPayment p_] =
 ((bif (!decide (p_.2.2.2.2.2.2.2 = (0 : Int))) then some (0 : Int)
 else some (w64 (p_.2.2.1 - p_.2.2.2.1))) : Option (Int)) := by kernel_rfl
/-- hawala/payment.Gave -/
theorem f15 (k : Nat) (p_ : KPayment.T) : CF (k + 1) ⟨[(false, (.int .i64))], []⟩ 15 [inj KPayment p_] =
 (some (w64 ((w64 (p_.2.2.2.1 - p_.2.2.2.2.1)) - p_.2.2.2.2.2.1)) : Option (Int)) := by kernel_rfl
/-- hawala/payment.Right -/
theorem f16 (k : Nat) (p_ : KPayment.T) : CF (k + 1) ⟨[(false, .bool)], []⟩ 16 [inj KPayment p_] =
 ((bif decide ((1 : Int) ≤ p_.2.2.1) then (bif decide (p_.2.2.1 ≤ (1099511627776 : Int)) then (bif decide ((0 : Int) ≤ p_.2.2.2.1) then (bif decide (p_.2.2.2.1 ≤ p_.2.2.1) then (bif decide ((0 : Int) ≤ p_.2.2.2.2.1) then (bif decide ((0 : Int) ≤ p_.2.2.2.2.2.1) then (bif decide (p_.2.2.2.2.1 ≤ p_.2.2.2.1) then (bif decide (p_.2.2.2.2.2.1 ≤ p_.2.2.2.1) then ((CF k ⟨[(false, (.int .i64))], []⟩ 15 [inj KPayment p_]).bind fun (r : Int) =>
 (bif decide ((0 : Int) ≤ r) then (bif decide ((0 : Int) ≤ p_.2.2.2.2.2.2.1) then (bif decide (p_.2.2.2.2.2.2.1 ≤ (1073741824 : Int)) then (bif decide (p_.2.2.2.2.2.2.2 = (0 : Int)) then some true
 else some (decide (p_.2.2.2.2.2.2.2 = (1 : Int))))
 else some false)
 else some false)
 else some false))
 else some false)
 else some false)
 else some false)
 else some false)
 else some false)
 else some false)
 else some false)
 else some false) : Option (Bool)) := by kernel_rfl
/-- hawala/hawalalaw12.right -/
theorem f17 (k : Nat) (p_ : KPayment.T) : CF (k + 1) ⟨[(false, .bool)], []⟩ 17 [inj KPayment p_] =
 ((bif decide (p_.2.2.1 < (1 : Int)) then some false
 else (bif decide ((1099511627776 : Int) < p_.2.2.1) then some false
 else (bif decide (p_.2.2.2.1 < (0 : Int)) then some false
 else (bif decide (p_.2.2.1 < p_.2.2.2.1) then some false
 else (bif decide (p_.2.2.2.2.2.2.1 < (0 : Int)) then some false
 else (bif decide ((1073741824 : Int) < p_.2.2.2.2.2.2.1) then some false
 else (bif (!decide (p_.2.2.2.2.2.2.2 = (0 : Int))) then (bif (!decide (p_.2.2.2.2.2.2.2 = (1 : Int))) then some false
 else (bif decide ((0 : Int) ≤ p_.2.2.2.2.1) then (bif decide ((0 : Int) ≤ p_.2.2.2.2.2.1) then (bif decide (p_.2.2.2.2.1 ≤ p_.2.2.2.1) then some (decide (p_.2.2.2.2.2.1 ≤ (w64 (p_.2.2.2.1 - p_.2.2.2.2.1))))
 else some false)
 else some false)
 else some false))
 else (bif decide ((0 : Int) ≤ p_.2.2.2.2.1) then (bif decide ((0 : Int) ≤ p_.2.2.2.2.2.1) then (bif decide (p_.2.2.2.2.1 ≤ p_.2.2.2.1) then some (decide (p_.2.2.2.2.2.1 ≤ (w64 (p_.2.2.2.1 - p_.2.2.2.2.1))))
 else some false)
 else some false)
 else some false)))))))) : Option (Bool)) := by kernel_rfl
/-- hawala/payment.by -/
theorem f18 (k : Nat) (op_ : Int) : CF (k + 1) ⟨[(false, .fn)], []⟩ 18 [inj (.int .i64) op_] =
 ((bif decide (op_ = (4 : Int)) then some (some 20)
 else (bif decide (op_ = (6 : Int)) then some (some 21)
 else (bif decide (op_ = (7 : Int)) then some (some 22)
 else (bif decide (op_ = (5 : Int)) then some (some 23)
 else some none)))) : Option ((Option Nat))) := by kernel_rfl
end Go.Eng.Pay
