/- What the functions of this chapter come to (printed by eq.py out of the program, by the engine; each equation is checked by Lean's kernel). No conditions. -/
import Derived.Test.YtahhnopoiaokkaaDoorE30
import Derived.Test.YtahhnopoiaokkaaDoorProg
set_option linter.all false
set_option linter.unusedVariables false
set_option linter.unusedSimpArgs false
set_option linter.deprecated false
namespace Go.Eng.Key
open Go.Proofs Go.Eng
def aOwn : Nat → List Bool := fun _ => []
def aMv : Nat → List Bool := fun _ => []
def aProm : Nat → List Nat := fun f => match f with
  | 3 => [4]
  | 15 => [3]
  | _ => []
def aNils : Nat → List Nat := fun f => match f with
  | 3 => [3, 14]
  | 5 => [6]
  | 11 => [6]
  | 12 => [4]
  | 15 => [2]
  | _ => []
def aKeep : Nat → Nat → List Nat := fun f b => match f, b with
  | 3, 0 => [3, 4, 19, 20, 21]
  | 3, 2 => [3, 4, 6, 7, 8, 19, 20, 21, 33, 34]
  | 5, 0 => [3, 5, 6, 7]
  | 10, 0 => [1, 7, 8, 9]
  | 14, 0 => [0, 1, 12, 13]
  | 15, 0 => [3, 6, 7, 8]
  | _, _ => []
def aCut : Nat → Nat → Option (List Nat) := fun f b => match f, b with
  | 3, 23 => some [3, 4, 6, 7, 8, 10, 11, 19, 20, 21]
  | 3, 26 => some [3, 4, 6, 7, 8, 19, 20, 21]
  | 3, 41 => some [3, 4, 14, 15, 16, 19, 20, 21]
  | _, _ => none
def A : Ann := ⟨35, aOwn, aMv, aProm, aKeep, aNils, aCut⟩
abbrev X : Outer := (XNum 13)
noncomputable abbrev CF : Nat → CallF := callF Tryd.prog A X
set_option maxRecDepth 1000000
set_option maxHeartbeats 0
abbrev KboundsError : K := (.strct (.prod (.int .i64) (.prod (.int .i64) (.prod .bool (.int .u8)))))
abbrev TboundsError : Type := (Int) × (Int) × (Bool) × Int
abbrev KerrorAddressString : K := (.strct (.prod .str (.int .u64)))
abbrev TerrorAddressString : Type := (List Int) × Int
abbrev KAsk : K := (.strct (.prod (.int .u8) (.prod (.int .u8) (.prod (.int .u8) (.prod (.int .u8) (.prod (.int .u16) (.prod (.int .u8) (.int .u8))))))))
abbrev TAsk : Type := (Int) × (Int) × (Int) × (Int) × (Int) × (Int) × Int
abbrev KAct : K := (.strct (.prod .bool (.prod (.strct (.prod (.int .u8) (.prod (.int .u8) (.prod (.int .u8) (.prod (.int .u8) (.prod (.int .u16) (.prod (.int .u8) (.int .u8)))))))) (.int .i8))))
abbrev TAct : Type := (Bool) × (TAsk) × Int
abbrev KRequest : K := (.strct (.prod (.int .i64) (.prod (.int .i64) (.prod (.int .i64) (.prod (.int .i64) (.prod (.int .i64) (.prod (.int .i64) (.int .i64))))))))
abbrev TRequest : Type := (Int) × (Int) × (Int) × (Int) × (Int) × (Int) × Int
abbrev KReply : K := (.strct (.prod (.int .i64) (.int .i64)))
abbrev TReply : Type := (Int) × Int
abbrev KKnown : K := (.strct (.prod (.strct (.prod (.int .i64) (.prod (.int .i64) (.prod (.int .i64) (.prod (.int .i64) (.prod (.int .i64) (.prod (.int .i64) (.int .i64)))))))) (.prod (.strct (.prod (.int .i64) (.int .i64))) .bool)))
abbrev TKnown : Type := (TRequest) × (TReply) × Bool
abbrev KValueError : K := (.strct (.prod .str (.int .u8)))
abbrev TValueError : Type := (List Int) × Int
abbrev KUncommonType : K := (.strct (.prod (.int .i32) (.prod (.int .u16) (.prod (.int .u16) (.prod (.int .u32) (.int .u32))))))
abbrev TUncommonType : Type := (Int) × (Int) × (Int) × (Int) × Int
abbrev KMethod : K := (.strct (.prod (.int .i32) (.prod (.int .i32) (.prod (.int .i32) (.int .i32)))))
abbrev TMethod : Type := (Int) × (Int) × (Int) × Int
abbrev n_law11_KeysScript : Nat := 3
abbrev n_law11_KeysFirst : Nat := 4
abbrev n_law11_awake : Nat := 7
abbrev n_law10_Ask_Request : Nat := 8
abbrev n_keys_Ask : Nat := 9
abbrev n_keys_Find : Nat := 10
abbrev n_keys_Tell : Nat := 11
abbrev n_keys_Put : Nat := 12
abbrev n_api_Number : Nat := 13
abbrev n_law11_Same : Nat := 14
/-- hawala/hawalalaw11.KeysScript -/
noncomputable def h_law11_KeysScript (k m : Nat) (ks_ : List (TKnown)) (t19 : List (TAct)) (t20 : Int) (t21 : Int) (model_ : List (TKnown)) : Option (Bool) := headB Tryd.prog A (CF k) k ⟨[(false, .bool)], []⟩ 3 [] [.r, .r, .r, .l, .r, .l] m ⟨[(3, .val false [.sl KKnown ks_]), (4, .val false [.vw 4 0]), (19, .val false [.sl KAct t19]), (20, .val false [.int .i64 t20]), (21, .val false [.int .i64 t21])], [(4, .row KKnown model_ 0 [] false)]⟩
/-- hawala/hawalalaw11.KeysScript -/
noncomputable def h_law11_KeysScript_1 (k m1 m : Nat) (ks_ : List (TKnown)) (at_ : Int) (t19 : List (TAct)) (t20 : Int) (t21 : Int) (t33 : Int) (t34 : Int) (model_ : List (TKnown)) (a_ : Bool) (a_1 : Int) (a_2 : Int) (a_3 : Int) (a_4 : Int) (a_5 : Int) (a_6 : Int) (a_7 : Int) (a_8 : Int) (r_ : Int) (r_1 : Int) (r_2 : Int) (r_3 : Int) (r_4 : Int) (r_5 : Int) (r_6 : Int) : Option (Bool) := headB Tryd.prog A (CF k) k ⟨[(false, .bool)], []⟩ 3 [] [.r, .r, .r, .l, .r, .l, .lp m1, .r, .r, .l, .l, .r, .r, .r, .r, .l, .r, .l] m ⟨[(3, .val false [.sl KKnown ks_]), (4, .val false [.vw 4 0]), (6, .val false [.ptr 6 0 0 []]), (7, .val false [.ptr 7 0 0 []]), (8, .val false [.int .i64 at_]), (19, .val false [.sl KAct t19]), (20, .val false [.int .i64 t20]), (21, .val false [.int .i64 t21]), (33, .val false [.int .i64 t33]), (34, .val false [.int .i64 t34])], [(4, .row KKnown model_ 0 [] false), (6, .box [.bool a_, .int .u8 a_1, .int .u8 a_2, .int .u8 a_3, .int .u8 a_4, .int .u16 a_5, .int .u8 a_6, .int .u8 a_7, .int .i8 a_8]), (7, .box [.int .i64 r_, .int .i64 r_1, .int .i64 r_2, .int .i64 r_3, .int .i64 r_4, .int .i64 r_5, .int .i64 r_6])]⟩
/-- hawala/hawalalaw11.KeysScript -/
noncomputable def h_law11_KeysScript_2 (k m1 m : Nat) (ks_ : List (TKnown)) (at_ : Int) (is_ : Bool) (t19 : List (TAct)) (t20 : Int) (t21 : Int) (model_ : List (TKnown)) (a_ : Bool) (a_1 : Int) (a_2 : Int) (a_3 : Int) (a_4 : Int) (a_5 : Int) (a_6 : Int) (a_7 : Int) (a_8 : Int) (r_ : Int) (r_1 : Int) (r_2 : Int) (r_3 : Int) (r_4 : Int) (r_5 : Int) (r_6 : Int) (want_ : Int) (want_1 : Int) : Option (Bool) := headB Tryd.prog A (CF k) k ⟨[(false, .bool)], []⟩ 3 [] [.r, .r, .r, .l, .r, .l, .lp m1, .r, .r, .l, .l, .r, .r, .r, .r, .r, .r, .r, .l] m ⟨[(3, .val false [.sl KKnown ks_]), (4, .val false [.vw 4 0]), (6, .val false [.ptr 6 0 0 []]), (7, .val false [.ptr 7 0 0 []]), (8, .val false [.int .i64 at_]), (10, .val false [.ptr 10 0 0 []]), (11, .val false [.bool is_]), (19, .val false [.sl KAct t19]), (20, .val false [.int .i64 t20]), (21, .val false [.int .i64 t21])], [(4, .row KKnown model_ 0 [] false), (6, .box [.bool a_, .int .u8 a_1, .int .u8 a_2, .int .u8 a_3, .int .u8 a_4, .int .u16 a_5, .int .u8 a_6, .int .u8 a_7, .int .i8 a_8]), (7, .box [.int .i64 r_, .int .i64 r_1, .int .i64 r_2, .int .i64 r_3, .int .i64 r_4, .int .i64 r_5, .int .i64 r_6]), (10, .box [.int .i64 want_, .int .i64 want_1])]⟩
/-- hawala/hawalalaw11.KeysScript -/
noncomputable def h_law11_KeysScript_3 (k m1 m : Nat) (ks_ : List (TKnown)) (at_ : Int) (t19 : List (TAct)) (t20 : Int) (t21 : Int) (model_ : List (TKnown)) (a_ : Bool) (a_1 : Int) (a_2 : Int) (a_3 : Int) (a_4 : Int) (a_5 : Int) (a_6 : Int) (a_7 : Int) (a_8 : Int) (r_ : Int) (r_1 : Int) (r_2 : Int) (r_3 : Int) (r_4 : Int) (r_5 : Int) (r_6 : Int) : Option (Bool) := headB Tryd.prog A (CF k) k ⟨[(false, .bool)], []⟩ 3 [] [.r, .r, .r, .l, .r, .l, .lp m1, .r, .r, .l, .l, .r, .r, .r, .r, .r, .r, .r, .r, .r, .l] m ⟨[(3, .val false [.sl KKnown ks_]), (4, .val false [.vw 4 0]), (6, .val false [.ptr 6 0 0 []]), (7, .val false [.ptr 7 0 0 []]), (8, .val false [.int .i64 at_]), (19, .val false [.sl KAct t19]), (20, .val false [.int .i64 t20]), (21, .val false [.int .i64 t21])], [(4, .row KKnown model_ 0 [] false), (6, .box [.bool a_, .int .u8 a_1, .int .u8 a_2, .int .u8 a_3, .int .u8 a_4, .int .u16 a_5, .int .u8 a_6, .int .u8 a_7, .int .i8 a_8]), (7, .box [.int .i64 r_, .int .i64 r_1, .int .i64 r_2, .int .i64 r_3, .int .i64 r_4, .int .i64 r_5, .int .i64 r_6])]⟩
/-- hawala/hawalalaw11.KeysScript -/
noncomputable def h_law11_KeysScript_4 (k m1 m : Nat) (ks_ : List (TKnown)) (next_ : List (TKnown)) (e_ : Option Int) (err_ : Int) (t19 : List (TAct)) (t20 : Int) (t21 : Int) (model_ : List (TKnown)) : Option (Bool) := headB Tryd.prog A (CF k) k ⟨[(false, .bool)], []⟩ 3 [] [.r, .r, .r, .l, .r, .l, .lp m1, .r, .r, .l, .l, .r, .r, .r, .r, .r, .r, .r, .r, .r, .r, .r, .r, .r, .l, .l] m ⟨[(3, .val false [.sl KKnown ks_]), (4, .val false [.vw 4 0]), (14, .val false [.sl KKnown next_]), (15, .val false [.err e_]), (16, .val false [.int .i64 err_]), (19, .val false [.sl KAct t19]), (20, .val false [.int .i64 t20]), (21, .val false [.int .i64 t21])], [(4, .row KKnown model_ 0 [] false)]⟩
/-- hawala/keys.Find -/
noncomputable def h_keys_Find (k m : Nat) (key_ : Int) (t7 : List (TKnown)) (t8 : Int) (t9 : Int) : Option (Int) := headB Tryd.prog A (CF k) k ⟨[(false, (.int .i64))], []⟩ 10 [] [.r, .l, .r, .l] m ⟨[(1, .val false [.int .i64 key_]), (7, .val false [.sl KKnown t7]), (8, .val false [.int .i64 t8]), (9, .val false [.int .i64 t9])], []⟩
/-- hawala/hawalalaw11.Same -/
noncomputable def h_law11_Same (k m : Nat) (a_ : List (TKnown)) (b_ : List (TKnown)) (t12 : Int) (t13 : Int) : Option (Bool) := headB Tryd.prog A (CF k) k ⟨[(false, .bool)], []⟩ 14 [] [.r, .r, .l, .r, .l] m ⟨[(0, .val false [.sl KKnown a_]), (1, .val false [.sl KKnown b_]), (12, .val false [.int .i64 t12]), (13, .val false [.int .i64 t13])], []⟩
/-- hawala/hawalalaw11.KeysScript -/
theorem f_law11_KeysScript (k : Nat) (acts_ : List (TAct)) : CF (k + 1) ⟨[(false, .bool)], []⟩ n_law11_KeysScript [inj (.slice KAct) acts_] =
 (((CF k ⟨[(false, .bool)], []⟩ n_law11_awake []).bind fun (r : Bool) =>
 (bif (!r) then some false
 else (h_law11_KeysScript k k [] acts_ (acts_.length : Int) (0 : Int) []))) : Option (Bool)) := by kernel_rfl
theorem h_law11_KeysScript_s (k m : Nat) (ks_ : List (TKnown)) (t19 : List (TAct)) (t20 : Int) (t21 : Int) (model_ : List (TKnown)) (e1 : (Bool × ((Int × (Int × (Int × (Int × (Int × (Int × Int)))))) × Int))) (h_e1 : e1 = (List.getD t19 (Int.toNat t21) (false, ((0 : Int), (0 : Int), (0 : Int), (0 : Int), (0 : Int), (0 : Int), (0 : Int)), (0 : Int)))) (e2 : (Int × Int)) (h_e2 : e2 = e1.2.1.2.2.2.2.2) : h_law11_KeysScript k (m + 1) ks_ t19 t20 t21 model_ =
 (bif decide (t21 < t20) then (bif (inb t21 t19.length) then ((CF k ⟨[(false, KRequest)], []⟩ n_law10_Ask_Request [inj KAsk e1.2.1]).bind fun (r : TRequest) =>
 (h_law11_KeysScript_1 k m k ks_ (-1 : Int) t19 t20 t21 (model_.length : Int) (0 : Int) model_ e1.1 e1.2.1.1 e1.2.1.2.1 e1.2.1.2.2.1 e1.2.1.2.2.2.1 e1.2.1.2.2.2.2.1 e2.1 e2.2 e1.2.2 (Int.tmod r.1 (8 : Int)) r.2.1 r.2.2.1 r.2.2.2.1 r.2.2.2.2.1 r.2.2.2.2.2.1 r.2.2.2.2.2.2))
 else none)
 else some true) := by
  subst h_e1 h_e2
  kernel_rfl
theorem h_law11_KeysScript_z (k  : Nat) (ks_ : List (TKnown)) (t19 : List (TAct)) (t20 : Int) (t21 : Int) (model_ : List (TKnown)) : h_law11_KeysScript k 0 ks_ t19 t20 t21 model_ = none := by kernel_rfl
theorem h_law11_KeysScript_1_s (k m1 m : Nat) (ks_ : List (TKnown)) (at_ : Int) (t19 : List (TAct)) (t20 : Int) (t21 : Int) (t33 : Int) (t34 : Int) (model_ : List (TKnown)) (a_ : Bool) (a_1 : Int) (a_2 : Int) (a_3 : Int) (a_4 : Int) (a_5 : Int) (a_6 : Int) (a_7 : Int) (a_8 : Int) (r_ : Int) (r_1 : Int) (r_2 : Int) (r_3 : Int) (r_4 : Int) (r_5 : Int) (r_6 : Int) (e1 : Int) (h_e1 : e1 = (w64 (t34 + (1 : Int)))) (e2 : ((Int × (Int × (Int × (Int × (Int × (Int × Int)))))) × ((Int × Int) × Bool))) (h_e2 : e2 = (List.getD model_ (Int.toNat at_) (((0 : Int), (0 : Int), (0 : Int), (0 : Int), (0 : Int), (0 : Int), (0 : Int)), ((0 : Int), (0 : Int)), false))) : h_law11_KeysScript_1 k m1 (m + 1) ks_ at_ t19 t20 t21 t33 t34 model_ a_ a_1 a_2 a_3 a_4 a_5 a_6 a_7 a_8 r_ r_1 r_2 r_3 r_4 r_5 r_6 =
 (bif decide (t34 < t33) then (bif decide (at_ < (0 : Int)) then (bif (inb t34 model_.length) then (bif decide ((List.getD model_ (Int.toNat t34) (((0 : Int), (0 : Int), (0 : Int), (0 : Int), (0 : Int), (0 : Int), (0 : Int)), ((0 : Int), (0 : Int)), false)).1.1 = r_) then (h_law11_KeysScript_1 k m1 m ks_ t34 t19 t20 t21 t33 e1 model_ a_ a_1 a_2 a_3 a_4 a_5 a_6 a_7 a_8 r_ r_1 r_2 r_3 r_4 r_5 r_6)
 else (h_law11_KeysScript_1 k m1 m ks_ at_ t19 t20 t21 t33 e1 model_ a_ a_1 a_2 a_3 a_4 a_5 a_6 a_7 a_8 r_ r_1 r_2 r_3 r_4 r_5 r_6))
 else none)
 else (h_law11_KeysScript_1 k m1 m ks_ at_ t19 t20 t21 t33 e1 model_ a_ a_1 a_2 a_3 a_4 a_5 a_6 a_7 a_8 r_ r_1 r_2 r_3 r_4 r_5 r_6))
 else (bif decide ((0 : Int) ≤ at_) then (bif (inb at_ model_.length) then (bif (!(decide (e2.1.1 = r_) && (decide (e2.1.2.1 = r_1) && (decide (e2.1.2.2.1 = r_2) && (decide (e2.1.2.2.2.1 = r_3) && (decide (e2.1.2.2.2.2.1 = r_4) && (decide (e2.1.2.2.2.2.2.1 = r_5) && (decide (e2.1.2.2.2.2.2.2 = r_6) && true)))))))) then (h_law11_KeysScript_2 k m1 k ks_ at_ (decide ((0 : Int) ≤ at_)) t19 t20 t21 model_ a_ a_1 a_2 a_3 a_4 a_5 a_6 a_7 a_8 r_ r_1 r_2 r_3 r_4 r_5 r_6 (5 : Int) (0 : Int))
 else (bif decide ((0 : Int) ≤ at_) then (bif (inb at_ model_.length) then (bif (!e2.2.2) then (h_law11_KeysScript_2 k m1 k ks_ at_ (decide ((0 : Int) ≤ at_)) t19 t20 t21 model_ a_ a_1 a_2 a_3 a_4 a_5 a_6 a_7 a_8 r_ r_1 r_2 r_3 r_4 r_5 r_6 (10 : Int) (0 : Int))
 else (bif decide ((0 : Int) ≤ at_) then (bif (inb at_ model_.length) then (h_law11_KeysScript_2 k m1 k ks_ at_ (decide ((0 : Int) ≤ at_)) t19 t20 t21 model_ a_ a_1 a_2 a_3 a_4 a_5 a_6 a_7 a_8 r_ r_1 r_2 r_3 r_4 r_5 r_6 e2.2.1.1 e2.2.1.2)
 else none)
 else (h_law11_KeysScript_2 k m1 k ks_ at_ (decide ((0 : Int) ≤ at_)) t19 t20 t21 model_ a_ a_1 a_2 a_3 a_4 a_5 a_6 a_7 a_8 r_ r_1 r_2 r_3 r_4 r_5 r_6 (0 : Int) (0 : Int))))
 else none)
 else (bif decide ((0 : Int) ≤ at_) then (bif (inb at_ model_.length) then (h_law11_KeysScript_2 k m1 k ks_ at_ (decide ((0 : Int) ≤ at_)) t19 t20 t21 model_ a_ a_1 a_2 a_3 a_4 a_5 a_6 a_7 a_8 r_ r_1 r_2 r_3 r_4 r_5 r_6 e2.2.1.1 e2.2.1.2)
 else none)
 else (h_law11_KeysScript_2 k m1 k ks_ at_ (decide ((0 : Int) ≤ at_)) t19 t20 t21 model_ a_ a_1 a_2 a_3 a_4 a_5 a_6 a_7 a_8 r_ r_1 r_2 r_3 r_4 r_5 r_6 (0 : Int) (0 : Int)))))
 else none)
 else (bif decide ((0 : Int) ≤ at_) then (bif (inb at_ model_.length) then (bif (!e2.2.2) then (h_law11_KeysScript_2 k m1 k ks_ at_ (decide ((0 : Int) ≤ at_)) t19 t20 t21 model_ a_ a_1 a_2 a_3 a_4 a_5 a_6 a_7 a_8 r_ r_1 r_2 r_3 r_4 r_5 r_6 (10 : Int) (0 : Int))
 else (bif decide ((0 : Int) ≤ at_) then (bif (inb at_ model_.length) then (h_law11_KeysScript_2 k m1 k ks_ at_ (decide ((0 : Int) ≤ at_)) t19 t20 t21 model_ a_ a_1 a_2 a_3 a_4 a_5 a_6 a_7 a_8 r_ r_1 r_2 r_3 r_4 r_5 r_6 e2.2.1.1 e2.2.1.2)
 else none)
 else (h_law11_KeysScript_2 k m1 k ks_ at_ (decide ((0 : Int) ≤ at_)) t19 t20 t21 model_ a_ a_1 a_2 a_3 a_4 a_5 a_6 a_7 a_8 r_ r_1 r_2 r_3 r_4 r_5 r_6 (0 : Int) (0 : Int))))
 else none)
 else (bif decide ((0 : Int) ≤ at_) then (bif (inb at_ model_.length) then (h_law11_KeysScript_2 k m1 k ks_ at_ (decide ((0 : Int) ≤ at_)) t19 t20 t21 model_ a_ a_1 a_2 a_3 a_4 a_5 a_6 a_7 a_8 r_ r_1 r_2 r_3 r_4 r_5 r_6 e2.2.1.1 e2.2.1.2)
 else none)
 else (h_law11_KeysScript_2 k m1 k ks_ at_ (decide ((0 : Int) ≤ at_)) t19 t20 t21 model_ a_ a_1 a_2 a_3 a_4 a_5 a_6 a_7 a_8 r_ r_1 r_2 r_3 r_4 r_5 r_6 (0 : Int) (0 : Int)))))) := by
  subst h_e1 h_e2
  kernel_rfl
theorem h_law11_KeysScript_1_z (k m1 : Nat) (ks_ : List (TKnown)) (at_ : Int) (t19 : List (TAct)) (t20 : Int) (t21 : Int) (t33 : Int) (t34 : Int) (model_ : List (TKnown)) (a_ : Bool) (a_1 : Int) (a_2 : Int) (a_3 : Int) (a_4 : Int) (a_5 : Int) (a_6 : Int) (a_7 : Int) (a_8 : Int) (r_ : Int) (r_1 : Int) (r_2 : Int) (r_3 : Int) (r_4 : Int) (r_5 : Int) (r_6 : Int) : h_law11_KeysScript_1 k m1 0 ks_ at_ t19 t20 t21 t33 t34 model_ a_ a_1 a_2 a_3 a_4 a_5 a_6 a_7 a_8 r_ r_1 r_2 r_3 r_4 r_5 r_6 = none := by kernel_rfl
theorem h_law11_KeysScript_2_s (k m1 m : Nat) (ks_ : List (TKnown)) (at_ : Int) (is_ : Bool) (t19 : List (TAct)) (t20 : Int) (t21 : Int) (model_ : List (TKnown)) (a_ : Bool) (a_1 : Int) (a_2 : Int) (a_3 : Int) (a_4 : Int) (a_5 : Int) (a_6 : Int) (a_7 : Int) (a_8 : Int) (r_ : Int) (r_1 : Int) (r_2 : Int) (r_3 : Int) (r_4 : Int) (r_5 : Int) (r_6 : Int) (want_ : Int) (want_1 : Int) : h_law11_KeysScript_2 k m1 (m + 1) ks_ at_ is_ t19 t20 t21 model_ a_ a_1 a_2 a_3 a_4 a_5 a_6 a_7 a_8 r_ r_1 r_2 r_3 r_4 r_5 r_6 want_ want_1 =
 ((CF k ⟨[(false, KReply), (false, .bool)], []⟩ n_keys_Ask [inj (.slice KKnown) ks_, inj KRequest (r_, r_1, r_2, r_3, r_4, r_5, r_6)]).bind fun (r : TReply × Bool) =>
 (bif (!(decide (r.1.1 = want_) && (decide (r.1.2 = want_1) && true))) then some false
 else (bif (!(r.2 == is_)) then some false
 else ((CF k ⟨[(false, (.int .i64))], []⟩ n_keys_Find [inj (.slice KKnown) ks_, inj (.int .i64) r_]).bind fun (r_7 : Int) =>
 (bif (!decide (r_7 = at_)) then some false
 else (h_law11_KeysScript_3 k m1 k ks_ at_ t19 t20 t21 model_ a_ a_1 a_2 a_3 a_4 a_5 a_6 a_7 a_8 r_ r_1 r_2 r_3 r_4 r_5 r_6)))))) := by kernel_rfl
theorem h_law11_KeysScript_2_z (k m1 : Nat) (ks_ : List (TKnown)) (at_ : Int) (is_ : Bool) (t19 : List (TAct)) (t20 : Int) (t21 : Int) (model_ : List (TKnown)) (a_ : Bool) (a_1 : Int) (a_2 : Int) (a_3 : Int) (a_4 : Int) (a_5 : Int) (a_6 : Int) (a_7 : Int) (a_8 : Int) (r_ : Int) (r_1 : Int) (r_2 : Int) (r_3 : Int) (r_4 : Int) (r_5 : Int) (r_6 : Int) (want_ : Int) (want_1 : Int) : h_law11_KeysScript_2 k m1 0 ks_ at_ is_ t19 t20 t21 model_ a_ a_1 a_2 a_3 a_4 a_5 a_6 a_7 a_8 r_ r_1 r_2 r_3 r_4 r_5 r_6 want_ want_1 = none := by kernel_rfl
theorem h_law11_KeysScript_3_s (k m1 m : Nat) (ks_ : List (TKnown)) (at_ : Int) (t19 : List (TAct)) (t20 : Int) (t21 : Int) (model_ : List (TKnown)) (a_ : Bool) (a_1 : Int) (a_2 : Int) (a_3 : Int) (a_4 : Int) (a_5 : Int) (a_6 : Int) (a_7 : Int) (a_8 : Int) (r_ : Int) (r_1 : Int) (r_2 : Int) (r_3 : Int) (r_4 : Int) (r_5 : Int) (r_6 : Int) (e1 : (Int × Int)) (h_e1 : e1 = ((0 : Int), (w64 a_8))) (e2 : (Int × (Int × (Int × (Int × (Int × (Int × Int))))))) (h_e2 : e2 = (r_, r_1, r_2, r_3, r_4, r_5, r_6)) (e3 : ((Int × (Int × (Int × (Int × (Int × (Int × Int)))))) × ((Int × Int) × Bool))) (h_e3 : e3 = (List.getD model_ (Int.toNat at_) (((0 : Int), (0 : Int), (0 : Int), (0 : Int), (0 : Int), (0 : Int), (0 : Int)), ((0 : Int), (0 : Int)), false))) (e4 : (List ((Int × (Int × (Int × (Int × (Int × (Int × Int)))))) × ((Int × Int) × Bool)))) (h_e4 : e4 = [(e2, ((0 : Int), (0 : Int)), false)]) (e5 : (List ((Int × (Int × (Int × (Int × (Int × (Int × Int)))))) × ((Int × Int) × Bool)))) (h_e5 : e5 = (List.set model_ (Int.toNat at_) (e3.1, e1, e3.2.2))) (e6 : ((Int × (Int × (Int × (Int × (Int × (Int × Int)))))) × ((Int × Int) × Bool))) (h_e6 : e6 = (List.getD e5 (Int.toNat at_) (((0 : Int), (0 : Int), (0 : Int), (0 : Int), (0 : Int), (0 : Int), (0 : Int)), ((0 : Int), (0 : Int)), false))) : h_law11_KeysScript_3 k m1 (m + 1) ks_ at_ t19 t20 t21 model_ a_ a_1 a_2 a_3 a_4 a_5 a_6 a_7 a_8 r_ r_1 r_2 r_3 r_4 r_5 r_6 =
 (bif a_ then ((CF k ⟨[(false, (.slice KKnown)), (false, .err)], []⟩ n_keys_Tell [inj (.slice KKnown) ks_, inj (.int .i64) r_, inj KReply e1]).bind fun (r : (List (TKnown)) × (Option Int)) =>
 (bif decide (at_ < (0 : Int)) then (h_law11_KeysScript_4 k m1 k ks_ r.1 r.2 (2 : Int) t19 t20 t21 model_)
 else (bif (inb at_ model_.length) then (bif e3.2.2 then (h_law11_KeysScript_4 k m1 k ks_ r.1 r.2 (6 : Int) t19 t20 t21 model_)
 else (bif decide ((model_.length * 80) ≤ 211106232532992) then (bif (inb at_ model_.length) then (bif (inb at_ e5.length) then (h_law11_KeysScript_4 k m1 k ks_ r.1 r.2 (0 : Int) t19 t20 t21 (List.set e5 (Int.toNat at_) (e6.1, e6.2.1, true)))
 else none)
 else none)
 else none))
 else none)))
 else ((CF k ⟨[(false, (.slice KKnown)), (false, .err)], []⟩ n_keys_Put [inj (.slice KKnown) ks_, inj KRequest e2]).bind fun (r : (List (TKnown)) × (Option Int)) =>
 (bif decide ((0 : Int) ≤ at_) then (h_law11_KeysScript_4 k m1 k ks_ r.1 r.2 (5 : Int) t19 t20 t21 model_)
 else (bif decide (((model_.length + e4.length) * 80) ≤ 211106232532992) then (h_law11_KeysScript_4 k m1 k ks_ r.1 r.2 (0 : Int) t19 t20 t21 (model_ ++ e4))
 else none)))) := by
  subst h_e1 h_e2 h_e3 h_e4 h_e5 h_e6
  kernel_rfl
theorem h_law11_KeysScript_3_z (k m1 : Nat) (ks_ : List (TKnown)) (at_ : Int) (t19 : List (TAct)) (t20 : Int) (t21 : Int) (model_ : List (TKnown)) (a_ : Bool) (a_1 : Int) (a_2 : Int) (a_3 : Int) (a_4 : Int) (a_5 : Int) (a_6 : Int) (a_7 : Int) (a_8 : Int) (r_ : Int) (r_1 : Int) (r_2 : Int) (r_3 : Int) (r_4 : Int) (r_5 : Int) (r_6 : Int) : h_law11_KeysScript_3 k m1 0 ks_ at_ t19 t20 t21 model_ a_ a_1 a_2 a_3 a_4 a_5 a_6 a_7 a_8 r_ r_1 r_2 r_3 r_4 r_5 r_6 = none := by kernel_rfl
theorem h_law11_KeysScript_4_s (k m1 m : Nat) (ks_ : List (TKnown)) (next_ : List (TKnown)) (e_ : Option Int) (err_ : Int) (t19 : List (TAct)) (t20 : Int) (t21 : Int) (model_ : List (TKnown)) (e1 : Int) (h_e1 : e1 = (w64 (t21 + (1 : Int)))) : h_law11_KeysScript_4 k m1 (m + 1) ks_ next_ e_ err_ t19 t20 t21 model_ =
 ((CF k ⟨[(false, (.int .i64))], []⟩ n_api_Number [inj .err e_]).bind fun (r : Int) =>
 (bif (!decide (r = err_)) then some false
 else (bif (!decide (err_ = (0 : Int))) then (bif (!decide ((next_.length : Int) = (0 : Int))) then some false
 else (bif decide (err_ = (0 : Int)) then ((CF k ⟨[(false, .bool)], []⟩ n_law11_Same [inj (.slice KKnown) next_, inj (.slice KKnown) model_]).bind fun (r_1 : Bool) =>
 (bif (!r_1) then some false
 else (h_law11_KeysScript k m1 next_ t19 t20 e1 model_)))
 else ((CF k ⟨[(false, .bool)], []⟩ n_law11_Same [inj (.slice KKnown) ks_, inj (.slice KKnown) model_]).bind fun (r_1 : Bool) =>
 (bif (!r_1) then some false
 else (h_law11_KeysScript k m1 ks_ t19 t20 e1 model_)))))
 else (bif decide (err_ = (0 : Int)) then ((CF k ⟨[(false, .bool)], []⟩ n_law11_Same [inj (.slice KKnown) next_, inj (.slice KKnown) model_]).bind fun (r_1 : Bool) =>
 (bif (!r_1) then some false
 else (h_law11_KeysScript k m1 next_ t19 t20 e1 model_)))
 else ((CF k ⟨[(false, .bool)], []⟩ n_law11_Same [inj (.slice KKnown) ks_, inj (.slice KKnown) model_]).bind fun (r_1 : Bool) =>
 (bif (!r_1) then some false
 else (h_law11_KeysScript k m1 ks_ t19 t20 e1 model_))))))) := by
  subst h_e1
  kernel_rfl
theorem h_law11_KeysScript_4_z (k m1 : Nat) (ks_ : List (TKnown)) (next_ : List (TKnown)) (e_ : Option Int) (err_ : Int) (t19 : List (TAct)) (t20 : Int) (t21 : Int) (model_ : List (TKnown)) : h_law11_KeysScript_4 k m1 0 ks_ next_ e_ err_ t19 t20 t21 model_ = none := by kernel_rfl
/-- hawala/hawalalaw11.KeysFirst -/
theorem f_law11_KeysFirst (k : Nat) (ks_ : List (TKnown)) (r_ : TRequest) (x_ : TReply) (e1 : Int) (h_e1 : e1 = (ks_.length : Int)) : CF (k + 1) ⟨[(false, .bool)], []⟩ n_law11_KeysFirst [inj (.slice KKnown) ks_, inj KRequest r_, inj KReply x_] =
 (((CF k ⟨[(false, .bool)], []⟩ n_law11_awake []).bind fun (r : Bool) =>
 (bif (!r) then some false
 else ((CF k ⟨[(false, (.slice KKnown)), (false, .err)], []⟩ n_keys_Put [inj (.slice KKnown) ks_, inj KRequest r_]).bind fun (r_1 : (List (TKnown)) × (Option Int)) =>
 (bif r_1.2.isSome then some (decide ((r_1.1.length : Int) = (0 : Int)))
 else ((CF k ⟨[(false, (.slice KKnown)), (false, .err)], []⟩ n_keys_Tell [inj (.slice KKnown) r_1.1, inj (.int .i64) r_.1, inj KReply x_]).bind fun (r_2 : (List (TKnown)) × (Option Int)) =>
 (bif r_2.2.isSome then some false
 else ((CF k ⟨[(false, KReply), (false, .bool)], []⟩ n_keys_Ask [inj (.slice KKnown) r_2.1, inj KRequest r_]).bind fun (r_3 : TReply × Bool) =>
 ((CF k ⟨[(false, (.slice KKnown)), (false, .err)], []⟩ n_keys_Tell [inj (.slice KKnown) r_2.1, inj (.int .i64) r_.1, inj KReply ((0 : Int), (0 : Int))]).bind fun (r_4 : (List (TKnown)) × (Option Int)) =>
 ((CF k ⟨[(false, (.slice KKnown)), (false, .err)], []⟩ n_keys_Put [inj (.slice KKnown) r_2.1, inj KRequest r_]).bind fun (r_5 : (List (TKnown)) × (Option Int)) =>
 ((CF k ⟨[(false, KReply), (false, .bool)], []⟩ n_keys_Ask [inj (.slice KKnown) r_2.1, inj KRequest (r_.1, r_.2.1, r_.2.2.1, (w64 (r_.2.2.2.1 + (1 : Int))), r_.2.2.2.2)]).bind fun (r_6 : TReply × Bool) =>
 (bif r_3.2 then (bif (decide (r_3.1.1 = x_.1) && (decide (r_3.1.2 = x_.2) && true)) then ((CF k ⟨[(false, (.int .i64))], []⟩ n_api_Number [inj .err r_4.2]).bind fun (r_7 : Int) =>
 (bif decide (r_7 = (6 : Int)) then ((CF k ⟨[(false, (.int .i64))], []⟩ n_api_Number [inj .err r_5.2]).bind fun (r_8 : Int) =>
 (bif decide (r_8 = (5 : Int)) then (bif r_6.2 then (bif decide (r_6.1.1 = (5 : Int)) then (bif (decide ((0 : Int) ≤ e1) && decide (e1 ≤ (r_1.1.length : Int))) then ((CF k ⟨[(false, .bool)], []⟩ n_law11_Same [inj (.slice KKnown) (List.take (Int.toNat e1) r_1.1), inj (.slice KKnown) ks_]).bind fun (r_9 : Bool) =>
 some r_9)
 else none)
 else some false)
 else some false)
 else some false))
 else some false))
 else some false)
 else some false))))))))))) : Option (Bool)) := by
  subst h_e1
  kernel_rfl
/-- hawala/hawalalaw11.awake -/
theorem f_law11_awake (k : Nat) : CF (k + 1) ⟨[(false, .bool)], []⟩ n_law11_awake [] =
 (((CF k ⟨[(false, (.slice KKnown)), (false, .err)], []⟩ n_keys_Put [inj (.slice KKnown) [], inj KRequest ((3 : Int), (0 : Int), (0 : Int), (0 : Int), (0 : Int), (0 : Int), (0 : Int))]).bind fun (r : (List (TKnown)) × (Option Int)) =>
 ((CF k ⟨[(false, KReply), (false, .bool)], []⟩ n_keys_Ask [inj (.slice KKnown) r.1, inj KRequest ((3 : Int), (0 : Int), (0 : Int), (0 : Int), (0 : Int), (0 : Int), (0 : Int))]).bind fun (r_1 : TReply × Bool) =>
 ((CF k ⟨[(false, (.slice KKnown)), (false, .err)], []⟩ n_keys_Tell [inj (.slice KKnown) r.1, inj (.int .i64) (3 : Int), inj KReply ((0 : Int), (9 : Int))]).bind fun (r_2 : (List (TKnown)) × (Option Int)) =>
 ((CF k ⟨[(false, KReply), (false, .bool)], []⟩ n_keys_Ask [inj (.slice KKnown) r_2.1, inj KRequest ((3 : Int), (0 : Int), (0 : Int), (0 : Int), (0 : Int), (0 : Int), (0 : Int))]).bind fun (r_3 : TReply × Bool) =>
 (bif (!r.2.isSome) then (bif (!r_2.2.isSome) then (bif r_1.2 then (bif r_3.2 then (bif decide (r_1.1.1 = (10 : Int)) then some (decide (r_3.1.1 = (0 : Int)) && (decide (r_3.1.2 = (9 : Int)) && true))
 else some false)
 else some false)
 else some false)
 else some false)
 else some false))))) : Option (Bool)) := by kernel_rfl
/-- (hawala/hawalalaw10.Ask).Request -/
theorem f_law10_Ask_Request (k : Nat) (a_ : TAsk) (e1 : Int) (h_e1 : e1 = (w64 (Int.tmod a_.2.1 (8 : Int)))) (e2 : Int) (h_e2 : e2 = (w64 ((9 : Int) + (w64 (Int.tmod a_.2.2.1 (6 : Int)))))) (e3 : Int) (h_e3 : e3 = (w64 ((9 : Int) + (w64 (Int.tmod a_.2.2.2.1 (6 : Int)))))) (e4 : Int) (h_e4 : e4 = (w64 ((1 : Int) + (w64 (Int.tmod a_.2.2.2.2.1 (2000 : Int)))))) (e5 : (Int × (Int × (Int × (Int × (Int × (Int × Int))))))) (h_e5 : e5 = ((w64 a_.1), e1, (w64 (Int.tmod a_.2.2.1 (5 : Int))), e3, e4, (0 : Int), (0 : Int))) (e6 : (Int × (Int × (Int × (Int × (Int × (Int × Int))))))) (h_e6 : e6 = ((w64 a_.1), e1, e2, e3, e4, (0 : Int), (0 : Int))) : CF (k + 1) ⟨[(false, KRequest)], []⟩ n_law10_Ask_Request [inj KAsk a_] =
 ((bif decide (e1 = (0 : Int)) then some ((w64 a_.1), e1, (w64 (Int.tmod a_.2.2.1 (3 : Int))), e3, e4, (0 : Int), (0 : Int))
 else (bif decide (e1 = (2 : Int)) then some ((w64 a_.1), e1, e2, e3, e4, (w64 (Int.tmod a_.2.2.2.2.2.1 (5 : Int))), (0 : Int))
 else (bif decide (e1 = (3 : Int)) then some ((w64 a_.1), e1, e2, e3, e4, (0 : Int), (w64 (Int.tmod a_.2.2.2.2.2.2 (12 : Int))))
 else (bif decide (e1 = (4 : Int)) then (bif decide (e1 = (4 : Int)) then some e5
 else some e6)
 else (bif decide (e1 = (5 : Int)) then (bif decide (e1 = (5 : Int)) then some e5
 else some e6)
 else (bif decide (e1 = (6 : Int)) then (bif decide (e1 = (6 : Int)) then some e5
 else some e6)
 else (bif decide (e1 = (7 : Int)) then some e5
 else some e6))))))) : Option (TRequest)) := by
  subst h_e1 h_e2 h_e3 h_e4 h_e5 h_e6
  kernel_rfl
/-- hawala/keys.Ask -/
theorem f_keys_Ask (k : Nat) (ks_ : List (TKnown)) (r_ : TRequest) : CF (k + 1) ⟨[(false, KReply), (false, .bool)], []⟩ n_keys_Ask [inj (.slice KKnown) ks_, inj KRequest r_] =
 (((CF k ⟨[(false, (.int .i64))], []⟩ n_keys_Find [inj (.slice KKnown) ks_, inj (.int .i64) r_.1]).bind fun (r : Int) =>
 (bif decide (r < (0 : Int)) then some (((0 : Int), (0 : Int)), false)
 else (bif (inb r ks_.length) then (bif (!(decide ((List.getD ks_ (Int.toNat r) (((0 : Int), (0 : Int), (0 : Int), (0 : Int), (0 : Int), (0 : Int), (0 : Int)), ((0 : Int), (0 : Int)), false)).1.1 = r_.1) && (decide ((List.getD ks_ (Int.toNat r) (((0 : Int), (0 : Int), (0 : Int), (0 : Int), (0 : Int), (0 : Int), (0 : Int)), ((0 : Int), (0 : Int)), false)).1.2.1 = r_.2.1) && (decide ((List.getD ks_ (Int.toNat r) (((0 : Int), (0 : Int), (0 : Int), (0 : Int), (0 : Int), (0 : Int), (0 : Int)), ((0 : Int), (0 : Int)), false)).1.2.2.1 = r_.2.2.1) && (decide ((List.getD ks_ (Int.toNat r) (((0 : Int), (0 : Int), (0 : Int), (0 : Int), (0 : Int), (0 : Int), (0 : Int)), ((0 : Int), (0 : Int)), false)).1.2.2.2.1 = r_.2.2.2.1) && (decide ((List.getD ks_ (Int.toNat r) (((0 : Int), (0 : Int), (0 : Int), (0 : Int), (0 : Int), (0 : Int), (0 : Int)), ((0 : Int), (0 : Int)), false)).1.2.2.2.2.1 = r_.2.2.2.2.1) && (decide ((List.getD ks_ (Int.toNat r) (((0 : Int), (0 : Int), (0 : Int), (0 : Int), (0 : Int), (0 : Int), (0 : Int)), ((0 : Int), (0 : Int)), false)).1.2.2.2.2.2.1 = r_.2.2.2.2.2.1) && (decide ((List.getD ks_ (Int.toNat r) (((0 : Int), (0 : Int), (0 : Int), (0 : Int), (0 : Int), (0 : Int), (0 : Int)), ((0 : Int), (0 : Int)), false)).1.2.2.2.2.2.2 = r_.2.2.2.2.2.2) && true)))))))) then some (((5 : Int), (0 : Int)), true)
 else (bif (inb r ks_.length) then (bif (!(List.getD ks_ (Int.toNat r) (((0 : Int), (0 : Int), (0 : Int), (0 : Int), (0 : Int), (0 : Int), (0 : Int)), ((0 : Int), (0 : Int)), false)).2.2) then some (((10 : Int), (0 : Int)), true)
 else (bif (inb r ks_.length) then some ((List.getD ks_ (Int.toNat r) (((0 : Int), (0 : Int), (0 : Int), (0 : Int), (0 : Int), (0 : Int), (0 : Int)), ((0 : Int), (0 : Int)), false)).2.1, true)
 else none))
 else none))
 else none))) : Option (TReply × Bool)) := by kernel_rfl
/-- hawala/keys.Find -/
theorem f_keys_Find (k : Nat) (ks_ : List (TKnown)) (key_ : Int) : CF (k + 1) ⟨[(false, (.int .i64))], []⟩ n_keys_Find [inj (.slice KKnown) ks_, inj (.int .i64) key_] =
 ((h_keys_Find k k key_ ks_ (ks_.length : Int) (0 : Int)) : Option (Int)) := by kernel_rfl
theorem h_keys_Find_s (k m : Nat) (key_ : Int) (t7 : List (TKnown)) (t8 : Int) (t9 : Int) : h_keys_Find k (m + 1) key_ t7 t8 t9 =
 (bif decide (t9 < t8) then (bif (inb t9 t7.length) then (bif decide ((List.getD t7 (Int.toNat t9) (((0 : Int), (0 : Int), (0 : Int), (0 : Int), (0 : Int), (0 : Int), (0 : Int)), ((0 : Int), (0 : Int)), false)).1.1 = key_) then some t9
 else (h_keys_Find k m key_ t7 t8 (w64 (t9 + (1 : Int)))))
 else none)
 else some (-1 : Int)) := by kernel_rfl
theorem h_keys_Find_z (k  : Nat) (key_ : Int) (t7 : List (TKnown)) (t8 : Int) (t9 : Int) : h_keys_Find k 0 key_ t7 t8 t9 = none := by kernel_rfl
/-- hawala/keys.Tell -/
theorem f_keys_Tell (k : Nat) (ks_ : List (TKnown)) (key_ : Int) (r_ : TReply) : CF (k + 1) ⟨[(false, (.slice KKnown)), (false, .err)], []⟩ n_keys_Tell [inj (.slice KKnown) ks_, inj (.int .i64) key_, inj KReply r_] =
 (((CF k ⟨[(false, (.int .i64))], []⟩ n_keys_Find [inj (.slice KKnown) ks_, inj (.int .i64) key_]).bind fun (r : Int) =>
 (bif decide (r < (0 : Int)) then some ([], some (2 : Int))
 else (bif (inb r ks_.length) then (bif (List.getD ks_ (Int.toNat r) (((0 : Int), (0 : Int), (0 : Int), (0 : Int), (0 : Int), (0 : Int), (0 : Int)), ((0 : Int), (0 : Int)), false)).2.2 then some ([], some (6 : Int))
 else (bif decide ((ks_.length * 80) ≤ 211106232532992) then (bif (inb r ks_.length) then (bif (inb r (List.set ks_ (Int.toNat r) ((List.getD ks_ (Int.toNat r) (((0 : Int), (0 : Int), (0 : Int), (0 : Int), (0 : Int), (0 : Int), (0 : Int)), ((0 : Int), (0 : Int)), false)).1, r_, (List.getD ks_ (Int.toNat r) (((0 : Int), (0 : Int), (0 : Int), (0 : Int), (0 : Int), (0 : Int), (0 : Int)), ((0 : Int), (0 : Int)), false)).2.2)).length) then some ((List.set (List.set ks_ (Int.toNat r) ((List.getD ks_ (Int.toNat r) (((0 : Int), (0 : Int), (0 : Int), (0 : Int), (0 : Int), (0 : Int), (0 : Int)), ((0 : Int), (0 : Int)), false)).1, r_, (List.getD ks_ (Int.toNat r) (((0 : Int), (0 : Int), (0 : Int), (0 : Int), (0 : Int), (0 : Int), (0 : Int)), ((0 : Int), (0 : Int)), false)).2.2)) (Int.toNat r) ((List.getD (List.set ks_ (Int.toNat r) ((List.getD ks_ (Int.toNat r) (((0 : Int), (0 : Int), (0 : Int), (0 : Int), (0 : Int), (0 : Int), (0 : Int)), ((0 : Int), (0 : Int)), false)).1, r_, (List.getD ks_ (Int.toNat r) (((0 : Int), (0 : Int), (0 : Int), (0 : Int), (0 : Int), (0 : Int), (0 : Int)), ((0 : Int), (0 : Int)), false)).2.2)) (Int.toNat r) (((0 : Int), (0 : Int), (0 : Int), (0 : Int), (0 : Int), (0 : Int), (0 : Int)), ((0 : Int), (0 : Int)), false)).1, (List.getD (List.set ks_ (Int.toNat r) ((List.getD ks_ (Int.toNat r) (((0 : Int), (0 : Int), (0 : Int), (0 : Int), (0 : Int), (0 : Int), (0 : Int)), ((0 : Int), (0 : Int)), false)).1, r_, (List.getD ks_ (Int.toNat r) (((0 : Int), (0 : Int), (0 : Int), (0 : Int), (0 : Int), (0 : Int), (0 : Int)), ((0 : Int), (0 : Int)), false)).2.2)) (Int.toNat r) (((0 : Int), (0 : Int), (0 : Int), (0 : Int), (0 : Int), (0 : Int), (0 : Int)), ((0 : Int), (0 : Int)), false)).2.1, true)), none)
 else none)
 else none)
 else none))
 else none))) : Option ((List (TKnown)) × (Option Int))) := by kernel_rfl
/-- hawala/keys.Put -/
theorem f_keys_Put (k : Nat) (ks_ : List (TKnown)) (r_ : TRequest) (e1 : (List ((Int × (Int × (Int × (Int × (Int × (Int × Int)))))) × ((Int × Int) × Bool)))) (h_e1 : e1 = [(r_, ((0 : Int), (0 : Int)), false)]) : CF (k + 1) ⟨[(false, (.slice KKnown)), (false, .err)], []⟩ n_keys_Put [inj (.slice KKnown) ks_, inj KRequest r_] =
 (((CF k ⟨[(false, (.int .i64))], []⟩ n_keys_Find [inj (.slice KKnown) ks_, inj (.int .i64) r_.1]).bind fun (r : Int) =>
 (bif decide ((0 : Int) ≤ r) then some ([], some (5 : Int))
 else (bif decide ((256 : Int) ≤ (ks_.length : Int)) then some ([], some (7 : Int))
 else (bif decide ((ks_.length * 80) ≤ 211106232532992) then (bif decide (((ks_.length + e1.length) * 80) ≤ 211106232532992) then some ((ks_ ++ e1), none)
 else none)
 else none)))) : Option ((List (TKnown)) × (Option Int))) := by
  subst h_e1
  kernel_rfl
/-- hawala/api.Number -/
theorem f_api_Number (k : Nat) (e_ : Option Int) : CF (k + 1) ⟨[(false, (.int .i64))], []⟩ n_api_Number [inj .err e_] =
 (some (e_.getD (0 : Int)) : Option (Int)) := by kernel_rfl
/-- hawala/hawalalaw11.Same -/
theorem f_law11_Same (k : Nat) (a_ : List (TKnown)) (b_ : List (TKnown)) (e1 : Int) (h_e1 : e1 = (a_.length : Int)) : CF (k + 1) ⟨[(false, .bool)], []⟩ n_law11_Same [inj (.slice KKnown) a_, inj (.slice KKnown) b_] =
 ((bif (!decide (e1 = (b_.length : Int))) then some false
 else (h_law11_Same k k a_ b_ e1 (0 : Int))) : Option (Bool)) := by
  subst h_e1
  kernel_rfl
theorem h_law11_Same_s (k m : Nat) (a_ : List (TKnown)) (b_ : List (TKnown)) (t12 : Int) (t13 : Int) (e1 : ((Int × (Int × (Int × (Int × (Int × (Int × Int)))))) × ((Int × Int) × Bool))) (h_e1 : e1 = (List.getD b_ (Int.toNat t13) (((0 : Int), (0 : Int), (0 : Int), (0 : Int), (0 : Int), (0 : Int), (0 : Int)), ((0 : Int), (0 : Int)), false))) (e2 : ((Int × (Int × (Int × (Int × (Int × (Int × Int)))))) × ((Int × Int) × Bool))) (h_e2 : e2 = (List.getD a_ (Int.toNat t13) (((0 : Int), (0 : Int), (0 : Int), (0 : Int), (0 : Int), (0 : Int), (0 : Int)), ((0 : Int), (0 : Int)), false))) : h_law11_Same k (m + 1) a_ b_ t12 t13 =
 (bif decide (t13 < t12) then (bif (inb t13 a_.length) then (bif (inb t13 b_.length) then (bif (!(decide (e2.1.1 = e1.1.1) && (decide (e2.1.2.1 = e1.1.2.1) && (decide (e2.1.2.2.1 = e1.1.2.2.1) && (decide (e2.1.2.2.2.1 = e1.1.2.2.2.1) && (decide (e2.1.2.2.2.2.1 = e1.1.2.2.2.2.1) && (decide (e2.1.2.2.2.2.2.1 = e1.1.2.2.2.2.2.1) && (decide (e2.1.2.2.2.2.2.2 = e1.1.2.2.2.2.2.2) && (decide (e2.2.1.1 = e1.2.1.1) && (decide (e2.2.1.2 = e1.2.1.2) && ((e2.2.2 == e1.2.2) && true))))))))))) then some false
 else (h_law11_Same k m a_ b_ t12 (w64 (t13 + (1 : Int)))))
 else none)
 else none)
 else some true) := by
  subst h_e1 h_e2
  kernel_rfl
theorem h_law11_Same_z (k  : Nat) (a_ : List (TKnown)) (b_ : List (TKnown)) (t12 : Int) (t13 : Int) : h_law11_Same k 0 a_ b_ t12 t13 = none := by kernel_rfl
end Go.Eng.Key
