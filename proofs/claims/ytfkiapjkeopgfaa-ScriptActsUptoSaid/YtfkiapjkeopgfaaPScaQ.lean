/- What the functions of this chapter come to (printed by eq.py out of the program, by the engine; each equation is checked by Lean's kernel). No conditions. -/
import Derived.Test.YtfkiapjkeopgfaaE30
import Derived.Test.YtfkiapjkeopgfaaProg
set_option linter.all false
set_option linter.unusedVariables false
set_option linter.unusedSimpArgs false
set_option linter.deprecated false
namespace Go.Eng.Sca
open Go.Proofs Go.Eng
def aOwn : Nat → List Bool := fun _ => []
def aMv : Nat → List Bool := fun _ => []
def aProm : Nat → List Nat := fun f => match f with
  | 9 => [3]
  | _ => []
def aNils : Nat → List Nat := fun f => match f with
  | 9 => [2]
  | _ => []
def aKeep : Nat → Nat → List Nat := fun f b => match f, b with
  | 3, 0 => [0, 16, 17, 18]
  | 4, 0 => [5, 6, 7, 36, 37]
  | 6, 0 => [5, 6, 33, 34]
  | 7, 0 => [3, 10, 11, 12]
  | 9, 0 => [0, 3]
  | _, _ => []
def aCut : Nat → Nat → Option (List Nat) := fun f b => match f, b with
  | 5, 9 => some [0, 1, 5, 6]
  | 10, 13 => some [1, 4, 5]
  | 10, 16 => some [4, 5, 7]
  | 10, 18 => some [4, 5, 7]
  | 10, 20 => some [4, 5, 7]
  | 11, 3 => some [1]
  | 11, 5 => some [1]
  | _, _ => none
def A : Ann := ⟨0, aOwn, aMv, aProm, aKeep, aNils, aCut⟩
abbrev X : Outer := (fun _ _ _ => none)
noncomputable abbrev CF : Nat → CallF := callF Try.prog A X
set_option maxRecDepth 1000000
set_option maxHeartbeats 0
abbrev KboundsError : K := (.strct (.prod (.int .i64) (.prod (.int .i64) (.prod .bool (.int .u8)))))
abbrev TboundsError : Type := (Int) × (Int) × (Bool) × Int
abbrev KerrorAddressString : K := (.strct (.prod .str (.int .u64)))
abbrev TerrorAddressString : Type := (List Int) × Int
abbrev KRequest : K := (.strct (.prod (.int .i64) (.prod (.int .i64) (.prod (.int .i64) (.prod (.int .i64) (.prod (.int .i64) (.prod (.int .i64) (.int .i64))))))))
abbrev TRequest : Type := (Int) × (Int) × (Int) × (Int) × (Int) × (Int) × Int
abbrev KAct : K := (.strct (.prod (.int .i64) (.prod (.strct (.prod (.int .i64) (.prod (.int .i64) (.prod (.int .i64) (.prod (.int .i64) (.prod (.int .i64) (.prod (.int .i64) (.int .i64)))))))) (.prod (.int .i64) .bool))))
abbrev TAct : Type := (Int) × (TRequest) × (Int) × Bool
abbrev n_law23_ScriptActs : Nat := 3
abbrev n_law23_awake : Nat := 8
abbrev n_script_Acts : Nat := 9
abbrev n_law23_act : Nat := 10
abbrev n_script_one : Nat := 12
abbrev n_law23_act_1 : Nat := 13
/-- hawala/hawalalaw23.ScriptActs -/
noncomputable def h_law23_ScriptActs (k m : Nat) (b_ : List (Int)) (t16 : List (TAct)) (t17 : Int) (t18 : Int) : Option (Bool) := headB Try.prog A (CF k) k ⟨[(false, .bool)], []⟩ 3 [] [.r, .r, .r, .r, .l, .r, .l] m ⟨[(0, .val false [.sl (.int .u8) b_]), (16, .val false [.sl KAct t16]), (17, .val false [.int .i64 t17]), (18, .val false [.int .i64 t18])], []⟩
/-- hawala/script.Acts -/
noncomputable def h_script_Acts (k m : Nat) (b_ : List (Int)) (out_ : List (TAct)) : Option ((List (TAct))) := headB Try.prog A (CF k) k ⟨[(false, (.slice KAct))], []⟩ 9 [] [.r, .r, .l, .l] m ⟨[(0, .val false [.sl (.int .u8) b_]), (3, .val false [.vw 3 0])], [(3, .row KAct out_ 0 [] false)]⟩
/-- hawala/hawalalaw23.act -/
noncomputable def h_law23_act (k m : Nat) (n_ : Int) (x_ : List (Int)) (t4 : Int) (t41 : Int) (t42 : Int) (t43 : Int) (t44 : Int) (t45 : Int) (t46 : Int) (t47 : Int) (t48 : Int) (t49 : Bool) : Option (TAct) := headB Try.prog A (CF k) k ⟨[(false, KAct)], []⟩ 10 [] [.r, .r, .r, .l] m ⟨[(1, .val false [.int .i64 n_]), (4, .val false [.ptr 4 0 0 []]), (5, .val false [.clo 13 (.slice (.int .u8)) x_])], [(4, .box [.int .i64 t4, .int .i64 t41, .int .i64 t42, .int .i64 t43, .int .i64 t44, .int .i64 t45, .int .i64 t46, .int .i64 t47, .int .i64 t48, .bool t49])]⟩
/-- hawala/hawalalaw23.act -/
noncomputable def h_law23_act_1 (k m : Nat) (x_ : List (Int)) (t4 : Int) (t41 : Int) (t42 : Int) (t43 : Int) (t44 : Int) (t45 : Int) (t46 : Int) (t47 : Int) (t48 : Int) (t49 : Bool) (r_ : Int) (r_1 : Int) (r_2 : Int) (r_3 : Int) (r_4 : Int) (r_5 : Int) (r_6 : Int) : Option (TAct) := headB Try.prog A (CF k) k ⟨[(false, KAct)], []⟩ 10 [] [.r, .r, .r, .r, .r, .l, .l] m ⟨[(4, .val false [.ptr 4 0 0 []]), (5, .val false [.clo 13 (.slice (.int .u8)) x_]), (7, .val false [.ptr 7 0 0 []])], [(4, .box [.int .i64 t4, .int .i64 t41, .int .i64 t42, .int .i64 t43, .int .i64 t44, .int .i64 t45, .int .i64 t46, .int .i64 t47, .int .i64 t48, .bool t49]), (7, .box [.int .i64 r_, .int .i64 r_1, .int .i64 r_2, .int .i64 r_3, .int .i64 r_4, .int .i64 r_5, .int .i64 r_6])]⟩
/-- hawala/hawalalaw23.act -/
noncomputable def h_law23_act_2 (k m : Nat) (x_ : List (Int)) (t4 : Int) (t41 : Int) (t42 : Int) (t43 : Int) (t44 : Int) (t45 : Int) (t46 : Int) (t47 : Int) (t48 : Int) (t49 : Bool) (r_ : Int) (r_1 : Int) (r_2 : Int) (r_3 : Int) (r_4 : Int) (r_5 : Int) (r_6 : Int) : Option (TAct) := headB Try.prog A (CF k) k ⟨[(false, KAct)], []⟩ 10 [] [.r, .r, .r, .r, .r, .r, .l, .l] m ⟨[(4, .val false [.ptr 4 0 0 []]), (5, .val false [.clo 13 (.slice (.int .u8)) x_]), (7, .val false [.ptr 7 0 0 []])], [(4, .box [.int .i64 t4, .int .i64 t41, .int .i64 t42, .int .i64 t43, .int .i64 t44, .int .i64 t45, .int .i64 t46, .int .i64 t47, .int .i64 t48, .bool t49]), (7, .box [.int .i64 r_, .int .i64 r_1, .int .i64 r_2, .int .i64 r_3, .int .i64 r_4, .int .i64 r_5, .int .i64 r_6])]⟩
/-- hawala/hawalalaw23.act -/
noncomputable def h_law23_act_3 (k m : Nat) (x_ : List (Int)) (t4 : Int) (t41 : Int) (t42 : Int) (t43 : Int) (t44 : Int) (t45 : Int) (t46 : Int) (t47 : Int) (t48 : Int) (t49 : Bool) (r_ : Int) (r_1 : Int) (r_2 : Int) (r_3 : Int) (r_4 : Int) (r_5 : Int) (r_6 : Int) : Option (TAct) := headB Try.prog A (CF k) k ⟨[(false, KAct)], []⟩ 10 [] [.r, .r, .r, .r, .r, .r, .r, .l, .l] m ⟨[(4, .val false [.ptr 4 0 0 []]), (5, .val false [.clo 13 (.slice (.int .u8)) x_]), (7, .val false [.ptr 7 0 0 []])], [(4, .box [.int .i64 t4, .int .i64 t41, .int .i64 t42, .int .i64 t43, .int .i64 t44, .int .i64 t45, .int .i64 t46, .int .i64 t47, .int .i64 t48, .bool t49]), (7, .box [.int .i64 r_, .int .i64 r_1, .int .i64 r_2, .int .i64 r_3, .int .i64 r_4, .int .i64 r_5, .int .i64 r_6])]⟩
/-- hawala/hawalalaw23.ScriptActs -/
theorem f_law23_ScriptActs (k : Nat) (b_ : List (Int)) : CF (k + 1) ⟨[(false, .bool)], []⟩ n_law23_ScriptActs [inj (.slice (.int .u8)) b_] =
 (((CF k ⟨[(false, .bool)], []⟩ n_law23_awake []).bind fun (r : Bool) =>
 (bif (!r) then some false
 else ((CF k ⟨[(false, (.slice KAct))], []⟩ n_script_Acts [inj (.slice (.int .u8)) b_]).bind fun (r_1 : (List (TAct))) =>
 (bif (!decide ((r_1.length : Int) = (w64 (Int.tdiv (b_.length : Int) (6 : Int))))) then some false
 else (h_law23_ScriptActs k k b_ r_1 (r_1.length : Int) (0 : Int)))))) : Option (Bool)) := by kernel_rfl
theorem h_law23_ScriptActs_s (k m : Nat) (b_ : List (Int)) (t16 : List (TAct)) (t17 : Int) (t18 : Int) (e1 : Int) (h_e1 : e1 = (w64 ((6 : Int) * t18))) (e2 : Int) (h_e2 : e2 = (w64 (e1 + (6 : Int)))) (e3 : (Int × ((Int × (Int × (Int × (Int × (Int × (Int × Int)))))) × (Int × Bool)))) (h_e3 : e3 = (List.getD t16 (Int.toNat t18) ((0 : Int), ((0 : Int), (0 : Int), (0 : Int), (0 : Int), (0 : Int), (0 : Int), (0 : Int)), (0 : Int), false))) (e4 : (Int × Int)) (h_e4 : e4 = e3.2.1.2.2.2.2.2) : h_law23_ScriptActs k (m + 1) b_ t16 t17 t18 =
 (bif decide (t18 < t17) then (bif (inb t18 t16.length) then (bif ((decide ((0 : Int) ≤ e1) && decide (e1 ≤ e2)) && decide (e2 ≤ (b_.length : Int))) then ((CF k ⟨[(false, KAct)], []⟩ n_law23_act [inj (.slice (.int .u8)) (List.take ((Int.toNat e2) - (Int.toNat e1)) (List.drop (Int.toNat e1) b_)), inj (.int .i64) t18]).bind fun (r : TAct) =>
 (bif (!(decide (e3.1 = r.1) && (decide (e3.2.1.1 = r.2.1.1) && (decide (e3.2.1.2.1 = r.2.1.2.1) && (decide (e3.2.1.2.2.1 = r.2.1.2.2.1) && (decide (e3.2.1.2.2.2.1 = r.2.1.2.2.2.1) && (decide (e3.2.1.2.2.2.2.1 = r.2.1.2.2.2.2.1) && (decide (e4.1 = r.2.1.2.2.2.2.2.1) && (decide (e4.2 = r.2.1.2.2.2.2.2.2) && (decide (e3.2.2.1 = r.2.2.1) && ((e3.2.2.2 == r.2.2.2) && true))))))))))) then some false
 else (h_law23_ScriptActs k m b_ t16 t17 (w64 (t18 + (1 : Int))))))
 else none)
 else none)
 else some true) := by
  subst h_e1 h_e2 h_e3 h_e4
  kernel_rfl
theorem h_law23_ScriptActs_z (k  : Nat) (b_ : List (Int)) (t16 : List (TAct)) (t17 : Int) (t18 : Int) : h_law23_ScriptActs k 0 b_ t16 t17 t18 = none := by kernel_rfl
/-- hawala/hawalalaw23.awake -/
theorem f_law23_awake (k : Nat) : CF (k + 1) ⟨[(false, .bool)], []⟩ n_law23_awake [] =
 (((CF k ⟨[(false, (.slice KAct))], []⟩ n_script_Acts [inj (.slice (.int .u8)) [(6 : Int), (0 : Int), (2 : Int), (0 : Int), (0 : Int), (0 : Int), (4 : Int), (0 : Int)]]).bind fun (r : (List (TAct))) =>
 (bif decide ((r.length : Int) = (1 : Int)) then (bif (inb (0 : Int) r.length) then (bif decide ((List.getD r 0 ((0 : Int), ((0 : Int), (0 : Int), (0 : Int), (0 : Int), (0 : Int), (0 : Int), (0 : Int)), (0 : Int), false)).1 = (0 : Int)) then (bif (inb (0 : Int) r.length) then (bif decide ((List.getD r 0 ((0 : Int), ((0 : Int), (0 : Int), (0 : Int), (0 : Int), (0 : Int), (0 : Int), (0 : Int)), (0 : Int), false)).2.1.2.2.1 = (2 : Int)) then (bif (inb (0 : Int) r.length) then some (decide ((List.getD r 0 ((0 : Int), ((0 : Int), (0 : Int), (0 : Int), (0 : Int), (0 : Int), (0 : Int), (0 : Int)), (0 : Int), false)).2.1.2.1 = (0 : Int)))
 else none)
 else some false)
 else none)
 else some false)
 else none)
 else some false)) : Option (Bool)) := by kernel_rfl
/-- hawala/script.Acts -/
theorem f_script_Acts (k : Nat) (b_ : List (Int)) : CF (k + 1) ⟨[(false, (.slice KAct))], []⟩ n_script_Acts [inj (.slice (.int .u8)) b_] =
 ((h_script_Acts k k b_ []) : Option ((List (TAct)))) := by kernel_rfl
theorem h_script_Acts_s (k m : Nat) (b_ : List (Int)) (out_ : List (TAct)) (e1 : Int) (h_e1 : e1 = (b_.length : Int)) : h_script_Acts k (m + 1) b_ out_ =
 (bif decide ((6 : Int) ≤ e1) then (bif decide ((6 : Int) ≤ e1) then ((CF k ⟨[(false, KAct)], []⟩ n_script_one [inj (.slice (.int .u8)) (List.take 6 b_), inj (.int .i64) (out_.length : Int)]).bind fun (r : TAct) =>
 (bif decide (((out_.length + [r].length) * 80) ≤ 211106232532992) then (bif decide ((6 : Int) ≤ e1) then (h_script_Acts k m (List.drop 6 b_) (out_ ++ [r]))
 else none)
 else none))
 else none)
 else some out_) := by
  subst h_e1
  kernel_rfl
theorem h_script_Acts_z (k  : Nat) (b_ : List (Int)) (out_ : List (TAct)) : h_script_Acts k 0 b_ out_ = none := by kernel_rfl
/-- hawala/hawalalaw23.act -/
theorem f_law23_act (k : Nat) (b_ : List (Int)) (n_ : Int) : CF (k + 1) ⟨[(false, KAct)], []⟩ n_law23_act [inj (.slice (.int .u8)) b_, inj (.int .i64) n_] =
 (((CF k ⟨[(false, (.int .i64))], []⟩ n_law23_act_1 [inj (.int .i64) (0 : Int), .val false [.ipt (.slice (.int .u8)) b_ []]]).bind fun (r : Int) =>
 (bif decide ((Int.tmod r (12 : Int)) = (0 : Int)) then ((CF k ⟨[(false, (.int .i64))], []⟩ n_law23_act_1 [inj (.int .i64) (1 : Int), .val false [.ipt (.slice (.int .u8)) b_ []]]).bind fun (r_1 : Int) =>
 some ((1 : Int), ((0 : Int), (0 : Int), (0 : Int), (0 : Int), (0 : Int), (0 : Int), (0 : Int)), r_1, false))
 else (bif decide ((Int.tmod r (12 : Int)) < (4 : Int)) then ((CF k ⟨[(false, (.int .i64))], []⟩ n_law23_act_1 [inj (.int .i64) (1 : Int), .val false [.ipt (.slice (.int .u8)) b_ []]]).bind fun (r_1 : Int) =>
 ((CF k ⟨[(false, (.int .i64))], []⟩ n_law23_act_1 [inj (.int .i64) (2 : Int), .val false [.ipt (.slice (.int .u8)) b_ []]]).bind fun (r_2 : Int) =>
 some ((2 : Int), ((0 : Int), (0 : Int), (0 : Int), (0 : Int), (0 : Int), (0 : Int), (0 : Int)), r_1, (!decide ((Int.tmod r_2 (4 : Int)) = (0 : Int))))))
 else (bif decide ((Int.tmod r (12 : Int)) = (4 : Int)) then some ((3 : Int), ((0 : Int), (0 : Int), (0 : Int), (0 : Int), (0 : Int), (0 : Int), (0 : Int)), (0 : Int), false)
 else (bif decide ((Int.tmod r (12 : Int)) = (5 : Int)) then ((CF k ⟨[(false, (.int .i64))], []⟩ n_law23_act_1 [inj (.int .i64) (1 : Int), .val false [.ipt (.slice (.int .u8)) b_ []]]).bind fun (r_1 : Int) =>
 (bif (!decide ((Int.tmod r_1 (4 : Int)) = (0 : Int))) then some ((4 : Int), ((0 : Int), (0 : Int), (0 : Int), (0 : Int), (0 : Int), (0 : Int), (0 : Int)), (0 : Int), false)
 else (bif decide ((Int.tmod r (12 : Int)) = (5 : Int)) then ((CF k ⟨[(false, (.int .i64))], []⟩ n_law23_act_1 [inj (.int .i64) (2 : Int), .val false [.ipt (.slice (.int .u8)) b_ []]]).bind fun (r_2 : Int) =>
 some ((5 : Int), ((0 : Int), (0 : Int), (0 : Int), (0 : Int), (0 : Int), (0 : Int), (0 : Int)), (Int.tmod r_2 (4 : Int)), false))
 else (h_law23_act k k n_ b_ (0 : Int) (0 : Int) (0 : Int) (0 : Int) (0 : Int) (0 : Int) (0 : Int) (0 : Int) (0 : Int) false))))
 else (bif decide ((Int.tmod r (12 : Int)) = (5 : Int)) then ((CF k ⟨[(false, (.int .i64))], []⟩ n_law23_act_1 [inj (.int .i64) (2 : Int), .val false [.ipt (.slice (.int .u8)) b_ []]]).bind fun (r_1 : Int) =>
 some ((5 : Int), ((0 : Int), (0 : Int), (0 : Int), (0 : Int), (0 : Int), (0 : Int), (0 : Int)), (Int.tmod r_1 (4 : Int)), false))
 else (h_law23_act k k n_ b_ (0 : Int) (0 : Int) (0 : Int) (0 : Int) (0 : Int) (0 : Int) (0 : Int) (0 : Int) (0 : Int) false))))))) : Option (TAct)) := by kernel_rfl
theorem h_law23_act_s (k m : Nat) (n_ : Int) (x_ : List (Int)) (t4 : Int) (t41 : Int) (t42 : Int) (t43 : Int) (t44 : Int) (t45 : Int) (t46 : Int) (t47 : Int) (t48 : Int) (t49 : Bool) : h_law23_act k (m + 1) n_ x_ t4 t41 t42 t43 t44 t45 t46 t47 t48 t49 =
 ((CF k ⟨[(false, (.int .i64))], []⟩ n_law23_act_1 [inj (.int .i64) (1 : Int), .val false [.ipt (.slice (.int .u8)) x_ []]]).bind fun (r : Int) =>
 ((CF k ⟨[(false, (.int .i64))], []⟩ n_law23_act_1 [inj (.int .i64) (2 : Int), .val false [.ipt (.slice (.int .u8)) x_ []]]).bind fun (r_1 : Int) =>
 ((CF k ⟨[(false, (.int .i64))], []⟩ n_law23_act_1 [inj (.int .i64) (3 : Int), .val false [.ipt (.slice (.int .u8)) x_ []]]).bind fun (r_2 : Int) =>
 ((CF k ⟨[(false, (.int .i64))], []⟩ n_law23_act_1 [inj (.int .i64) (4 : Int), .val false [.ipt (.slice (.int .u8)) x_ []]]).bind fun (r_3 : Int) =>
 (bif decide ((Int.tmod r (8 : Int)) = (0 : Int)) then ((CF k ⟨[(false, (.int .i64))], []⟩ n_law23_act_1 [inj (.int .i64) (2 : Int), .val false [.ipt (.slice (.int .u8)) x_ []]]).bind fun (r_4 : Int) =>
 (h_law23_act_1 k k x_ t4 t41 t42 t43 t44 t45 t46 t47 t48 t49 n_ (Int.tmod r (8 : Int)) (Int.tmod r_4 (3 : Int)) (w64 ((9 : Int) + (Int.tmod r_2 (6 : Int)))) (w64 ((1 : Int) + (w64 ((7 : Int) * r_3)))) (0 : Int) (0 : Int)))
 else (h_law23_act_1 k k x_ t4 t41 t42 t43 t44 t45 t46 t47 t48 t49 n_ (Int.tmod r (8 : Int)) (w64 ((9 : Int) + (Int.tmod r_1 (6 : Int)))) (w64 ((9 : Int) + (Int.tmod r_2 (6 : Int)))) (w64 ((1 : Int) + (w64 ((7 : Int) * r_3)))) (0 : Int) (0 : Int))))))) := by kernel_rfl
theorem h_law23_act_z (k  : Nat) (n_ : Int) (x_ : List (Int)) (t4 : Int) (t41 : Int) (t42 : Int) (t43 : Int) (t44 : Int) (t45 : Int) (t46 : Int) (t47 : Int) (t48 : Int) (t49 : Bool) : h_law23_act k 0 n_ x_ t4 t41 t42 t43 t44 t45 t46 t47 t48 t49 = none := by kernel_rfl
theorem h_law23_act_1_s (k m : Nat) (x_ : List (Int)) (t4 : Int) (t41 : Int) (t42 : Int) (t43 : Int) (t44 : Int) (t45 : Int) (t46 : Int) (t47 : Int) (t48 : Int) (t49 : Bool) (r_ : Int) (r_1 : Int) (r_2 : Int) (r_3 : Int) (r_4 : Int) (r_5 : Int) (r_6 : Int) : h_law23_act_1 k (m + 1) x_ t4 t41 t42 t43 t44 t45 t46 t47 t48 t49 r_ r_1 r_2 r_3 r_4 r_5 r_6 =
 (bif decide ((4 : Int) ≤ r_1) then ((CF k ⟨[(false, (.int .i64))], []⟩ n_law23_act_1 [inj (.int .i64) (2 : Int), .val false [.ipt (.slice (.int .u8)) x_ []]]).bind fun (r : Int) =>
 (h_law23_act_2 k k x_ t4 t41 t42 t43 t44 t45 t46 t47 t48 t49 r_ r_1 (Int.tmod r (4 : Int)) r_3 r_4 r_5 r_6))
 else (h_law23_act_2 k k x_ t4 t41 t42 t43 t44 t45 t46 t47 t48 t49 r_ r_1 r_2 r_3 r_4 r_5 r_6)) := by kernel_rfl
theorem h_law23_act_1_z (k  : Nat) (x_ : List (Int)) (t4 : Int) (t41 : Int) (t42 : Int) (t43 : Int) (t44 : Int) (t45 : Int) (t46 : Int) (t47 : Int) (t48 : Int) (t49 : Bool) (r_ : Int) (r_1 : Int) (r_2 : Int) (r_3 : Int) (r_4 : Int) (r_5 : Int) (r_6 : Int) : h_law23_act_1 k 0 x_ t4 t41 t42 t43 t44 t45 t46 t47 t48 t49 r_ r_1 r_2 r_3 r_4 r_5 r_6 = none := by kernel_rfl
theorem h_law23_act_2_s (k m : Nat) (x_ : List (Int)) (t4 : Int) (t41 : Int) (t42 : Int) (t43 : Int) (t44 : Int) (t45 : Int) (t46 : Int) (t47 : Int) (t48 : Int) (t49 : Bool) (r_ : Int) (r_1 : Int) (r_2 : Int) (r_3 : Int) (r_4 : Int) (r_5 : Int) (r_6 : Int) : h_law23_act_2 k (m + 1) x_ t4 t41 t42 t43 t44 t45 t46 t47 t48 t49 r_ r_1 r_2 r_3 r_4 r_5 r_6 =
 (bif decide (r_1 = (2 : Int)) then ((CF k ⟨[(false, (.int .i64))], []⟩ n_law23_act_1 [inj (.int .i64) (5 : Int), .val false [.ipt (.slice (.int .u8)) x_ []]]).bind fun (r : Int) =>
 (h_law23_act_3 k k x_ t4 t41 t42 t43 t44 t45 t46 t47 t48 t49 r_ r_1 r_2 r_3 r_4 (Int.tmod r (4 : Int)) r_6))
 else (h_law23_act_3 k k x_ t4 t41 t42 t43 t44 t45 t46 t47 t48 t49 r_ r_1 r_2 r_3 r_4 r_5 r_6)) := by kernel_rfl
theorem h_law23_act_2_z (k  : Nat) (x_ : List (Int)) (t4 : Int) (t41 : Int) (t42 : Int) (t43 : Int) (t44 : Int) (t45 : Int) (t46 : Int) (t47 : Int) (t48 : Int) (t49 : Bool) (r_ : Int) (r_1 : Int) (r_2 : Int) (r_3 : Int) (r_4 : Int) (r_5 : Int) (r_6 : Int) : h_law23_act_2 k 0 x_ t4 t41 t42 t43 t44 t45 t46 t47 t48 t49 r_ r_1 r_2 r_3 r_4 r_5 r_6 = none := by kernel_rfl
theorem h_law23_act_3_s (k m : Nat) (x_ : List (Int)) (t4 : Int) (t41 : Int) (t42 : Int) (t43 : Int) (t44 : Int) (t45 : Int) (t46 : Int) (t47 : Int) (t48 : Int) (t49 : Bool) (r_ : Int) (r_1 : Int) (r_2 : Int) (r_3 : Int) (r_4 : Int) (r_5 : Int) (r_6 : Int) : h_law23_act_3 k (m + 1) x_ t4 t41 t42 t43 t44 t45 t46 t47 t48 t49 r_ r_1 r_2 r_3 r_4 r_5 r_6 =
 (bif decide (r_1 = (3 : Int)) then ((CF k ⟨[(false, (.int .i64))], []⟩ n_law23_act_1 [inj (.int .i64) (5 : Int), .val false [.ipt (.slice (.int .u8)) x_ []]]).bind fun (r : Int) =>
 some ((0 : Int), (r_, r_1, r_2, r_3, r_4, r_5, (w64 ((1 : Int) + (Int.tmod r (8 : Int))))), (0 : Int), false))
 else some ((0 : Int), (r_, r_1, r_2, r_3, r_4, r_5, r_6), (0 : Int), false)) := by kernel_rfl
theorem h_law23_act_3_z (k  : Nat) (x_ : List (Int)) (t4 : Int) (t41 : Int) (t42 : Int) (t43 : Int) (t44 : Int) (t45 : Int) (t46 : Int) (t47 : Int) (t48 : Int) (t49 : Bool) (r_ : Int) (r_1 : Int) (r_2 : Int) (r_3 : Int) (r_4 : Int) (r_5 : Int) (r_6 : Int) : h_law23_act_3 k 0 x_ t4 t41 t42 t43 t44 t45 t46 t47 t48 t49 r_ r_1 r_2 r_3 r_4 r_5 r_6 = none := by kernel_rfl
/-- hawala/script.one -/
theorem f_script_one (k : Nat) (b_ : List (Int)) (n_ : Int) (e1 : Int) (h_e1 : e1 = (List.getD b_ 2 (0 : Int))) (e2 : Int) (h_e2 : e2 = (List.getD b_ 1 (0 : Int))) (e3 : Int) (h_e3 : e3 = (List.getD b_ 5 (0 : Int))) (e4 : Int) (h_e4 : e4 = (Int.tmod (List.getD b_ 0 (0 : Int)) (12 : Int))) (e5 : Int) (h_e5 : e5 = (Int.tmod e2 (4 : Int))) (e6 : Int) (h_e6 : e6 = (Int.tmod e1 (4 : Int))) (e7 : Int) (h_e7 : e7 = (w64 (Int.tmod e2 (8 : Int)))) (e8 : Int) (h_e8 : e8 = (w64 ((9 : Int) + (w64 (Int.tmod e1 (6 : Int)))))) (e9 : Int) (h_e9 : e9 = (w64 ((9 : Int) + (w64 (Int.tmod (List.getD b_ 3 (0 : Int)) (6 : Int)))))) (e10 : Int) (h_e10 : e10 = (w64 ((1 : Int) + (w64 ((w64 (List.getD b_ 4 (0 : Int))) * (7 : Int)))))) (e11 : (Int × ((Int × (Int × (Int × (Int × (Int × (Int × Int)))))) × (Int × Bool)))) (h_e11 : e11 = ((5 : Int), ((0 : Int), (0 : Int), (0 : Int), (0 : Int), (0 : Int), (0 : Int), (0 : Int)), (w64 e6), false)) (e12 : (Int × ((Int × (Int × (Int × (Int × (Int × (Int × Int)))))) × (Int × Bool)))) (h_e12 : e12 = ((2 : Int), ((0 : Int), (0 : Int), (0 : Int), (0 : Int), (0 : Int), (0 : Int), (0 : Int)), (w64 e2), decide ((0 : Int) < e6))) (e13 : (Int × ((Int × (Int × (Int × (Int × (Int × (Int × Int)))))) × (Int × Bool)))) (h_e13 : e13 = ((0 : Int), (n_, e7, (w64 e6), e9, e10, (0 : Int), (0 : Int)), (0 : Int), false)) (e14 : (Int × ((Int × (Int × (Int × (Int × (Int × (Int × Int)))))) × (Int × Bool)))) (h_e14 : e14 = ((0 : Int), (n_, e7, (w64 (Int.tmod e1 (3 : Int))), e9, e10, (0 : Int), (0 : Int)), (0 : Int), false)) (e15 : (Int × ((Int × (Int × (Int × (Int × (Int × (Int × Int)))))) × (Int × Bool)))) (h_e15 : e15 = ((0 : Int), (n_, e7, e8, e9, e10, (0 : Int), (0 : Int)), (0 : Int), false)) (e16 : (Int × ((Int × (Int × (Int × (Int × (Int × (Int × Int)))))) × (Int × Bool)))) (h_e16 : e16 = ((0 : Int), (n_, e7, e8, e9, e10, (w64 (Int.tmod e3 (4 : Int))), (0 : Int)), (0 : Int), false)) (e17 : (Int × ((Int × (Int × (Int × (Int × (Int × (Int × Int)))))) × (Int × Bool)))) (h_e17 : e17 = ((0 : Int), (n_, e7, e8, e9, e10, (0 : Int), (w64 ((1 : Int) + (w64 (Int.tmod e3 (8 : Int)))))), (0 : Int), false)) : CF (k + 1) ⟨[(false, KAct)], []⟩ n_script_one [inj (.slice (.int .u8)) b_, inj (.int .i64) n_] =
 ((bif (inb (0 : Int) b_.length) then (bif decide (e4 = (0 : Int)) then (bif (inb (1 : Int) b_.length) then some ((1 : Int), ((0 : Int), (0 : Int), (0 : Int), (0 : Int), (0 : Int), (0 : Int), (0 : Int)), (w64 e2), false)
 else none)
 else (bif decide (e4 = (1 : Int)) then (bif decide (e4 = (1 : Int)) then (bif (inb (1 : Int) b_.length) then (bif (inb (2 : Int) b_.length) then some e12
 else none)
 else none)
 else (bif decide (e4 = (4 : Int)) then some ((3 : Int), ((0 : Int), (0 : Int), (0 : Int), (0 : Int), (0 : Int), (0 : Int), (0 : Int)), (0 : Int), false)
 else (bif decide (e4 = (5 : Int)) then (bif (inb (1 : Int) b_.length) then (bif decide ((0 : Int) < e5) then some ((4 : Int), ((0 : Int), (0 : Int), (0 : Int), (0 : Int), (0 : Int), (0 : Int), (0 : Int)), (0 : Int), false)
 else (bif (inb (2 : Int) b_.length) then some e11
 else none))
 else none)
 else (bif (inb (1 : Int) b_.length) then (bif (inb (2 : Int) b_.length) then (bif (inb (3 : Int) b_.length) then (bif (inb (4 : Int) b_.length) then (bif decide (e7 = (0 : Int)) then (bif (inb (2 : Int) b_.length) then some e14
 else none)
 else (bif decide (e7 = (2 : Int)) then (bif (inb (5 : Int) b_.length) then some e16
 else none)
 else (bif decide (e7 = (3 : Int)) then (bif (inb (5 : Int) b_.length) then some e17
 else none)
 else (bif decide (e7 = (4 : Int)) then (bif decide (e7 = (4 : Int)) then (bif (inb (2 : Int) b_.length) then some e13
 else none)
 else some e15)
 else (bif decide (e7 = (5 : Int)) then (bif decide (e7 = (5 : Int)) then (bif (inb (2 : Int) b_.length) then some e13
 else none)
 else some e15)
 else (bif decide (e7 = (6 : Int)) then (bif decide (e7 = (6 : Int)) then (bif (inb (2 : Int) b_.length) then some e13
 else none)
 else some e15)
 else (bif decide (e7 = (7 : Int)) then (bif (inb (2 : Int) b_.length) then some e13
 else none)
 else some e15)))))))
 else none)
 else none)
 else none)
 else none))))
 else (bif decide (e4 = (2 : Int)) then (bif decide (e4 = (2 : Int)) then (bif (inb (1 : Int) b_.length) then (bif (inb (2 : Int) b_.length) then some e12
 else none)
 else none)
 else (bif decide (e4 = (4 : Int)) then some ((3 : Int), ((0 : Int), (0 : Int), (0 : Int), (0 : Int), (0 : Int), (0 : Int), (0 : Int)), (0 : Int), false)
 else (bif decide (e4 = (5 : Int)) then (bif (inb (1 : Int) b_.length) then (bif decide ((0 : Int) < e5) then some ((4 : Int), ((0 : Int), (0 : Int), (0 : Int), (0 : Int), (0 : Int), (0 : Int), (0 : Int)), (0 : Int), false)
 else (bif (inb (2 : Int) b_.length) then some e11
 else none))
 else none)
 else (bif (inb (1 : Int) b_.length) then (bif (inb (2 : Int) b_.length) then (bif (inb (3 : Int) b_.length) then (bif (inb (4 : Int) b_.length) then (bif decide (e7 = (0 : Int)) then (bif (inb (2 : Int) b_.length) then some e14
 else none)
 else (bif decide (e7 = (2 : Int)) then (bif (inb (5 : Int) b_.length) then some e16
 else none)
 else (bif decide (e7 = (3 : Int)) then (bif (inb (5 : Int) b_.length) then some e17
 else none)
 else (bif decide (e7 = (4 : Int)) then (bif decide (e7 = (4 : Int)) then (bif (inb (2 : Int) b_.length) then some e13
 else none)
 else some e15)
 else (bif decide (e7 = (5 : Int)) then (bif decide (e7 = (5 : Int)) then (bif (inb (2 : Int) b_.length) then some e13
 else none)
 else some e15)
 else (bif decide (e7 = (6 : Int)) then (bif decide (e7 = (6 : Int)) then (bif (inb (2 : Int) b_.length) then some e13
 else none)
 else some e15)
 else (bif decide (e7 = (7 : Int)) then (bif (inb (2 : Int) b_.length) then some e13
 else none)
 else some e15)))))))
 else none)
 else none)
 else none)
 else none))))
 else (bif decide (e4 = (3 : Int)) then (bif (inb (1 : Int) b_.length) then (bif (inb (2 : Int) b_.length) then some e12
 else none)
 else none)
 else (bif decide (e4 = (4 : Int)) then some ((3 : Int), ((0 : Int), (0 : Int), (0 : Int), (0 : Int), (0 : Int), (0 : Int), (0 : Int)), (0 : Int), false)
 else (bif decide (e4 = (5 : Int)) then (bif (inb (1 : Int) b_.length) then (bif decide ((0 : Int) < e5) then some ((4 : Int), ((0 : Int), (0 : Int), (0 : Int), (0 : Int), (0 : Int), (0 : Int), (0 : Int)), (0 : Int), false)
 else (bif (inb (2 : Int) b_.length) then some e11
 else none))
 else none)
 else (bif (inb (1 : Int) b_.length) then (bif (inb (2 : Int) b_.length) then (bif (inb (3 : Int) b_.length) then (bif (inb (4 : Int) b_.length) then (bif decide (e7 = (0 : Int)) then (bif (inb (2 : Int) b_.length) then some e14
 else none)
 else (bif decide (e7 = (2 : Int)) then (bif (inb (5 : Int) b_.length) then some e16
 else none)
 else (bif decide (e7 = (3 : Int)) then (bif (inb (5 : Int) b_.length) then some e17
 else none)
 else (bif decide (e7 = (4 : Int)) then (bif decide (e7 = (4 : Int)) then (bif (inb (2 : Int) b_.length) then some e13
 else none)
 else some e15)
 else (bif decide (e7 = (5 : Int)) then (bif decide (e7 = (5 : Int)) then (bif (inb (2 : Int) b_.length) then some e13
 else none)
 else some e15)
 else (bif decide (e7 = (6 : Int)) then (bif decide (e7 = (6 : Int)) then (bif (inb (2 : Int) b_.length) then some e13
 else none)
 else some e15)
 else (bif decide (e7 = (7 : Int)) then (bif (inb (2 : Int) b_.length) then some e13
 else none)
 else some e15)))))))
 else none)
 else none)
 else none)
 else none)))))))
 else none) : Option (TAct)) := by
  subst h_e1 h_e2 h_e3 h_e4 h_e5 h_e6 h_e7 h_e8 h_e9 h_e10 h_e11 h_e12 h_e13 h_e14 h_e15 h_e16 h_e17
  kernel_rfl
/-- hawala/hawalalaw23.act$1 -/
theorem f_law23_act_1 (k : Nat) (k_ : Int) (a1_ : List (Int)) : CF (k + 1) ⟨[(false, (.int .i64))], []⟩ n_law23_act_1 [inj (.int .i64) k_, .val false [.ipt (.slice (.int .u8)) a1_ []]] =
 ((bif (inb k_ a1_.length) then some (w64 (List.getD a1_ (Int.toNat k_) (0 : Int)))
 else none) : Option (Int)) := by kernel_rfl
end Go.Eng.Sca
