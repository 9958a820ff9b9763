/- What the functions of this chapter come to (printed by eq.py out of the program, by the engine; each equation is checked by Lean's kernel). No conditions. -/
import Derived.Test.YtfkiapjkeopgfaaE30
import Derived.Test.YtfkiapjkeopgfaaProg
set_option linter.all false
set_option linter.unusedVariables false
set_option linter.unusedSimpArgs false
set_option linter.deprecated false
namespace Go.Eng.Scm
open Go.Proofs Go.Eng
def aOwn : Nat → List Bool := fun _ => []
def aMv : Nat → List Bool := fun _ => []
def aProm : Nat → List Nat := fun f => match f with
  | 9 => [3]
  | _ => []
def aNils : Nat → List Nat := fun f => match f with
  | 9 => [2]
  | _ => []
def aKeep : Nat → Nat → List Nat := fun f b => match f, b with
  | 3, 0 => [0, 16, 17, 18]
  | 4, 0 => [5, 6, 7, 36, 37]
  | 6, 0 => [5, 6, 33, 34]
  | 7, 0 => [3, 10, 11, 12]
  | 9, 0 => [0, 3]
  | _, _ => []
def aCut : Nat → Nat → Option (List Nat) := fun f b => match f, b with
  | 5, 9 => some [0, 1, 5, 6]
  | 10, 13 => some [1, 4, 5]
  | 10, 16 => some [4, 5, 7]
  | 10, 18 => some [4, 5, 7]
  | 10, 20 => some [4, 5, 7]
  | 11, 3 => some [1]
  | 11, 5 => some [1]
  | _, _ => none
def A : Ann := ⟨0, aOwn, aMv, aProm, aKeep, aNils, aCut⟩
abbrev X : Outer := (fun _ _ _ => none)
noncomputable abbrev CF : Nat → CallF := callF Try.prog A X
set_option maxRecDepth 1000000
set_option maxHeartbeats 0
abbrev KboundsError : K := (.strct (.prod (.int .i64) (.prod (.int .i64) (.prod .bool (.int .u8)))))
abbrev TboundsError : Type := (Int) × (Int) × (Bool) × Int
abbrev KerrorAddressString : K := (.strct (.prod .str (.int .u64)))
abbrev TerrorAddressString : Type := (List Int) × Int
abbrev KRequest : K := (.strct (.prod (.int .i64) (.prod (.int .i64) (.prod (.int .i64) (.prod (.int .i64) (.prod (.int .i64) (.prod (.int .i64) (.int .i64))))))))
abbrev TRequest : Type := (Int) × (Int) × (Int) × (Int) × (Int) × (Int) × Int
abbrev KAct : K := (.strct (.prod (.int .i64) (.prod (.strct (.prod (.int .i64) (.prod (.int .i64) (.prod (.int .i64) (.prod (.int .i64) (.prod (.int .i64) (.prod (.int .i64) (.int .i64)))))))) (.prod (.int .i64) .bool))))
abbrev TAct : Type := (Int) × (TRequest) × (Int) × Bool
abbrev n_law23_ScriptMay : Nat := 7
abbrev n_law23_awake : Nat := 8
abbrev n_script_Acts : Nat := 9
abbrev n_request_May : Nat := 11
abbrev n_script_one : Nat := 12
abbrev n_money_Amount : Nat := 14
/-- hawala/hawalalaw23.ScriptMay -/
noncomputable def h_law23_ScriptMay (k m : Nat) (t10 : List (TAct)) (t11 : Int) (t12 : Int) (seen_ : List (Int × (Bool))) : Option (Bool) := headB Try.prog A (CF k) k ⟨[(false, .bool)], []⟩ 7 [] [.r, .r, .r, .l, .r, .l] m ⟨[(3, .val false [.mp 3]), (10, .val false [.sl KAct t10]), (11, .val false [.int .i64 t11]), (12, .val false [.int .i64 t12])], [(3, .mp .bool seen_)]⟩
/-- hawala/script.Acts -/
noncomputable def h_script_Acts (k m : Nat) (b_ : List (Int)) (out_ : List (TAct)) : Option ((List (TAct))) := headB Try.prog A (CF k) k ⟨[(false, (.slice KAct))], []⟩ 9 [] [.r, .r, .l, .l] m ⟨[(0, .val false [.sl (.int .u8) b_]), (3, .val false [.vw 3 0])], [(3, .row KAct out_ 0 [] false)]⟩
/-- hawala/request.May -/
noncomputable def h_request_May (k m : Nat) (r_ : Int) (r_1 : Int) (r_2 : Int) (r_3 : Int) (r_4 : Int) (r_5 : Int) (r_6 : Int) : Option (Bool) := headB Try.prog A (CF k) k ⟨[(false, .bool)], []⟩ 11 [] [.r, .r, .l, .l] m ⟨[(1, .val false [.ptr 1 0 0 []])], [(1, .box [.int .i64 r_, .int .i64 r_1, .int .i64 r_2, .int .i64 r_3, .int .i64 r_4, .int .i64 r_5, .int .i64 r_6])]⟩
/-- hawala/request.May -/
noncomputable def h_request_May_1 (k m : Nat) (r_ : Int) (r_1 : Int) (r_2 : Int) (r_3 : Int) (r_4 : Int) (r_5 : Int) (r_6 : Int) : Option (Bool) := headB Try.prog A (CF k) k ⟨[(false, .bool)], []⟩ 11 [] [.r, .r, .r, .l, .l] m ⟨[(1, .val false [.ptr 1 0 0 []])], [(1, .box [.int .i64 r_, .int .i64 r_1, .int .i64 r_2, .int .i64 r_3, .int .i64 r_4, .int .i64 r_5, .int .i64 r_6])]⟩
/-- hawala/hawalalaw23.ScriptMay -/
theorem f_law23_ScriptMay (k : Nat) (b_ : List (Int)) : CF (k + 1) ⟨[(false, .bool)], []⟩ n_law23_ScriptMay [inj (.slice (.int .u8)) b_] =
 (((CF k ⟨[(false, .bool)], []⟩ n_law23_awake []).bind fun (r : Bool) =>
 (bif (!r) then some false
 else ((CF k ⟨[(false, (.slice KAct))], []⟩ n_script_Acts [inj (.slice (.int .u8)) b_]).bind fun (r_1 : (List (TAct))) =>
 (h_law23_ScriptMay k k r_1 (r_1.length : Int) (0 : Int) [])))) : Option (Bool)) := by kernel_rfl
theorem h_law23_ScriptMay_s (k m : Nat) (t10 : List (TAct)) (t11 : Int) (t12 : Int) (seen_ : List (Int × (Bool))) (e1 : Int) (h_e1 : e1 = (w64 (t12 + (1 : Int)))) (e2 : (Int × ((Int × (Int × (Int × (Int × (Int × (Int × Int)))))) × (Int × Bool)))) (h_e2 : e2 = (List.getD t10 (Int.toNat t12) ((0 : Int), ((0 : Int), (0 : Int), (0 : Int), (0 : Int), (0 : Int), (0 : Int), (0 : Int)), (0 : Int), false))) (e3 : (Int × Int)) (h_e3 : e3 = e2.2.1.2.2.2.2.2) : h_law23_ScriptMay k (m + 1) t10 t11 t12 seen_ =
 (bif decide (t12 < t11) then (bif (inb t12 t10.length) then (bif (!decide (e2.1 = (0 : Int))) then (bif (!(decide (e2.2.1.1 = (0 : Int)) && (decide (e2.2.1.2.1 = (0 : Int)) && (decide (e2.2.1.2.2.1 = (0 : Int)) && (decide (e2.2.1.2.2.2.1 = (0 : Int)) && (decide (e2.2.1.2.2.2.2.1 = (0 : Int)) && (decide (e3.1 = (0 : Int)) && (decide (e3.2 = (0 : Int)) && true)))))))) then some false
 else (bif decide (e2.2.2.1 < (0 : Int)) then some false
 else (bif decide ((255 : Int) < e2.2.2.1) then some false
 else (h_law23_ScriptMay k m t10 t11 e1 seen_))))
 else ((CF k ⟨[(false, .bool)], []⟩ n_request_May [inj KRequest e2.2.1]).bind fun (r : Bool) =>
 (bif (!r) then some false
 else (bif (mapGet false seen_ e2.2.1.1) then some false
 else (h_law23_ScriptMay k m t10 t11 e1 (mapPut seen_ e2.2.1.1 true))))))
 else none)
 else some true) := by
  subst h_e1 h_e2 h_e3
  kernel_rfl
theorem h_law23_ScriptMay_z (k  : Nat) (t10 : List (TAct)) (t11 : Int) (t12 : Int) (seen_ : List (Int × (Bool))) : h_law23_ScriptMay k 0 t10 t11 t12 seen_ = none := by kernel_rfl
/-- hawala/hawalalaw23.awake -/
theorem f_law23_awake (k : Nat) : CF (k + 1) ⟨[(false, .bool)], []⟩ n_law23_awake [] =
 (((CF k ⟨[(false, (.slice KAct))], []⟩ n_script_Acts [inj (.slice (.int .u8)) [(6 : Int), (0 : Int), (2 : Int), (0 : Int), (0 : Int), (0 : Int), (4 : Int), (0 : Int)]]).bind fun (r : (List (TAct))) =>
 (bif decide ((r.length : Int) = (1 : Int)) then (bif (inb (0 : Int) r.length) then (bif decide ((List.getD r 0 ((0 : Int), ((0 : Int), (0 : Int), (0 : Int), (0 : Int), (0 : Int), (0 : Int), (0 : Int)), (0 : Int), false)).1 = (0 : Int)) then (bif (inb (0 : Int) r.length) then (bif decide ((List.getD r 0 ((0 : Int), ((0 : Int), (0 : Int), (0 : Int), (0 : Int), (0 : Int), (0 : Int), (0 : Int)), (0 : Int), false)).2.1.2.2.1 = (2 : Int)) then (bif (inb (0 : Int) r.length) then some (decide ((List.getD r 0 ((0 : Int), ((0 : Int), (0 : Int), (0 : Int), (0 : Int), (0 : Int), (0 : Int), (0 : Int)), (0 : Int), false)).2.1.2.1 = (0 : Int)))
 else none)
 else some false)
 else none)
 else some false)
 else none)
 else some false)) : Option (Bool)) := by kernel_rfl
/-- hawala/script.Acts -/
theorem f_script_Acts (k : Nat) (b_ : List (Int)) : CF (k + 1) ⟨[(false, (.slice KAct))], []⟩ n_script_Acts [inj (.slice (.int .u8)) b_] =
 ((h_script_Acts k k b_ []) : Option ((List (TAct)))) := by kernel_rfl
theorem h_script_Acts_s (k m : Nat) (b_ : List (Int)) (out_ : List (TAct)) (e1 : Int) (h_e1 : e1 = (b_.length : Int)) : h_script_Acts k (m + 1) b_ out_ =
 (bif decide ((6 : Int) ≤ e1) then (bif decide ((6 : Int) ≤ e1) then ((CF k ⟨[(false, KAct)], []⟩ n_script_one [inj (.slice (.int .u8)) (List.take 6 b_), inj (.int .i64) (out_.length : Int)]).bind fun (r : TAct) =>
 (bif decide (((out_.length + [r].length) * 80) ≤ 211106232532992) then (bif decide ((6 : Int) ≤ e1) then (h_script_Acts k m (List.drop 6 b_) (out_ ++ [r]))
 else none)
 else none))
 else none)
 else some out_) := by
  subst h_e1
  kernel_rfl
theorem h_script_Acts_z (k  : Nat) (b_ : List (Int)) (out_ : List (TAct)) : h_script_Acts k 0 b_ out_ = none := by kernel_rfl
/-- hawala/request.May -/
theorem f_request_May (k : Nat) (r_ : TRequest) : CF (k + 1) ⟨[(false, .bool)], []⟩ n_request_May [inj KRequest r_] =
 ((bif decide (r_.1 < (0 : Int)) then some false
 else (bif decide ((1073741824 : Int) ≤ r_.1) then some false
 else (bif decide (r_.2.2.2.2.2.1 < (0 : Int)) then some false
 else (bif decide ((4 : Int) < r_.2.2.2.2.2.1) then some false
 else (bif decide (r_.2.2.2.2.2.2 < (0 : Int)) then some false
 else (bif decide ((1073741824 : Int) < r_.2.2.2.2.2.2) then some false
 else (h_request_May k k r_.1 r_.2.1 r_.2.2.1 r_.2.2.2.1 r_.2.2.2.2.1 r_.2.2.2.2.2.1 r_.2.2.2.2.2.2))))))) : Option (Bool)) := by kernel_rfl
theorem h_request_May_s (k m : Nat) (r_ : Int) (r_1 : Int) (r_2 : Int) (r_3 : Int) (r_4 : Int) (r_5 : Int) (r_6 : Int) : h_request_May k (m + 1) r_ r_1 r_2 r_3 r_4 r_5 r_6 =
 (bif decide ((0 : Int) < r_5) then (bif (!decide (r_1 = (2 : Int))) then some false
 else (h_request_May_1 k k r_ r_1 r_2 r_3 r_4 r_5 r_6))
 else (h_request_May_1 k k r_ r_1 r_2 r_3 r_4 r_5 r_6)) := by kernel_rfl
theorem h_request_May_z (k  : Nat) (r_ : Int) (r_1 : Int) (r_2 : Int) (r_3 : Int) (r_4 : Int) (r_5 : Int) (r_6 : Int) : h_request_May k 0 r_ r_1 r_2 r_3 r_4 r_5 r_6 = none := by kernel_rfl
theorem h_request_May_1_s (k m : Nat) (r_ : Int) (r_1 : Int) (r_2 : Int) (r_3 : Int) (r_4 : Int) (r_5 : Int) (r_6 : Int) : h_request_May_1 k (m + 1) r_ r_1 r_2 r_3 r_4 r_5 r_6 =
 (bif decide (r_1 = (0 : Int)) then (bif decide ((0 : Int) ≤ r_2) then some (decide (r_2 < (3 : Int)))
 else some false)
 else (bif decide (r_1 = (5 : Int)) then some true
 else (bif decide (r_1 = (1 : Int)) then (bif decide (r_1 = (1 : Int)) then ((CF k ⟨[(false, .bool)], []⟩ n_money_Amount [inj (.int .i64) r_4]).bind fun (r : Bool) =>
 some r)
 else some false)
 else (bif decide (r_1 = (2 : Int)) then (bif decide (r_1 = (2 : Int)) then ((CF k ⟨[(false, .bool)], []⟩ n_money_Amount [inj (.int .i64) r_4]).bind fun (r : Bool) =>
 some r)
 else some false)
 else (bif decide (r_1 = (3 : Int)) then (bif decide (r_1 = (3 : Int)) then ((CF k ⟨[(false, .bool)], []⟩ n_money_Amount [inj (.int .i64) r_4]).bind fun (r : Bool) =>
 some r)
 else some false)
 else (bif decide (r_1 = (4 : Int)) then (bif decide (r_1 = (4 : Int)) then ((CF k ⟨[(false, .bool)], []⟩ n_money_Amount [inj (.int .i64) r_4]).bind fun (r : Bool) =>
 some r)
 else some false)
 else (bif decide (r_1 = (6 : Int)) then (bif decide (r_1 = (6 : Int)) then ((CF k ⟨[(false, .bool)], []⟩ n_money_Amount [inj (.int .i64) r_4]).bind fun (r : Bool) =>
 some r)
 else some false)
 else (bif decide (r_1 = (7 : Int)) then ((CF k ⟨[(false, .bool)], []⟩ n_money_Amount [inj (.int .i64) r_4]).bind fun (r : Bool) =>
 some r)
 else some false)))))))) := by kernel_rfl
theorem h_request_May_1_z (k  : Nat) (r_ : Int) (r_1 : Int) (r_2 : Int) (r_3 : Int) (r_4 : Int) (r_5 : Int) (r_6 : Int) : h_request_May_1 k 0 r_ r_1 r_2 r_3 r_4 r_5 r_6 = none := by kernel_rfl
/-- hawala/script.one -/
theorem f_script_one (k : Nat) (b_ : List (Int)) (n_ : Int) (e1 : Int) (h_e1 : e1 = (List.getD b_ 2 (0 : Int))) (e2 : Int) (h_e2 : e2 = (List.getD b_ 5 (0 : Int))) (e3 : Int) (h_e3 : e3 = (List.getD b_ 1 (0 : Int))) (e4 : Int) (h_e4 : e4 = (Int.tmod e1 (4 : Int))) (e5 : Int) (h_e5 : e5 = (Int.tmod (List.getD b_ 0 (0 : Int)) (12 : Int))) (e6 : Int) (h_e6 : e6 = (Int.tmod e3 (4 : Int))) (e7 : Int) (h_e7 : e7 = (w64 (Int.tmod e3 (8 : Int)))) (e8 : Int) (h_e8 : e8 = (w64 ((9 : Int) + (w64 (Int.tmod (List.getD b_ 3 (0 : Int)) (6 : Int)))))) (e9 : Int) (h_e9 : e9 = (w64 ((9 : Int) + (w64 (Int.tmod e1 (6 : Int)))))) (e10 : Int) (h_e10 : e10 = (w64 ((1 : Int) + (w64 ((w64 (List.getD b_ 4 (0 : Int))) * (7 : Int)))))) (e11 : (Int × ((Int × (Int × (Int × (Int × (Int × (Int × Int)))))) × (Int × Bool)))) (h_e11 : e11 = ((5 : Int), ((0 : Int), (0 : Int), (0 : Int), (0 : Int), (0 : Int), (0 : Int), (0 : Int)), (w64 e4), false)) (e12 : (Int × ((Int × (Int × (Int × (Int × (Int × (Int × Int)))))) × (Int × Bool)))) (h_e12 : e12 = ((2 : Int), ((0 : Int), (0 : Int), (0 : Int), (0 : Int), (0 : Int), (0 : Int), (0 : Int)), (w64 e3), decide ((0 : Int) < e4))) (e13 : (Int × ((Int × (Int × (Int × (Int × (Int × (Int × Int)))))) × (Int × Bool)))) (h_e13 : e13 = ((0 : Int), (n_, e7, (w64 e4), e8, e10, (0 : Int), (0 : Int)), (0 : Int), false)) (e14 : (Int × ((Int × (Int × (Int × (Int × (Int × (Int × Int)))))) × (Int × Bool)))) (h_e14 : e14 = ((0 : Int), (n_, e7, (w64 (Int.tmod e1 (3 : Int))), e8, e10, (0 : Int), (0 : Int)), (0 : Int), false)) (e15 : (Int × ((Int × (Int × (Int × (Int × (Int × (Int × Int)))))) × (Int × Bool)))) (h_e15 : e15 = ((0 : Int), (n_, e7, e9, e8, e10, (0 : Int), (0 : Int)), (0 : Int), false)) (e16 : (Int × ((Int × (Int × (Int × (Int × (Int × (Int × Int)))))) × (Int × Bool)))) (h_e16 : e16 = ((0 : Int), (n_, e7, e9, e8, e10, (w64 (Int.tmod e2 (4 : Int))), (0 : Int)), (0 : Int), false)) (e17 : (Int × ((Int × (Int × (Int × (Int × (Int × (Int × Int)))))) × (Int × Bool)))) (h_e17 : e17 = ((0 : Int), (n_, e7, e9, e8, e10, (0 : Int), (w64 ((1 : Int) + (w64 (Int.tmod e2 (8 : Int)))))), (0 : Int), false)) : CF (k + 1) ⟨[(false, KAct)], []⟩ n_script_one [inj (.slice (.int .u8)) b_, inj (.int .i64) n_] =
 ((bif (inb (0 : Int) b_.length) then (bif decide (e5 = (0 : Int)) then (bif (inb (1 : Int) b_.length) then some ((1 : Int), ((0 : Int), (0 : Int), (0 : Int), (0 : Int), (0 : Int), (0 : Int), (0 : Int)), (w64 e3), false)
 else none)
 else (bif decide (e5 = (1 : Int)) then (bif decide (e5 = (1 : Int)) then (bif (inb (1 : Int) b_.length) then (bif (inb (2 : Int) b_.length) then some e12
 else none)
 else none)
 else (bif decide (e5 = (4 : Int)) then some ((3 : Int), ((0 : Int), (0 : Int), (0 : Int), (0 : Int), (0 : Int), (0 : Int), (0 : Int)), (0 : Int), false)
 else (bif decide (e5 = (5 : Int)) then (bif (inb (1 : Int) b_.length) then (bif decide ((0 : Int) < e6) then some ((4 : Int), ((0 : Int), (0 : Int), (0 : Int), (0 : Int), (0 : Int), (0 : Int), (0 : Int)), (0 : Int), false)
 else (bif (inb (2 : Int) b_.length) then some e11
 else none))
 else none)
 else (bif (inb (1 : Int) b_.length) then (bif (inb (2 : Int) b_.length) then (bif (inb (3 : Int) b_.length) then (bif (inb (4 : Int) b_.length) then (bif decide (e7 = (0 : Int)) then (bif (inb (2 : Int) b_.length) then some e14
 else none)
 else (bif decide (e7 = (2 : Int)) then (bif (inb (5 : Int) b_.length) then some e16
 else none)
 else (bif decide (e7 = (3 : Int)) then (bif (inb (5 : Int) b_.length) then some e17
 else none)
 else (bif decide (e7 = (4 : Int)) then (bif decide (e7 = (4 : Int)) then (bif (inb (2 : Int) b_.length) then some e13
 else none)
 else some e15)
 else (bif decide (e7 = (5 : Int)) then (bif decide (e7 = (5 : Int)) then (bif (inb (2 : Int) b_.length) then some e13
 else none)
 else some e15)
 else (bif decide (e7 = (6 : Int)) then (bif decide (e7 = (6 : Int)) then (bif (inb (2 : Int) b_.length) then some e13
 else none)
 else some e15)
 else (bif decide (e7 = (7 : Int)) then (bif (inb (2 : Int) b_.length) then some e13
 else none)
 else some e15)))))))
 else none)
 else none)
 else none)
 else none))))
 else (bif decide (e5 = (2 : Int)) then (bif decide (e5 = (2 : Int)) then (bif (inb (1 : Int) b_.length) then (bif (inb (2 : Int) b_.length) then some e12
 else none)
 else none)
 else (bif decide (e5 = (4 : Int)) then some ((3 : Int), ((0 : Int), (0 : Int), (0 : Int), (0 : Int), (0 : Int), (0 : Int), (0 : Int)), (0 : Int), false)
 else (bif decide (e5 = (5 : Int)) then (bif (inb (1 : Int) b_.length) then (bif decide ((0 : Int) < e6) then some ((4 : Int), ((0 : Int), (0 : Int), (0 : Int), (0 : Int), (0 : Int), (0 : Int), (0 : Int)), (0 : Int), false)
 else (bif (inb (2 : Int) b_.length) then some e11
 else none))
 else none)
 else (bif (inb (1 : Int) b_.length) then (bif (inb (2 : Int) b_.length) then (bif (inb (3 : Int) b_.length) then (bif (inb (4 : Int) b_.length) then (bif decide (e7 = (0 : Int)) then (bif (inb (2 : Int) b_.length) then some e14
 else none)
 else (bif decide (e7 = (2 : Int)) then (bif (inb (5 : Int) b_.length) then some e16
 else none)
 else (bif decide (e7 = (3 : Int)) then (bif (inb (5 : Int) b_.length) then some e17
 else none)
 else (bif decide (e7 = (4 : Int)) then (bif decide (e7 = (4 : Int)) then (bif (inb (2 : Int) b_.length) then some e13
 else none)
 else some e15)
 else (bif decide (e7 = (5 : Int)) then (bif decide (e7 = (5 : Int)) then (bif (inb (2 : Int) b_.length) then some e13
 else none)
 else some e15)
 else (bif decide (e7 = (6 : Int)) then (bif decide (e7 = (6 : Int)) then (bif (inb (2 : Int) b_.length) then some e13
 else none)
 else some e15)
 else (bif decide (e7 = (7 : Int)) then (bif (inb (2 : Int) b_.length) then some e13
 else none)
 else some e15)))))))
 else none)
 else none)
 else none)
 else none))))
 else (bif decide (e5 = (3 : Int)) then (bif (inb (1 : Int) b_.length) then (bif (inb (2 : Int) b_.length) then some e12
 else none)
 else none)
 else (bif decide (e5 = (4 : Int)) then some ((3 : Int), ((0 : Int), (0 : Int), (0 : Int), (0 : Int), (0 : Int), (0 : Int), (0 : Int)), (0 : Int), false)
 else (bif decide (e5 = (5 : Int)) then (bif (inb (1 : Int) b_.length) then (bif decide ((0 : Int) < e6) then some ((4 : Int), ((0 : Int), (0 : Int), (0 : Int), (0 : Int), (0 : Int), (0 : Int), (0 : Int)), (0 : Int), false)
 else (bif (inb (2 : Int) b_.length) then some e11
 else none))
 else none)
 else (bif (inb (1 : Int) b_.length) then (bif (inb (2 : Int) b_.length) then (bif (inb (3 : Int) b_.length) then (bif (inb (4 : Int) b_.length) then (bif decide (e7 = (0 : Int)) then (bif (inb (2 : Int) b_.length) then some e14
 else none)
 else (bif decide (e7 = (2 : Int)) then (bif (inb (5 : Int) b_.length) then some e16
 else none)
 else (bif decide (e7 = (3 : Int)) then (bif (inb (5 : Int) b_.length) then some e17
 else none)
 else (bif decide (e7 = (4 : Int)) then (bif decide (e7 = (4 : Int)) then (bif (inb (2 : Int) b_.length) then some e13
 else none)
 else some e15)
 else (bif decide (e7 = (5 : Int)) then (bif decide (e7 = (5 : Int)) then (bif (inb (2 : Int) b_.length) then some e13
 else none)
 else some e15)
 else (bif decide (e7 = (6 : Int)) then (bif decide (e7 = (6 : Int)) then (bif (inb (2 : Int) b_.length) then some e13
 else none)
 else some e15)
 else (bif decide (e7 = (7 : Int)) then (bif (inb (2 : Int) b_.length) then some e13
 else none)
 else some e15)))))))
 else none)
 else none)
 else none)
 else none)))))))
 else none) : Option (TAct)) := by
  subst h_e1 h_e2 h_e3 h_e4 h_e5 h_e6 h_e7 h_e8 h_e9 h_e10 h_e11 h_e12 h_e13 h_e14 h_e15 h_e16 h_e17
  kernel_rfl
/-- hawala/money.Amount -/
theorem f_money_Amount (k : Nat) (n_ : Int) : CF (k + 1) ⟨[(false, .bool)], []⟩ n_money_Amount [inj (.int .i64) n_] =
 ((bif decide ((1 : Int) ≤ n_) then some (decide (n_ ≤ (1099511627776 : Int)))
 else some false) : Option (Bool)) := by kernel_rfl
end Go.Eng.Scm
