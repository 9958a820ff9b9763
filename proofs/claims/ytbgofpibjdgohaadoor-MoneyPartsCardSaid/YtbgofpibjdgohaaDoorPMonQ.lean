/- What the functions of this chapter come to (printed by eq.py out of the program, by the engine; each equation is checked by Lean's kernel). No conditions. -/
import Derived.Test.YtbgofpibjdgohaaDoorE30
import Derived.Test.YtbgofpibjdgohaaDoorProg
set_option linter.all false
set_option linter.unusedVariables false
set_option linter.unusedSimpArgs false
set_option linter.deprecated false
namespace Go.Eng.Mon
open Go.Proofs Go.Eng
def aOwn : Nat → List Bool := fun _ => []
def aMv : Nat → List Bool := fun _ => []
def aProm : Nat → List Nat := fun _ => []
def aNils : Nat → List Nat := fun _ => []
def aKeep : Nat → Nat → List Nat := fun f b => match f, b with
  | 8, 0 => [0, 3, 4, 11, 12, 13]
  | 17, 0 => [4, 9, 10, 11]
  | _, _ => []
def A : Ann := ⟨28, aOwn, aMv, aProm, aKeep, aNils⟩
abbrev X : Outer := (XNum 12)
noncomputable abbrev CF : Nat → CallF := callF Tryd.prog A X
set_option maxRecDepth 1000000
set_option maxHeartbeats 0
abbrev KboundsError : K := (.strct (.prod (.int .i64) (.prod (.int .i64) (.prod .bool (.int .u8)))))
abbrev TboundsError : Type := (Int) × (Int) × (Bool) × Int
abbrev KerrorAddressString : K := (.strct (.prod .str (.int .u64)))
abbrev TerrorAddressString : Type := (List Int) × Int
abbrev KRate : K := (.strct (.prod (.int .i64) (.int .i64)))
abbrev TRate : Type := (Int) × Int
abbrev KValueError : K := (.strct (.prod .str (.int .u8)))
abbrev TValueError : Type := (List Int) × Int
abbrev KUncommonType : K := (.strct (.prod (.int .i32) (.prod (.int .u16) (.prod (.int .u16) (.prod (.int .u32) (.int .u32))))))
abbrev TUncommonType : Type := (Int) × (Int) × (Int) × (Int) × Int
abbrev KMethod : K := (.strct (.prod (.int .i32) (.prod (.int .i32) (.prod (.int .i32) (.int .i32)))))
abbrev TMethod : Type := (Int) × (Int) × (Int) × Int
abbrev n_law01_MoneyRound : Nat := 5
abbrev n_law01_MoneyRates : Nat := 6
abbrev n_law01_MoneyParts : Nat := 7
abbrev n_law01_awake : Nat := 9
abbrev n_money_Rates : Nat := 16
abbrev n_money_Convert : Nat := 14
abbrev n_api_Number : Nat := 12
abbrev n_money_Add : Nat := 10
abbrev n_money_Amount : Nat := 15
abbrev n_money_Rate_right : Nat := 19
abbrev n_money_May : Nat := 13
/-- hawala/hawalalaw01.MoneyRound -/
theorem f_law01_MoneyRound (k : Nat) (n_ : Int) (i_ : Int) (k_ : Int) : CF (k + 1) ⟨[(false, .bool)], []⟩ n_law01_MoneyRound [inj (.int .i64) n_, inj (.int .u8) i_, inj (.int .u8) k_] =
 (((CF k ⟨[(false, .bool)], []⟩ n_law01_awake []).bind fun (r : Bool) =>
 (bif (!r) then some false
 else ((CF k ⟨[(false, (.strct (.prod (.strct (.prod KRate (.prod KRate KRate))) (.prod (.strct (.prod KRate (.prod KRate KRate))) (.strct (.prod KRate (.prod KRate KRate)))))))], []⟩ n_money_Rates []).bind fun (r_1 : (((TRate) × (TRate) × TRate) × ((TRate) × (TRate) × TRate) × (TRate) × (TRate) × TRate)) =>
 (bif (inb (w64 (Int.tmod i_ (3 : Int))) 3) then (bif (inb (w64 (Int.tmod k_ (3 : Int))) 3) then ((CF k ⟨[(false, (.int .i64)), (false, (.int .i64)), (false, .err)], []⟩ n_money_Convert [inj (.int .i64) n_, inj KRate ((selInt (w64 (Int.tmod k_ (3 : Int))) [(selInt (w64 (Int.tmod i_ (3 : Int))) [r_1.1.1.1, r_1.2.1.1.1, r_1.2.2.1.1]), (selInt (w64 (Int.tmod i_ (3 : Int))) [r_1.1.2.1.1, r_1.2.1.2.1.1, r_1.2.2.2.1.1]), (selInt (w64 (Int.tmod i_ (3 : Int))) [r_1.1.2.2.1, r_1.2.1.2.2.1, r_1.2.2.2.2.1])]), (selInt (w64 (Int.tmod k_ (3 : Int))) [(selInt (w64 (Int.tmod i_ (3 : Int))) [r_1.1.1.2, r_1.2.1.1.2, r_1.2.2.1.2]), (selInt (w64 (Int.tmod i_ (3 : Int))) [r_1.1.2.1.2, r_1.2.1.2.1.2, r_1.2.2.2.1.2]), (selInt (w64 (Int.tmod i_ (3 : Int))) [r_1.1.2.2.2, r_1.2.1.2.2.2, r_1.2.2.2.2.2])]))]).bind fun (r_2 : Int × Int × (Option Int)) =>
 (bif r_2.2.2.isSome then (bif decide (r_2.1 = (0 : Int)) then some true
 else some (!r_2.2.2.isSome))
 else (bif decide (r_2.1 < (1 : Int)) then (bif decide (r_2.1 = (0 : Int)) then some true
 else some (!r_2.2.2.isSome))
 else (bif (inb (w64 (Int.tmod k_ (3 : Int))) 3) then (bif (inb (w64 (Int.tmod i_ (3 : Int))) 3) then ((CF k ⟨[(false, (.int .i64)), (false, (.int .i64)), (false, .err)], []⟩ n_money_Convert [inj (.int .i64) r_2.1, inj KRate ((selInt (w64 (Int.tmod i_ (3 : Int))) [(selInt (w64 (Int.tmod k_ (3 : Int))) [r_1.1.1.1, r_1.2.1.1.1, r_1.2.2.1.1]), (selInt (w64 (Int.tmod k_ (3 : Int))) [r_1.1.2.1.1, r_1.2.1.2.1.1, r_1.2.2.2.1.1]), (selInt (w64 (Int.tmod k_ (3 : Int))) [r_1.1.2.2.1, r_1.2.1.2.2.1, r_1.2.2.2.2.1])]), (selInt (w64 (Int.tmod i_ (3 : Int))) [(selInt (w64 (Int.tmod k_ (3 : Int))) [r_1.1.1.2, r_1.2.1.1.2, r_1.2.2.1.2]), (selInt (w64 (Int.tmod k_ (3 : Int))) [r_1.1.2.1.2, r_1.2.1.2.1.2, r_1.2.2.2.1.2]), (selInt (w64 (Int.tmod k_ (3 : Int))) [r_1.1.2.2.2, r_1.2.1.2.2.2, r_1.2.2.2.2.2])]))]).bind fun (r_3 : Int × Int × (Option Int)) =>
 (bif (!r_3.2.2.isSome) then (bif decide (r_3.1 ≤ n_) then (bif (!decide ((w64 (Int.tmod i_ (3 : Int))) = (w64 (Int.tmod k_ (3 : Int))))) then some true
 else (bif decide (r_2.1 = n_) then some true
 else ((CF k ⟨[(false, (.int .i64))], []⟩ n_api_Number [inj .err r_3.2.2]).bind fun (r_4 : Int) =>
 some (decide (r_4 = (4 : Int))))))
 else ((CF k ⟨[(false, (.int .i64))], []⟩ n_api_Number [inj .err r_3.2.2]).bind fun (r_4 : Int) =>
 some (decide (r_4 = (4 : Int)))))
 else ((CF k ⟨[(false, (.int .i64))], []⟩ n_api_Number [inj .err r_3.2.2]).bind fun (r_4 : Int) =>
 some (decide (r_4 = (4 : Int))))))
 else none)
 else none))))
 else none)
 else none)))) : Option (Bool)) := by kernel_rfl
/-- hawala/hawalalaw01.MoneyRates -/
theorem f_law01_MoneyRates (k : Nat) (i_ : Int) (k_ : Int) : CF (k + 1) ⟨[(false, .bool)], []⟩ n_law01_MoneyRates [inj (.int .u8) i_, inj (.int .u8) k_] =
 (((CF k ⟨[(false, .bool)], []⟩ n_law01_awake []).bind fun (r : Bool) =>
 (bif (!r) then some false
 else ((CF k ⟨[(false, (.strct (.prod (.strct (.prod KRate (.prod KRate KRate))) (.prod (.strct (.prod KRate (.prod KRate KRate))) (.strct (.prod KRate (.prod KRate KRate)))))))], []⟩ n_money_Rates []).bind fun (r_1 : (((TRate) × (TRate) × TRate) × ((TRate) × (TRate) × TRate) × (TRate) × (TRate) × TRate)) =>
 (bif (inb (Int.tmod i_ (3 : Int)) 3) then (bif (inb (Int.tmod k_ (3 : Int)) 3) then (bif (inb (Int.tmod i_ (3 : Int)) 3) then (bif (inb (Int.tmod k_ (3 : Int)) 3) then some (decide ((selInt (Int.tmod k_ (3 : Int)) [(selInt (Int.tmod i_ (3 : Int)) [r_1.1.1.1, r_1.2.1.1.1, r_1.2.2.1.1]), (selInt (Int.tmod i_ (3 : Int)) [r_1.1.2.1.1, r_1.2.1.2.1.1, r_1.2.2.2.1.1]), (selInt (Int.tmod i_ (3 : Int)) [r_1.1.2.2.1, r_1.2.1.2.2.1, r_1.2.2.2.2.1])]) = (selInt (Int.tmod k_ (3 : Int)) [(selInt (Int.tmod i_ (3 : Int)) [(1 : Int), (11 : Int), (1 : Int)]), (selInt (Int.tmod i_ (3 : Int)) [(9 : Int), (1 : Int), (1 : Int)]), (selInt (Int.tmod i_ (3 : Int)) [(150 : Int), (160 : Int), (1 : Int)])])) && (decide ((selInt (Int.tmod k_ (3 : Int)) [(selInt (Int.tmod i_ (3 : Int)) [r_1.1.1.2, r_1.2.1.1.2, r_1.2.2.1.2]), (selInt (Int.tmod i_ (3 : Int)) [r_1.1.2.1.2, r_1.2.1.2.1.2, r_1.2.2.2.1.2]), (selInt (Int.tmod i_ (3 : Int)) [r_1.1.2.2.2, r_1.2.1.2.2.2, r_1.2.2.2.2.2])]) = (selInt (Int.tmod k_ (3 : Int)) [(selInt (Int.tmod i_ (3 : Int)) [(1 : Int), (10 : Int), (151 : Int)]), (selInt (Int.tmod i_ (3 : Int)) [(10 : Int), (1 : Int), (161 : Int)]), (selInt (Int.tmod i_ (3 : Int)) [(1 : Int), (1 : Int), (1 : Int)])])) && true))
 else none)
 else none)
 else none)
 else none)))) : Option (Bool)) := by kernel_rfl
/-- hawala/hawalalaw01.MoneyParts -/
theorem f_law01_MoneyParts (k : Nat) (a_ : Int) (b_ : Int) (i_ : Int) (k_ : Int) : CF (k + 1) ⟨[(false, .bool)], []⟩ n_law01_MoneyParts [inj (.int .i64) a_, inj (.int .i64) b_, inj (.int .u8) i_, inj (.int .u8) k_] =
 (((CF k ⟨[(false, .bool)], []⟩ n_law01_awake []).bind fun (r : Bool) =>
 (bif (!r) then some false
 else ((CF k ⟨[(false, (.strct (.prod (.strct (.prod KRate (.prod KRate KRate))) (.prod (.strct (.prod KRate (.prod KRate KRate))) (.strct (.prod KRate (.prod KRate KRate)))))))], []⟩ n_money_Rates []).bind fun (r_1 : (((TRate) × (TRate) × TRate) × ((TRate) × (TRate) × TRate) × (TRate) × (TRate) × TRate)) =>
 (bif (inb (Int.tmod i_ (3 : Int)) 3) then (bif (inb (Int.tmod k_ (3 : Int)) 3) then ((CF k ⟨[(false, (.int .i64)), (false, (.int .i64)), (false, .err)], []⟩ n_money_Convert [inj (.int .i64) a_, inj KRate ((selInt (Int.tmod k_ (3 : Int)) [(selInt (Int.tmod i_ (3 : Int)) [r_1.1.1.1, r_1.2.1.1.1, r_1.2.2.1.1]), (selInt (Int.tmod i_ (3 : Int)) [r_1.1.2.1.1, r_1.2.1.2.1.1, r_1.2.2.2.1.1]), (selInt (Int.tmod i_ (3 : Int)) [r_1.1.2.2.1, r_1.2.1.2.2.1, r_1.2.2.2.2.1])]), (selInt (Int.tmod k_ (3 : Int)) [(selInt (Int.tmod i_ (3 : Int)) [r_1.1.1.2, r_1.2.1.1.2, r_1.2.2.1.2]), (selInt (Int.tmod i_ (3 : Int)) [r_1.1.2.1.2, r_1.2.1.2.1.2, r_1.2.2.2.1.2]), (selInt (Int.tmod i_ (3 : Int)) [r_1.1.2.2.2, r_1.2.1.2.2.2, r_1.2.2.2.2.2])]))]).bind fun (r_2 : Int × Int × (Option Int)) =>
 ((CF k ⟨[(false, (.int .i64)), (false, (.int .i64)), (false, .err)], []⟩ n_money_Convert [inj (.int .i64) b_, inj KRate ((selInt (Int.tmod k_ (3 : Int)) [(selInt (Int.tmod i_ (3 : Int)) [r_1.1.1.1, r_1.2.1.1.1, r_1.2.2.1.1]), (selInt (Int.tmod i_ (3 : Int)) [r_1.1.2.1.1, r_1.2.1.2.1.1, r_1.2.2.2.1.1]), (selInt (Int.tmod i_ (3 : Int)) [r_1.1.2.2.1, r_1.2.1.2.2.1, r_1.2.2.2.2.1])]), (selInt (Int.tmod k_ (3 : Int)) [(selInt (Int.tmod i_ (3 : Int)) [r_1.1.1.2, r_1.2.1.1.2, r_1.2.2.1.2]), (selInt (Int.tmod i_ (3 : Int)) [r_1.1.2.1.2, r_1.2.1.2.1.2, r_1.2.2.2.1.2]), (selInt (Int.tmod i_ (3 : Int)) [r_1.1.2.2.2, r_1.2.1.2.2.2, r_1.2.2.2.2.2])]))]).bind fun (r_3 : Int × Int × (Option Int)) =>
 (bif r_2.2.2.isSome then some true
 else (bif r_3.2.2.isSome then some true
 else (bif decide ((1099511627776 : Int) < (w64 (a_ + b_))) then some true
 else ((CF k ⟨[(false, (.int .i64)), (false, (.int .i64)), (false, .err)], []⟩ n_money_Convert [inj (.int .i64) (w64 (a_ + b_)), inj KRate ((selInt (Int.tmod k_ (3 : Int)) [(selInt (Int.tmod i_ (3 : Int)) [r_1.1.1.1, r_1.2.1.1.1, r_1.2.2.1.1]), (selInt (Int.tmod i_ (3 : Int)) [r_1.1.2.1.1, r_1.2.1.2.1.1, r_1.2.2.2.1.1]), (selInt (Int.tmod i_ (3 : Int)) [r_1.1.2.2.1, r_1.2.1.2.2.1, r_1.2.2.2.2.1])]), (selInt (Int.tmod k_ (3 : Int)) [(selInt (Int.tmod i_ (3 : Int)) [r_1.1.1.2, r_1.2.1.1.2, r_1.2.2.1.2]), (selInt (Int.tmod i_ (3 : Int)) [r_1.1.2.1.2, r_1.2.1.2.1.2, r_1.2.2.2.1.2]), (selInt (Int.tmod i_ (3 : Int)) [r_1.1.2.2.2, r_1.2.1.2.2.2, r_1.2.2.2.2.2])]))]).bind fun (r_4 : Int × Int × (Option Int)) =>
 (bif r_4.2.2.isSome then ((CF k ⟨[(false, (.int .i64))], []⟩ n_api_Number [inj .err r_4.2.2]).bind fun (r_5 : Int) =>
 (bif decide (r_5 = (4 : Int)) then some (decide ((1099511627776 : Int) ≤ (w64 (r_2.1 + r_3.1))))
 else some false))
 else (bif decide ((w64 (r_2.1 + r_3.1)) ≤ r_4.1) then some (decide (r_4.1 ≤ (w64 ((w64 (r_2.1 + r_3.1)) + (1 : Int)))))
 else some false))))))))
 else none)
 else none)))) : Option (Bool)) := by kernel_rfl
/-- hawala/hawalalaw01.awake -/
theorem f_law01_awake (k : Nat) : CF (k + 1) ⟨[(false, .bool)], []⟩ n_law01_awake [] =
 (((CF k ⟨[(false, (.int .i64)), (false, (.int .i64)), (false, .err)], []⟩ n_money_Convert [inj (.int .i64) (7 : Int), inj KRate ((9 : Int), (10 : Int))]).bind fun (r : Int × Int × (Option Int)) =>
 ((CF k ⟨[(false, (.int .i64)), (false, .err)], []⟩ n_money_Add [inj (.int .i64) (1125899906842624 : Int), inj (.int .i64) (1 : Int)]).bind fun (r_1 : Int × (Option Int)) =>
 (bif (!r.2.2.isSome) then (bif decide (r.1 = (6 : Int)) then (bif decide (r.2.1 = (3 : Int)) then ((CF k ⟨[(false, (.int .i64))], []⟩ n_api_Number [inj .err r_1.2]).bind fun (r_2 : Int) =>
 some (decide (r_2 = (4 : Int))))
 else some false)
 else some false)
 else some false))) : Option (Bool)) := by kernel_rfl
/-- hawala/money.Rates -/
theorem f_money_Rates (k : Nat) : CF (k + 1) ⟨[(false, (.strct (.prod (.strct (.prod KRate (.prod KRate KRate))) (.prod (.strct (.prod KRate (.prod KRate KRate))) (.strct (.prod KRate (.prod KRate KRate)))))))], []⟩ n_money_Rates [] =
 (some ((((1 : Int), (1 : Int)), ((9 : Int), (10 : Int)), (150 : Int), (1 : Int)), (((11 : Int), (10 : Int)), ((1 : Int), (1 : Int)), (160 : Int), (1 : Int)), ((1 : Int), (151 : Int)), ((1 : Int), (161 : Int)), (1 : Int), (1 : Int)) : Option ((((TRate) × (TRate) × TRate) × ((TRate) × (TRate) × TRate) × (TRate) × (TRate) × TRate))) := by kernel_rfl
/-- hawala/money.Convert -/
theorem f_money_Convert (k : Nat) (n_ : Int) (r_ : TRate) : CF (k + 1) ⟨[(false, (.int .i64)), (false, (.int .i64)), (false, .err)], []⟩ n_money_Convert [inj (.int .i64) n_, inj KRate r_] =
 (((CF k ⟨[(false, .bool)], []⟩ n_money_Amount [inj (.int .i64) n_]).bind fun (r : Bool) =>
 (bif (!r) then some ((0 : Int), (0 : Int), some (13 : Int))
 else ((CF k ⟨[(false, .bool)], []⟩ n_money_Rate_right [inj KRate r_]).bind fun (r_1 : Bool) =>
 (bif (!r_1) then some ((0 : Int), (0 : Int), some (13 : Int))
 else (bif (!decide (r_.2 = (0 : Int))) then (bif decide ((1099511627776 : Int) < (w64 (Int.tdiv (w64 (n_ * r_.1)) r_.2))) then some ((0 : Int), (0 : Int), some (4 : Int))
 else (bif (!decide (r_.2 = (0 : Int))) then (bif (!decide (r_.2 = (0 : Int))) then some ((w64 (Int.tdiv (w64 (n_ * r_.1)) r_.2)), (Int.tmod (w64 (n_ * r_.1)) r_.2), none)
 else none)
 else none))
 else none))))) : Option (Int × Int × (Option Int))) := by kernel_rfl
/-- hawala/api.Number -/
theorem f_api_Number (k : Nat) (e_ : Option Int) : CF (k + 1) ⟨[(false, (.int .i64))], []⟩ n_api_Number [inj .err e_] =
 (some (e_.getD (0 : Int)) : Option (Int)) := by kernel_rfl
/-- hawala/money.Add -/
theorem f_money_Add (k : Nat) (a_ : Int) (b_ : Int) : CF (k + 1) ⟨[(false, (.int .i64)), (false, .err)], []⟩ n_money_Add [inj (.int .i64) a_, inj (.int .i64) b_] =
 (((CF k ⟨[(false, .bool)], []⟩ n_money_May [inj (.int .i64) a_]).bind fun (r : Bool) =>
 (bif (!r) then some ((0 : Int), some (4 : Int))
 else ((CF k ⟨[(false, .bool)], []⟩ n_money_May [inj (.int .i64) b_]).bind fun (r_1 : Bool) =>
 (bif (!r_1) then some ((0 : Int), some (4 : Int))
 else ((CF k ⟨[(false, .bool)], []⟩ n_money_May [inj (.int .i64) (w64 (a_ + b_))]).bind fun (r_2 : Bool) =>
 (bif (!r_2) then some ((0 : Int), some (4 : Int))
 else some ((w64 (a_ + b_)), none))))))) : Option (Int × (Option Int))) := by kernel_rfl
/-- hawala/money.Amount -/
theorem f_money_Amount (k : Nat) (n_ : Int) : CF (k + 1) ⟨[(false, .bool)], []⟩ n_money_Amount [inj (.int .i64) n_] =
 ((bif decide ((1 : Int) ≤ n_) then some (decide (n_ ≤ (1099511627776 : Int)))
 else some false) : Option (Bool)) := by kernel_rfl
/-- (hawala/money.Rate).right -/
theorem f_money_Rate_right (k : Nat) (r_ : TRate) : CF (k + 1) ⟨[(false, .bool)], []⟩ n_money_Rate_right [inj KRate r_] =
 ((bif decide ((1 : Int) ≤ r_.1) then (bif decide (r_.1 ≤ (1024 : Int)) then (bif decide ((1 : Int) ≤ r_.2) then some (decide (r_.2 ≤ (1024 : Int)))
 else some false)
 else some false)
 else some false) : Option (Bool)) := by kernel_rfl
/-- hawala/money.May -/
theorem f_money_May (k : Nat) (n_ : Int) : CF (k + 1) ⟨[(false, .bool)], []⟩ n_money_May [inj (.int .i64) n_] =
 ((bif decide ((-1125899906842624 : Int) ≤ n_) then some (decide (n_ ≤ (1125899906842624 : Int)))
 else some false) : Option (Bool)) := by kernel_rfl
end Go.Eng.Mon
