/-
  DERIVED. GIVEN WITH THE SEED: THE CARDS: each row of YtbbnmhmfdbcmhaaGreatDoorRows.lean that lists a variable, with what it lists TIED to the program's text (the seventh form; the later family's looks); each row that meets fmt, with fmt's text TOLD by the authors' own Lean function (tested against real Go, not proved from fmt's source: count such statements apart). THE CARD IS WHAT COUNTS. Prove the row's statement (the work); the ties are given (YtbbnmhmfdbcmhaaGreatDoorTie.lean); close each card by the builder's one call (the guide's Derived/Test/ToyasCard.lean, 'card_holds'). Laid BY PROGRAM, IN A SANDBOX (cutbox-door.mjs). By AI agents, Wed Nov 11 2026. No macro, syntax, notation, axiom, sorry.
-/
import Derived.Test.YtbbnmhmfdbcmhaaGreatDoorRows
import GoSem.ClaimSeven
namespace Go.Proofs.YtbbnmhmfdbcmhaaGreatDoor
namespace Rows

/-- THE TIED CARD OF 'hawalatop.TopAgain'. -/
def topAgainCard : Claim7 := { stood := { row := topAgainRow, standIns := [], harness := (true, "7990f236dd59e9b1919ee85c8c5afc49c04689f532d1cfd7683ec3dae0a1d398"), looks := true }, kinds := [], alts := [], laidByText := true, laidKinds := [.handle], laidTests := true, laidLooks := .later }
def TopAgainCardSaid : Prop := Claim7.holds Tryz.pinned (.plain (OpenSpec.ofChange topAgainSpec)) topAgainCard

/-- THE TIED CARD OF 'hawalatop.TopOther'. -/
def topOtherCard : Claim7 := { stood := { row := topOtherRow, standIns := [], harness := (true, "7990f236dd59e9b1919ee85c8c5afc49c04689f532d1cfd7683ec3dae0a1d398"), looks := true }, kinds := [], alts := [], laidByText := true, laidKinds := [.handle], laidTests := true, laidLooks := .later }
def TopOtherCardSaid : Prop := Claim7.holds Tryz.pinned (.plain (OpenSpec.ofChange topOtherSpec)) topOtherCard

/-- THE TIED CARD OF 'hawalatop.TopCrash'. -/
def topCrashCard : Claim7 := { stood := { row := topCrashRow, standIns := [], harness := (true, "7990f236dd59e9b1919ee85c8c5afc49c04689f532d1cfd7683ec3dae0a1d398"), looks := true }, kinds := [], alts := [], laidByText := true, laidKinds := [.handle], laidTests := true, laidLooks := .later }
def TopCrashCardSaid : Prop := Claim7.holds Tryz.pinned (.plain (OpenSpec.ofChange topCrashSpec)) topCrashCard

/-- THE TIED CARD OF 'hawalatop.TopEffect'. -/
def topEffectCard : Claim7 := { stood := { row := topEffectRow, standIns := [], harness := (true, "7990f236dd59e9b1919ee85c8c5afc49c04689f532d1cfd7683ec3dae0a1d398"), looks := true }, kinds := [], alts := [], laidByText := true, laidKinds := [.handle], laidTests := true, laidLooks := .later }
def TopEffectCardSaid : Prop := Claim7.holds Tryz.pinned (.plain (OpenSpec.ofChange topEffectSpec)) topEffectCard

/-- THE TIED CARD OF 'hawalatop.TopBank'. -/
def topBankCard : Claim7 := { stood := { row := topBankRow, standIns := [], harness := (true, "7990f236dd59e9b1919ee85c8c5afc49c04689f532d1cfd7683ec3dae0a1d398"), looks := true }, kinds := [], alts := [], laidByText := true, laidKinds := [.handle], laidTests := true, laidLooks := .later }
def TopBankCardSaid : Prop := Claim7.holds Tryz.pinned (.plain (OpenSpec.ofChange topBankSpec)) topBankCard

/-- THE SECOND FORM's CARD OF 'hawalatop.TopAgain'. -/
def topAgainUptoCard : Claim7 := { stood := { row := topAgainUptoRow, standIns := [], harness := (true, "7990f236dd59e9b1919ee85c8c5afc49c04689f532d1cfd7683ec3dae0a1d398"), looks := true }, kinds := [], alts := [], laidByText := true, laidKinds := [.handle], laidTests := true, laidLooks := .later }
def TopAgainUptoCardSaid : Prop := Claim7.holds Tryz.pinned (.plain (OpenSpec.upto topAgainSpec)) topAgainUptoCard

/-- THE SECOND FORM's CARD OF 'hawalatop.TopOther'. -/
def topOtherUptoCard : Claim7 := { stood := { row := topOtherUptoRow, standIns := [], harness := (true, "7990f236dd59e9b1919ee85c8c5afc49c04689f532d1cfd7683ec3dae0a1d398"), looks := true }, kinds := [], alts := [], laidByText := true, laidKinds := [.handle], laidTests := true, laidLooks := .later }
def TopOtherUptoCardSaid : Prop := Claim7.holds Tryz.pinned (.plain (OpenSpec.upto topOtherSpec)) topOtherUptoCard

/-- THE SECOND FORM's CARD OF 'hawalatop.TopCrash'. -/
def topCrashUptoCard : Claim7 := { stood := { row := topCrashUptoRow, standIns := [], harness := (true, "7990f236dd59e9b1919ee85c8c5afc49c04689f532d1cfd7683ec3dae0a1d398"), looks := true }, kinds := [], alts := [], laidByText := true, laidKinds := [.handle], laidTests := true, laidLooks := .later }
def TopCrashUptoCardSaid : Prop := Claim7.holds Tryz.pinned (.plain (OpenSpec.upto topCrashSpec)) topCrashUptoCard

/-- THE SECOND FORM's CARD OF 'hawalatop.TopEffect'. -/
def topEffectUptoCard : Claim7 := { stood := { row := topEffectUptoRow, standIns := [], harness := (true, "7990f236dd59e9b1919ee85c8c5afc49c04689f532d1cfd7683ec3dae0a1d398"), looks := true }, kinds := [], alts := [], laidByText := true, laidKinds := [.handle], laidTests := true, laidLooks := .later }
def TopEffectUptoCardSaid : Prop := Claim7.holds Tryz.pinned (.plain (OpenSpec.upto topEffectSpec)) topEffectUptoCard

/-- THE SECOND FORM's CARD OF 'hawalatop.TopBank'. -/
def topBankUptoCard : Claim7 := { stood := { row := topBankUptoRow, standIns := [], harness := (true, "7990f236dd59e9b1919ee85c8c5afc49c04689f532d1cfd7683ec3dae0a1d398"), looks := true }, kinds := [], alts := [], laidByText := true, laidKinds := [.handle], laidTests := true, laidLooks := .later }
def TopBankUptoCardSaid : Prop := Claim7.holds Tryz.pinned (.plain (OpenSpec.upto topBankSpec)) topBankUptoCard
end Rows
end Go.Proofs.YtbbnmhmfdbcmhaaGreatDoor
