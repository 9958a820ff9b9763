/-
  DERIVED. GIVEN WITH THE SEED: THE CARDS: each row of YtbgofpibjdgohaaDoorRows.lean that lists a variable, with what it lists TIED to the program's text (the seventh form; the later family's looks); each row that meets fmt, with fmt's text TOLD by the authors' own Lean function (tested against real Go, not proved from fmt's source: count such statements apart). THE CARD IS WHAT COUNTS. Prove the row's statement (the work); the ties are given (YtbgofpibjdgohaaDoorTie.lean); close each card by the builder's one call (the guide's Derived/Test/ToyasCard.lean, 'card_holds'). Laid BY PROGRAM, IN A SANDBOX (cutbox-door.mjs). By AI agents, Wed Nov 11 2026. No macro, syntax, notation, axiom, sorry.
-/
import Derived.Test.YtbgofpibjdgohaaDoorRows
import GoSem.ClaimSeven
namespace Go.Proofs.YtbgofpibjdgohaaDoor
namespace Rows

/-- THE TIED CARD OF 'hawalalaw01.MoneyAdd'. -/
def moneyAddCard : Claim7 := { stood := { row := moneyAddRow, standIns := [], harness := (true, "75376a77bffb09fe9f1ac2e97d16c83829aaae3110c2a5964802417731e425cd"), looks := true }, kinds := [], alts := [], laidByText := true, laidKinds := [.handle], laidTests := true, laidLooks := .later }
def MoneyAddCardSaid : Prop := Claim7.holds Tryd.pinned (.plain (OpenSpec.ofChange moneyAddSpec)) moneyAddCard

/-- THE TIED CARD OF 'hawalalaw01.MoneyConvert'. -/
def moneyConvertCard : Claim7 := { stood := { row := moneyConvertRow, standIns := [], harness := (true, "75376a77bffb09fe9f1ac2e97d16c83829aaae3110c2a5964802417731e425cd"), looks := true }, kinds := [], alts := [], laidByText := true, laidKinds := [.handle], laidTests := true, laidLooks := .later }
def MoneyConvertCardSaid : Prop := Claim7.holds Tryd.pinned (.plain (OpenSpec.ofChange moneyConvertSpec)) moneyConvertCard

/-- THE TIED CARD OF 'hawalalaw01.MoneyRound'. -/
def moneyRoundCard : Claim7 := { stood := { row := moneyRoundRow, standIns := [], harness := (true, "75376a77bffb09fe9f1ac2e97d16c83829aaae3110c2a5964802417731e425cd"), looks := true }, kinds := [], alts := [], laidByText := true, laidKinds := [.handle], laidTests := true, laidLooks := .later }
def MoneyRoundCardSaid : Prop := Claim7.holds Tryd.pinned (.plain (OpenSpec.ofChange moneyRoundSpec)) moneyRoundCard

/-- THE TIED CARD OF 'hawalalaw01.MoneyRates'. -/
def moneyRatesCard : Claim7 := { stood := { row := moneyRatesRow, standIns := [], harness := (true, "75376a77bffb09fe9f1ac2e97d16c83829aaae3110c2a5964802417731e425cd"), looks := true }, kinds := [], alts := [], laidByText := true, laidKinds := [.handle], laidTests := true, laidLooks := .later }
def MoneyRatesCardSaid : Prop := Claim7.holds Tryd.pinned (.plain (OpenSpec.ofChange moneyRatesSpec)) moneyRatesCard

/-- THE TIED CARD OF 'hawalalaw01.MoneyParts'. -/
def moneyPartsCard : Claim7 := { stood := { row := moneyPartsRow, standIns := [], harness := (true, "75376a77bffb09fe9f1ac2e97d16c83829aaae3110c2a5964802417731e425cd"), looks := true }, kinds := [], alts := [], laidByText := true, laidKinds := [.handle], laidTests := true, laidLooks := .later }
def MoneyPartsCardSaid : Prop := Claim7.holds Tryd.pinned (.plain (OpenSpec.ofChange moneyPartsSpec)) moneyPartsCard

/-- THE TIED CARD OF 'hawalalaw01.MoneySum'. -/
def moneySumCard : Claim7 := { stood := { row := moneySumRow, standIns := [], harness := (true, "75376a77bffb09fe9f1ac2e97d16c83829aaae3110c2a5964802417731e425cd"), looks := true }, kinds := [], alts := [], laidByText := true, laidKinds := [.handle], laidTests := true, laidLooks := .later }
def MoneySumCardSaid : Prop := Claim7.holds Tryd.pinned (.plain (OpenSpec.ofChange moneySumSpec)) moneySumCard

/-- THE SECOND FORM's CARD OF 'hawalalaw01.MoneyAdd'. -/
def moneyAddUptoCard : Claim7 := { stood := { row := moneyAddUptoRow, standIns := [], harness := (true, "75376a77bffb09fe9f1ac2e97d16c83829aaae3110c2a5964802417731e425cd"), looks := true }, kinds := [], alts := [], laidByText := true, laidKinds := [.handle], laidTests := true, laidLooks := .later }
def MoneyAddUptoCardSaid : Prop := Claim7.holds Tryd.pinned (.plain (OpenSpec.upto moneyAddSpec)) moneyAddUptoCard

/-- THE SECOND FORM's CARD OF 'hawalalaw01.MoneyConvert'. -/
def moneyConvertUptoCard : Claim7 := { stood := { row := moneyConvertUptoRow, standIns := [], harness := (true, "75376a77bffb09fe9f1ac2e97d16c83829aaae3110c2a5964802417731e425cd"), looks := true }, kinds := [], alts := [], laidByText := true, laidKinds := [.handle], laidTests := true, laidLooks := .later }
def MoneyConvertUptoCardSaid : Prop := Claim7.holds Tryd.pinned (.plain (OpenSpec.upto moneyConvertSpec)) moneyConvertUptoCard

/-- THE SECOND FORM's CARD OF 'hawalalaw01.MoneyRound'. -/
def moneyRoundUptoCard : Claim7 := { stood := { row := moneyRoundUptoRow, standIns := [], harness := (true, "75376a77bffb09fe9f1ac2e97d16c83829aaae3110c2a5964802417731e425cd"), looks := true }, kinds := [], alts := [], laidByText := true, laidKinds := [.handle], laidTests := true, laidLooks := .later }
def MoneyRoundUptoCardSaid : Prop := Claim7.holds Tryd.pinned (.plain (OpenSpec.upto moneyRoundSpec)) moneyRoundUptoCard

/-- THE SECOND FORM's CARD OF 'hawalalaw01.MoneyRates'. -/
def moneyRatesUptoCard : Claim7 := { stood := { row := moneyRatesUptoRow, standIns := [], harness := (true, "75376a77bffb09fe9f1ac2e97d16c83829aaae3110c2a5964802417731e425cd"), looks := true }, kinds := [], alts := [], laidByText := true, laidKinds := [.handle], laidTests := true, laidLooks := .later }
def MoneyRatesUptoCardSaid : Prop := Claim7.holds Tryd.pinned (.plain (OpenSpec.upto moneyRatesSpec)) moneyRatesUptoCard

/-- THE SECOND FORM's CARD OF 'hawalalaw01.MoneyParts'. -/
def moneyPartsUptoCard : Claim7 := { stood := { row := moneyPartsUptoRow, standIns := [], harness := (true, "75376a77bffb09fe9f1ac2e97d16c83829aaae3110c2a5964802417731e425cd"), looks := true }, kinds := [], alts := [], laidByText := true, laidKinds := [.handle], laidTests := true, laidLooks := .later }
def MoneyPartsUptoCardSaid : Prop := Claim7.holds Tryd.pinned (.plain (OpenSpec.upto moneyPartsSpec)) moneyPartsUptoCard

/-- THE SECOND FORM's CARD OF 'hawalalaw01.MoneySum'. -/
def moneySumUptoCard : Claim7 := { stood := { row := moneySumUptoRow, standIns := [], harness := (true, "75376a77bffb09fe9f1ac2e97d16c83829aaae3110c2a5964802417731e425cd"), looks := true }, kinds := [], alts := [], laidByText := true, laidKinds := [.handle], laidTests := true, laidLooks := .later }
def MoneySumUptoCardSaid : Prop := Claim7.holds Tryd.pinned (.plain (OpenSpec.upto moneySumSpec)) moneySumUptoCard
end Rows
end Go.Proofs.YtbgofpibjdgohaaDoor
