/-
  DERIVED. GIVEN WITH THE SEED: THE CARDS: each row of YtdkpbikegheieaaDoorRows.lean that lists a variable, with what it lists TIED to the program's text (the seventh form; the later family's looks); each row that meets fmt, with fmt's text TOLD by the authors' own Lean function (tested against real Go, not proved from fmt's source: count such statements apart). THE CARD IS WHAT COUNTS. Prove the row's statement (the work); the ties are given (YtdkpbikegheieaaDoorTie.lean); close each card by the builder's one call (the guide's Derived/Test/ToyasCard.lean, 'card_holds'). Laid BY PROGRAM, IN A SANDBOX (cutbox-door.mjs). By AI agents, Wed Nov 11 2026. No macro, syntax, notation, axiom, sorry.
-/
import Derived.Test.YtdkpbikegheieaaDoorRows
import GoSem.ClaimSeven
namespace Go.Proofs.YtdkpbikegheieaaDoor
namespace Rows

/-- THE TIED CARD OF 'hawalalaw12.PaymentDo'. -/
def paymentDoCard : Claim7 := { stood := { row := paymentDoRow, standIns := [], harness := (true, "8d0aff01b121a337730f05cd3cd677213700218a60a385bda45d0ffe6ed5cf29"), looks := true }, kinds := [], alts := [], laidByText := true, laidKinds := [.handle], laidTests := true, laidLooks := .later }
def PaymentDoCardSaid : Prop := Claim7.holds Tryd.pinned (.plain (OpenSpec.ofChange paymentDoSpec)) paymentDoCard

/-- THE TIED CARD OF 'hawalalaw12.PaymentParts'. -/
def paymentPartsCard : Claim7 := { stood := { row := paymentPartsRow, standIns := [], harness := (true, "8d0aff01b121a337730f05cd3cd677213700218a60a385bda45d0ffe6ed5cf29"), looks := true }, kinds := [], alts := [], laidByText := true, laidKinds := [.handle], laidTests := true, laidLooks := .later }
def PaymentPartsCardSaid : Prop := Claim7.holds Tryd.pinned (.plain (OpenSpec.ofChange paymentPartsSpec)) paymentPartsCard

/-- THE TIED CARD OF 'hawalalaw12.PaymentAny'. -/
def paymentAnyCard : Claim7 := { stood := { row := paymentAnyRow, standIns := [], harness := (true, "8d0aff01b121a337730f05cd3cd677213700218a60a385bda45d0ffe6ed5cf29"), looks := true }, kinds := [], alts := [], laidByText := true, laidKinds := [.handle], laidTests := true, laidLooks := .later }
def PaymentAnyCardSaid : Prop := Claim7.holds Tryd.pinned (.plain (OpenSpec.ofChange paymentAnySpec)) paymentAnyCard

/-- THE TIED CARD OF 'hawalalaw12.PaymentVoid'. -/
def paymentVoidCard : Claim7 := { stood := { row := paymentVoidRow, standIns := [], harness := (true, "8d0aff01b121a337730f05cd3cd677213700218a60a385bda45d0ffe6ed5cf29"), looks := true }, kinds := [], alts := [], laidByText := true, laidKinds := [.handle], laidTests := true, laidLooks := .later }
def PaymentVoidCardSaid : Prop := Claim7.holds Tryd.pinned (.plain (OpenSpec.ofChange paymentVoidSpec)) paymentVoidCard

/-- THE TIED CARD OF 'hawalalaw12.PaymentRight'. -/
def paymentRightCard : Claim7 := { stood := { row := paymentRightRow, standIns := [], harness := (true, "8d0aff01b121a337730f05cd3cd677213700218a60a385bda45d0ffe6ed5cf29"), looks := true }, kinds := [], alts := [], laidByText := true, laidKinds := [.handle], laidTests := true, laidLooks := .later }
def PaymentRightCardSaid : Prop := Claim7.holds Tryd.pinned (.plain (OpenSpec.ofChange paymentRightSpec)) paymentRightCard

/-- THE TIED CARD OF 'hawalalaw12.PaymentStays'. -/
def paymentStaysCard : Claim7 := { stood := { row := paymentStaysRow, standIns := [], harness := (true, "8d0aff01b121a337730f05cd3cd677213700218a60a385bda45d0ffe6ed5cf29"), looks := true }, kinds := [], alts := [], laidByText := true, laidKinds := [.handle], laidTests := true, laidLooks := .later }
def PaymentStaysCardSaid : Prop := Claim7.holds Tryd.pinned (.plain (OpenSpec.ofChange paymentStaysSpec)) paymentStaysCard

/-- THE SECOND FORM's CARD OF 'hawalalaw12.PaymentDo'. -/
def paymentDoUptoCard : Claim7 := { stood := { row := paymentDoUptoRow, standIns := [], harness := (true, "8d0aff01b121a337730f05cd3cd677213700218a60a385bda45d0ffe6ed5cf29"), looks := true }, kinds := [], alts := [], laidByText := true, laidKinds := [.handle], laidTests := true, laidLooks := .later }
def PaymentDoUptoCardSaid : Prop := Claim7.holds Tryd.pinned (.plain (OpenSpec.upto paymentDoSpec)) paymentDoUptoCard

/-- THE SECOND FORM's CARD OF 'hawalalaw12.PaymentParts'. -/
def paymentPartsUptoCard : Claim7 := { stood := { row := paymentPartsUptoRow, standIns := [], harness := (true, "8d0aff01b121a337730f05cd3cd677213700218a60a385bda45d0ffe6ed5cf29"), looks := true }, kinds := [], alts := [], laidByText := true, laidKinds := [.handle], laidTests := true, laidLooks := .later }
def PaymentPartsUptoCardSaid : Prop := Claim7.holds Tryd.pinned (.plain (OpenSpec.upto paymentPartsSpec)) paymentPartsUptoCard

/-- THE SECOND FORM's CARD OF 'hawalalaw12.PaymentAny'. -/
def paymentAnyUptoCard : Claim7 := { stood := { row := paymentAnyUptoRow, standIns := [], harness := (true, "8d0aff01b121a337730f05cd3cd677213700218a60a385bda45d0ffe6ed5cf29"), looks := true }, kinds := [], alts := [], laidByText := true, laidKinds := [.handle], laidTests := true, laidLooks := .later }
def PaymentAnyUptoCardSaid : Prop := Claim7.holds Tryd.pinned (.plain (OpenSpec.upto paymentAnySpec)) paymentAnyUptoCard

/-- THE SECOND FORM's CARD OF 'hawalalaw12.PaymentVoid'. -/
def paymentVoidUptoCard : Claim7 := { stood := { row := paymentVoidUptoRow, standIns := [], harness := (true, "8d0aff01b121a337730f05cd3cd677213700218a60a385bda45d0ffe6ed5cf29"), looks := true }, kinds := [], alts := [], laidByText := true, laidKinds := [.handle], laidTests := true, laidLooks := .later }
def PaymentVoidUptoCardSaid : Prop := Claim7.holds Tryd.pinned (.plain (OpenSpec.upto paymentVoidSpec)) paymentVoidUptoCard

/-- THE SECOND FORM's CARD OF 'hawalalaw12.PaymentRight'. -/
def paymentRightUptoCard : Claim7 := { stood := { row := paymentRightUptoRow, standIns := [], harness := (true, "8d0aff01b121a337730f05cd3cd677213700218a60a385bda45d0ffe6ed5cf29"), looks := true }, kinds := [], alts := [], laidByText := true, laidKinds := [.handle], laidTests := true, laidLooks := .later }
def PaymentRightUptoCardSaid : Prop := Claim7.holds Tryd.pinned (.plain (OpenSpec.upto paymentRightSpec)) paymentRightUptoCard

/-- THE SECOND FORM's CARD OF 'hawalalaw12.PaymentStays'. -/
def paymentStaysUptoCard : Claim7 := { stood := { row := paymentStaysUptoRow, standIns := [], harness := (true, "8d0aff01b121a337730f05cd3cd677213700218a60a385bda45d0ffe6ed5cf29"), looks := true }, kinds := [], alts := [], laidByText := true, laidKinds := [.handle], laidTests := true, laidLooks := .later }
def PaymentStaysUptoCardSaid : Prop := Claim7.holds Tryd.pinned (.plain (OpenSpec.upto paymentStaysSpec)) paymentStaysUptoCard
end Rows
end Go.Proofs.YtdkpbikegheieaaDoor
