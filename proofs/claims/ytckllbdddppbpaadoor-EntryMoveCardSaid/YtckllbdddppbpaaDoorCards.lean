/-
  DERIVED. GIVEN WITH THE SEED: THE CARDS: each row of YtckllbdddppbpaaDoorRows.lean that lists a variable, with what it lists TIED to the program's text (the seventh form; the later family's looks); each row that meets fmt, with fmt's text TOLD by the authors' own Lean function (tested against real Go, not proved from fmt's source: count such statements apart). THE CARD IS WHAT COUNTS. Prove the row's statement (the work); the ties are given (YtckllbdddppbpaaDoorTie.lean); close each card by the builder's one call (the guide's Derived/Test/ToyasCard.lean, 'card_holds'). Laid BY PROGRAM, IN A SANDBOX (cutbox-door.mjs). By AI agents, Wed Nov 11 2026. No macro, syntax, notation, axiom, sorry.
-/
import Derived.Test.YtckllbdddppbpaaDoorRows
import GoSem.ClaimSeven
namespace Go.Proofs.YtckllbdddppbpaaDoor
namespace Rows

/-- THE TIED CARD OF 'hawalalaw08.EntryMove'. -/
def entryMoveCard : Claim7 := { stood := { row := entryMoveRow, standIns := [], harness := (true, "5a14f7cc9d1d600a40d1b6af337a9923317ac881041c68ef0c11301587516787"), looks := true }, kinds := [], alts := [], laidByText := true, laidKinds := [.handle], laidTests := true, laidLooks := .later }
def EntryMoveCardSaid : Prop := Claim7.holds Tryd.pinned (.plain (OpenSpec.ofChange entryMoveSpec)) entryMoveCard

/-- THE SECOND FORM's CARD OF 'hawalalaw08.EntryMove'. -/
def entryMoveUptoCard : Claim7 := { stood := { row := entryMoveUptoRow, standIns := [], harness := (true, "5a14f7cc9d1d600a40d1b6af337a9923317ac881041c68ef0c11301587516787"), looks := true }, kinds := [], alts := [], laidByText := true, laidKinds := [.handle], laidTests := true, laidLooks := .later }
def EntryMoveUptoCardSaid : Prop := Claim7.holds Tryd.pinned (.plain (OpenSpec.upto entryMoveSpec)) entryMoveUptoCard
end Rows
end Go.Proofs.YtckllbdddppbpaaDoor
