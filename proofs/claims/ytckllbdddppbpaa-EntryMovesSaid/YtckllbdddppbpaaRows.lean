/-
  No cell of these rows narrows 'for every input' (looked for: loops, veiled, ifaces, maps, wideKeys, modest, calm, conditions, laid).
  DERIVED. THE GIVEN ROWS OF THIS SEAT. 4 by the template 'for every input the law returns true; each argument reads behind the call as it read before'; 0 by the template 'total and deterministic' (their statements: YtckllbdddppbpaaTotals.lean).
  GIVEN WITH THE SEED: the statements are not yours to turn. If you find one false, say at which input.
  Laid BY PROGRAM, IN A SANDBOX (cutbox-rows.mjs): the forced cells as the released guide's own fill.sh prints them over the translation 159d366e9624cac2… (all of the seat's roots in one cut). By AI agents, Wed Nov 11 2026. No macro, syntax, notation, axiom, sorry.
-/
import Derived.Test.YtckllbdddppbpaaChecked
import GoSem.Claim
import GoSem.ClaimJoined
import GoSem.ClaimMapViews
import Derived.JoinedTies
import Derived.KernelRfl
namespace Go.Proofs.Ytckllbdddppbpaa
/- THE CELL 'sum', in the pinned program and in every row, IS THE sha256 OF THE DUMP (.gsa) THAT YtckllbdddppbpaaProg.lean LOADS. Nothing in Lean hashes anything: it is a label: what it is worth is what the hold of that sum in a sandbox is worth. -/
noncomputable def Try.pinned : Pinned := { name := "ytckllbdddppbpaa", sum := "159d366e9624cac251ce31a20b6446be4eaa3a942af469b24db9bf724378624d", checked := Try.checked }
namespace Rows
def none {H : Type} : Left H := { results := [], args := [] }

/-- 'hawalalaw08.EntryBalanced': WHATEVER THE INPUT: true; the input reads as it did. -/
def entryBalancedSpec : ChangeSpec := { name := "entryBalanced", fn := fun _ => fun
  | [d1, d2, d3, d4, d5] => { results := [.lit (.bool true)], args := [d1, d2, d3, d4, d5] }
  | _ => none }
def entryBalancedRow : OpenClaim := { program := "ytckllbdddppbpaa", sum := "159d366e9624cac251ce31a20b6446be4eaa3a942af469b24db9bf724378624d", func := "hawala/hawalalaw08.EntryBalanced", spec := "entryBalanced", apart := false }
def EntryBalancedSaid : Prop := entryBalancedRow.holds Try.pinned (OpenSpec.ofChange entryBalancedSpec)

/-- ITS FALSE NEIGHBOUR: 'it returns false'. Refute it at one input. -/
def entryBalancedWrong : ChangeSpec := { name := "entryBalanced", fn := fun _ => fun
  | [d1, d2, d3, d4, d5] => { results := [.lit (.bool false)], args := [d1, d2, d3, d4, d5] }
  | _ => none }
def EntryBalancedWrongFalsely : Prop := entryBalancedRow.holds Try.pinned (OpenSpec.ofChange entryBalancedWrong)

/-- 'hawalalaw08.EntryMoves': WHATEVER THE INPUT: true; the input reads as it did. -/
def entryMovesSpec : ChangeSpec := { name := "entryMoves", fn := fun _ => fun
  | [d1, d2, d3, d4] => { results := [.lit (.bool true)], args := [d1, d2, d3, d4] }
  | _ => none }
def entryMovesRow : OpenClaim := { program := "ytckllbdddppbpaa", sum := "159d366e9624cac251ce31a20b6446be4eaa3a942af469b24db9bf724378624d", func := "hawala/hawalalaw08.EntryMoves", spec := "entryMoves", apart := false }
def EntryMovesSaid : Prop := entryMovesRow.holds Try.pinned (OpenSpec.ofChange entryMovesSpec)

/-- ITS FALSE NEIGHBOUR: 'it returns false'. Refute it at one input. -/
def entryMovesWrong : ChangeSpec := { name := "entryMoves", fn := fun _ => fun
  | [d1, d2, d3, d4] => { results := [.lit (.bool false)], args := [d1, d2, d3, d4] }
  | _ => none }
def EntryMovesWrongFalsely : Prop := entryMovesRow.holds Try.pinned (OpenSpec.ofChange entryMovesWrong)

/-- 'hawalalaw08.EntryHouse': WHATEVER THE INPUT: true; the input reads as it did. -/
def entryHouseSpec : ChangeSpec := { name := "entryHouse", fn := fun _ => fun
  | [d1, d2, d3, d4] => { results := [.lit (.bool true)], args := [d1, d2, d3, d4] }
  | _ => none }
def entryHouseRow : OpenClaim := { program := "ytckllbdddppbpaa", sum := "159d366e9624cac251ce31a20b6446be4eaa3a942af469b24db9bf724378624d", func := "hawala/hawalalaw08.EntryHouse", spec := "entryHouse", apart := false }
def EntryHouseSaid : Prop := entryHouseRow.holds Try.pinned (OpenSpec.ofChange entryHouseSpec)

/-- ITS FALSE NEIGHBOUR: 'it returns false'. Refute it at one input. -/
def entryHouseWrong : ChangeSpec := { name := "entryHouse", fn := fun _ => fun
  | [d1, d2, d3, d4] => { results := [.lit (.bool false)], args := [d1, d2, d3, d4] }
  | _ => none }
def EntryHouseWrongFalsely : Prop := entryHouseRow.holds Try.pinned (OpenSpec.ofChange entryHouseWrong)

/-- 'hawalalaw08.EntryBack': WHATEVER THE INPUT: true; the input reads as it did. -/
def entryBackSpec : ChangeSpec := { name := "entryBack", fn := fun _ => fun
  | [d1, d2, d3] => { results := [.lit (.bool true)], args := [d1, d2, d3] }
  | _ => none }
def entryBackRow : OpenClaim := { program := "ytckllbdddppbpaa", sum := "159d366e9624cac251ce31a20b6446be4eaa3a942af469b24db9bf724378624d", func := "hawala/hawalalaw08.EntryBack", spec := "entryBack", apart := false }
def EntryBackSaid : Prop := entryBackRow.holds Try.pinned (OpenSpec.ofChange entryBackSpec)

/-- ITS FALSE NEIGHBOUR: 'it returns false'. Refute it at one input. -/
def entryBackWrong : ChangeSpec := { name := "entryBack", fn := fun _ => fun
  | [d1, d2, d3] => { results := [.lit (.bool false)], args := [d1, d2, d3] }
  | _ => none }
def EntryBackWrongFalsely : Prop := entryBackRow.holds Try.pinned (OpenSpec.ofChange entryBackWrong)

/- THE SECOND FORM. 'bulk': how many values and letters a reading holds, each counted each time it is reached (what is shared counts as often as it is met; a slice's spare places count too). A statement '..UptoSaid' is the law's where the arguments, and the package variables that the reading takes, are together of bulk at most 1048576: NARROWER than '..Said'. Prove '..Said' where nothing that the law and all that it calls make is longer than what came in: it says more and counts as full. Else prove '..UptoSaid'. A law counts once. -/
mutual
def uptoBulk {H : Type} : DataW H → Nat
  | .lit (.string bytes) => bytes.length + 1
  | .lit _ => 1
  | .nil => 1
  | .ptr d => uptoBulk d + 1
  | .slice elems spare => uptoBulkAll elems + uptoBulkAll spare + 1
  | .agg parts => uptoBulkAll parts + 1
  | .iface _ d => uptoBulk d + 1
  | .map entries => uptoBulkEntries entries + 1
  | .held _ => 1
def uptoBulkAll {H : Type} : List (DataW H) → Nat
  | [] => 0
  | d :: r => uptoBulk d + uptoBulkAll r
def uptoBulkEntries {H : Type} : List (Lit × DataW H) → Nat
  | [] => 0
  | x :: r => uptoBulkEntry x + uptoBulkEntries r
def uptoBulkEntry {H : Type} : Lit × DataW H → Nat
  | (.string bytes, d) => bytes.length + uptoBulk d + 1
  | (_, d) => uptoBulk d + 1
 end
def uptoSmall : (H : Type) → List (DataW H) → Bool := fun _ ds => decide (uptoBulkAll ds ≤ 1048576)
def OpenSpec.upto (s : _root_.Go.ChangeSpec) : _root_.Go.OpenSpec := { _root_.Go.OpenSpec.ofChange s with cond := some uptoSmall }

/-- 'hawalalaw08.EntryBalanced', WHERE WHAT IT READS IS OF BULK AT MOST 1048576: true; the input reads as it did. -/
def entryBalancedUptoRow : OpenClaim := { program := "ytckllbdddppbpaa", sum := "159d366e9624cac251ce31a20b6446be4eaa3a942af469b24db9bf724378624d", func := "hawala/hawalalaw08.EntryBalanced", spec := "entryBalanced", apart := false, narrowed := true }
def EntryBalancedUptoSaid : Prop := entryBalancedUptoRow.holds Try.pinned (OpenSpec.upto entryBalancedSpec)

/-- 'hawalalaw08.EntryMoves', WHERE WHAT IT READS IS OF BULK AT MOST 1048576: true; the input reads as it did. -/
def entryMovesUptoRow : OpenClaim := { program := "ytckllbdddppbpaa", sum := "159d366e9624cac251ce31a20b6446be4eaa3a942af469b24db9bf724378624d", func := "hawala/hawalalaw08.EntryMoves", spec := "entryMoves", apart := false, narrowed := true }
def EntryMovesUptoSaid : Prop := entryMovesUptoRow.holds Try.pinned (OpenSpec.upto entryMovesSpec)

/-- 'hawalalaw08.EntryHouse', WHERE WHAT IT READS IS OF BULK AT MOST 1048576: true; the input reads as it did. -/
def entryHouseUptoRow : OpenClaim := { program := "ytckllbdddppbpaa", sum := "159d366e9624cac251ce31a20b6446be4eaa3a942af469b24db9bf724378624d", func := "hawala/hawalalaw08.EntryHouse", spec := "entryHouse", apart := false, narrowed := true }
def EntryHouseUptoSaid : Prop := entryHouseUptoRow.holds Try.pinned (OpenSpec.upto entryHouseSpec)

/-- 'hawalalaw08.EntryBack', WHERE WHAT IT READS IS OF BULK AT MOST 1048576: true; the input reads as it did. -/
def entryBackUptoRow : OpenClaim := { program := "ytckllbdddppbpaa", sum := "159d366e9624cac251ce31a20b6446be4eaa3a942af469b24db9bf724378624d", func := "hawala/hawalalaw08.EntryBack", spec := "entryBack", apart := false, narrowed := true }
def EntryBackUptoSaid : Prop := entryBackUptoRow.holds Try.pinned (OpenSpec.upto entryBackSpec)

end Rows
end Go.Proofs.Ytckllbdddppbpaa
