/-
  No cell of these rows narrows 'for every input' (looked for: loops, veiled, ifaces, maps, wideKeys, modest, calm, conditions, laid).
  DERIVED. THE GIVEN ROWS OF THIS SEAT. 5 by the template 'for every input the law returns true; each argument reads behind the call as it read before'; 0 by the template 'total and deterministic' (their statements: YtfbbcdkbgnmmcaaTotals.lean).
  GIVEN WITH THE SEED: the statements are not yours to turn. If you find one false, say at which input.
  Laid BY PROGRAM, IN A SANDBOX (cutbox-rows.mjs): the forced cells as the released guide's own fill.sh prints them over the translation 38512b04ac4b1202… (all of the seat's roots in one cut). By AI agents, Wed Nov 11 2026. No macro, syntax, notation, axiom, sorry.
-/
import Derived.Test.YtfbbcdkbgnmmcaaChecked
import GoSem.Claim
import GoSem.ClaimJoined
import GoSem.ClaimMapViews
import Derived.JoinedTies
import Derived.KernelRfl
namespace Go.Proofs.Ytfbbcdkbgnmmcaa
/- THE CELL 'sum', in the pinned program and in every row, IS THE sha256 OF THE DUMP (.gsa) THAT YtfbbcdkbgnmmcaaProg.lean LOADS. Nothing in Lean hashes anything: it is a label: what it is worth is what the hold of that sum in a sandbox is worth. -/
noncomputable def Try.pinned : Pinned := { name := "ytfbbcdkbgnmmcaa", sum := "38512b04ac4b1202ead564a6287638632e6931c1b25d1a34147a17f1b6ac30dc", checked := Try.checked }
namespace Rows
def none {H : Type} : Left H := { results := [], args := [] }

/-- 'hawalalaw02.VarintTwo': WHATEVER THE INPUT: true; the input reads as it did. -/
def varintTwoSpec : ChangeSpec := { name := "varintTwo", fn := fun _ => fun
  | [d1, d2] => { results := [.lit (.bool true)], args := [d1, d2] }
  | _ => none }
def varintTwoRow : OpenClaim := { program := "ytfbbcdkbgnmmcaa", sum := "38512b04ac4b1202ead564a6287638632e6931c1b25d1a34147a17f1b6ac30dc", func := "hawala/hawalalaw02.VarintTwo", spec := "varintTwo", apart := false }
def VarintTwoSaid : Prop := varintTwoRow.holds Try.pinned (OpenSpec.ofChange varintTwoSpec)

/-- ITS FALSE NEIGHBOUR: 'it returns false'. Refute it at one input. -/
def varintTwoWrong : ChangeSpec := { name := "varintTwo", fn := fun _ => fun
  | [d1, d2] => { results := [.lit (.bool false)], args := [d1, d2] }
  | _ => none }
def VarintTwoWrongFalsely : Prop := varintTwoRow.holds Try.pinned (OpenSpec.ofChange varintTwoWrong)

/-- 'hawalalaw02.VarintPut': WHATEVER THE INPUT: true; the input reads as it did. -/
def varintPutSpec : ChangeSpec := { name := "varintPut", fn := fun _ => fun
  | [d1, d2] => { results := [.lit (.bool true)], args := [d1, d2] }
  | _ => none }
def varintPutRow : OpenClaim := { program := "ytfbbcdkbgnmmcaa", sum := "38512b04ac4b1202ead564a6287638632e6931c1b25d1a34147a17f1b6ac30dc", func := "hawala/hawalalaw02.VarintPut", spec := "varintPut", apart := false }
def VarintPutSaid : Prop := varintPutRow.holds Try.pinned (OpenSpec.ofChange varintPutSpec)

/-- ITS FALSE NEIGHBOUR: 'it returns false'. Refute it at one input. -/
def varintPutWrong : ChangeSpec := { name := "varintPut", fn := fun _ => fun
  | [d1, d2] => { results := [.lit (.bool false)], args := [d1, d2] }
  | _ => none }
def VarintPutWrongFalsely : Prop := varintPutRow.holds Try.pinned (OpenSpec.ofChange varintPutWrong)

/-- 'hawalalaw02.VarintGet': WHATEVER THE INPUT: true; the input reads as it did. -/
def varintGetSpec : ChangeSpec := { name := "varintGet", fn := fun _ => fun
  | [d] => { results := [.lit (.bool true)], args := [d] }
  | _ => none }
def varintGetRow : OpenClaim := { program := "ytfbbcdkbgnmmcaa", sum := "38512b04ac4b1202ead564a6287638632e6931c1b25d1a34147a17f1b6ac30dc", func := "hawala/hawalalaw02.VarintGet", spec := "varintGet", apart := false }
def VarintGetSaid : Prop := varintGetRow.holds Try.pinned (OpenSpec.ofChange varintGetSpec)

/-- ITS FALSE NEIGHBOUR: 'it returns false'. Refute it at one input. -/
def varintGetWrong : ChangeSpec := { name := "varintGet", fn := fun _ => fun
  | [d] => { results := [.lit (.bool false)], args := [d] }
  | _ => none }
def VarintGetWrongFalsely : Prop := varintGetRow.holds Try.pinned (OpenSpec.ofChange varintGetWrong)

/-- 'hawalalaw02.VarintSmall': WHATEVER THE INPUT: true; the input reads as it did. -/
def varintSmallSpec : ChangeSpec := { name := "varintSmall", fn := fun _ => fun
  | [d1, d2] => { results := [.lit (.bool true)], args := [d1, d2] }
  | _ => none }
def varintSmallRow : OpenClaim := { program := "ytfbbcdkbgnmmcaa", sum := "38512b04ac4b1202ead564a6287638632e6931c1b25d1a34147a17f1b6ac30dc", func := "hawala/hawalalaw02.VarintSmall", spec := "varintSmall", apart := false }
def VarintSmallSaid : Prop := varintSmallRow.holds Try.pinned (OpenSpec.ofChange varintSmallSpec)

/-- ITS FALSE NEIGHBOUR: 'it returns false'. Refute it at one input. -/
def varintSmallWrong : ChangeSpec := { name := "varintSmall", fn := fun _ => fun
  | [d1, d2] => { results := [.lit (.bool false)], args := [d1, d2] }
  | _ => none }
def VarintSmallWrongFalsely : Prop := varintSmallRow.holds Try.pinned (OpenSpec.ofChange varintSmallWrong)

/-- 'hawalalaw02.VarintTake': WHATEVER THE INPUT: true; the input reads as it did. -/
def varintTakeSpec : ChangeSpec := { name := "varintTake", fn := fun _ => fun
  | [d1, d2, d3] => { results := [.lit (.bool true)], args := [d1, d2, d3] }
  | _ => none }
def varintTakeRow : OpenClaim := { program := "ytfbbcdkbgnmmcaa", sum := "38512b04ac4b1202ead564a6287638632e6931c1b25d1a34147a17f1b6ac30dc", func := "hawala/hawalalaw02.VarintTake", spec := "varintTake", apart := false }
def VarintTakeSaid : Prop := varintTakeRow.holds Try.pinned (OpenSpec.ofChange varintTakeSpec)

/-- ITS FALSE NEIGHBOUR: 'it returns false'. Refute it at one input. -/
def varintTakeWrong : ChangeSpec := { name := "varintTake", fn := fun _ => fun
  | [d1, d2, d3] => { results := [.lit (.bool false)], args := [d1, d2, d3] }
  | _ => none }
def VarintTakeWrongFalsely : Prop := varintTakeRow.holds Try.pinned (OpenSpec.ofChange varintTakeWrong)

/- THE SECOND FORM. 'bulk': how many values and letters a reading holds, each counted each time it is reached (what is shared counts as often as it is met; a slice's spare places count too). A statement '..UptoSaid' is the law's where the arguments, and the package variables that the reading takes, are together of bulk at most 1048576: NARROWER than '..Said'. Prove '..Said' where nothing that the law and all that it calls make is longer than what came in: it says more and counts as full. Else prove '..UptoSaid'. A law counts once. -/
mutual
def uptoBulk {H : Type} : DataW H → Nat
  | .lit (.string bytes) => bytes.length + 1
  | .lit _ => 1
  | .nil => 1
  | .ptr d => uptoBulk d + 1
  | .slice elems spare => uptoBulkAll elems + uptoBulkAll spare + 1
  | .agg parts => uptoBulkAll parts + 1
  | .iface _ d => uptoBulk d + 1
  | .map entries => uptoBulkEntries entries + 1
  | .held _ => 1
def uptoBulkAll {H : Type} : List (DataW H) → Nat
  | [] => 0
  | d :: r => uptoBulk d + uptoBulkAll r
def uptoBulkEntries {H : Type} : List (Lit × DataW H) → Nat
  | [] => 0
  | x :: r => uptoBulkEntry x + uptoBulkEntries r
def uptoBulkEntry {H : Type} : Lit × DataW H → Nat
  | (.string bytes, d) => bytes.length + uptoBulk d + 1
  | (_, d) => uptoBulk d + 1
 end
def uptoSmall : (H : Type) → List (DataW H) → Bool := fun _ ds => decide (uptoBulkAll ds ≤ 1048576)
def OpenSpec.upto (s : _root_.Go.ChangeSpec) : _root_.Go.OpenSpec := { _root_.Go.OpenSpec.ofChange s with cond := some uptoSmall }

/-- 'hawalalaw02.VarintTwo', WHERE WHAT IT READS IS OF BULK AT MOST 1048576: true; the input reads as it did. -/
def varintTwoUptoRow : OpenClaim := { program := "ytfbbcdkbgnmmcaa", sum := "38512b04ac4b1202ead564a6287638632e6931c1b25d1a34147a17f1b6ac30dc", func := "hawala/hawalalaw02.VarintTwo", spec := "varintTwo", apart := false, narrowed := true }
def VarintTwoUptoSaid : Prop := varintTwoUptoRow.holds Try.pinned (OpenSpec.upto varintTwoSpec)

/-- 'hawalalaw02.VarintPut', WHERE WHAT IT READS IS OF BULK AT MOST 1048576: true; the input reads as it did. -/
def varintPutUptoRow : OpenClaim := { program := "ytfbbcdkbgnmmcaa", sum := "38512b04ac4b1202ead564a6287638632e6931c1b25d1a34147a17f1b6ac30dc", func := "hawala/hawalalaw02.VarintPut", spec := "varintPut", apart := false, narrowed := true }
def VarintPutUptoSaid : Prop := varintPutUptoRow.holds Try.pinned (OpenSpec.upto varintPutSpec)

/-- 'hawalalaw02.VarintGet', WHERE WHAT IT READS IS OF BULK AT MOST 1048576: true; the input reads as it did. -/
def varintGetUptoRow : OpenClaim := { program := "ytfbbcdkbgnmmcaa", sum := "38512b04ac4b1202ead564a6287638632e6931c1b25d1a34147a17f1b6ac30dc", func := "hawala/hawalalaw02.VarintGet", spec := "varintGet", apart := false, narrowed := true }
def VarintGetUptoSaid : Prop := varintGetUptoRow.holds Try.pinned (OpenSpec.upto varintGetSpec)

/-- 'hawalalaw02.VarintSmall', WHERE WHAT IT READS IS OF BULK AT MOST 1048576: true; the input reads as it did. -/
def varintSmallUptoRow : OpenClaim := { program := "ytfbbcdkbgnmmcaa", sum := "38512b04ac4b1202ead564a6287638632e6931c1b25d1a34147a17f1b6ac30dc", func := "hawala/hawalalaw02.VarintSmall", spec := "varintSmall", apart := false, narrowed := true }
def VarintSmallUptoSaid : Prop := varintSmallUptoRow.holds Try.pinned (OpenSpec.upto varintSmallSpec)

/-- 'hawalalaw02.VarintTake', WHERE WHAT IT READS IS OF BULK AT MOST 1048576: true; the input reads as it did. -/
def varintTakeUptoRow : OpenClaim := { program := "ytfbbcdkbgnmmcaa", sum := "38512b04ac4b1202ead564a6287638632e6931c1b25d1a34147a17f1b6ac30dc", func := "hawala/hawalalaw02.VarintTake", spec := "varintTake", apart := false, narrowed := true }
def VarintTakeUptoSaid : Prop := varintTakeUptoRow.holds Try.pinned (OpenSpec.upto varintTakeSpec)

end Rows
end Go.Proofs.Ytfbbcdkbgnmmcaa
