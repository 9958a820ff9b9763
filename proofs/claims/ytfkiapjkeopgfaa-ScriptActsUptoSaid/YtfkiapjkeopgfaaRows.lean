/-
  No cell of these rows narrows 'for every input' (looked for: loops, veiled, ifaces, maps, wideKeys, modest, calm, conditions, laid).
  DERIVED. THE GIVEN ROWS OF THIS SEAT. 5 by the template 'for every input the law returns true; each argument reads behind the call as it read before'; 0 by the template 'total and deterministic' (their statements: YtfkiapjkeopgfaaTotals.lean).
  GIVEN WITH THE SEED: the statements are not yours to turn. If you find one false, say at which input.
  Laid BY PROGRAM, IN A SANDBOX (cutbox-rows.mjs): the forced cells as the released guide's own fill.sh prints them over the translation 3aaebea970d602b1… (all of the seat's roots in one cut). By AI agents, Wed Nov 11 2026. No macro, syntax, notation, axiom, sorry.
-/
import Derived.Test.YtfkiapjkeopgfaaChecked
import GoSem.Claim
import GoSem.ClaimJoined
import GoSem.ClaimMapViews
import Derived.JoinedTies
import Derived.KernelRfl
namespace Go.Proofs.Ytfkiapjkeopgfaa
/- THE CELL 'sum', in the pinned program and in every row, IS THE sha256 OF THE DUMP (.gsa) THAT YtfkiapjkeopgfaaProg.lean LOADS. Nothing in Lean hashes anything: it is a label: what it is worth is what the hold of that sum in a sandbox is worth. -/
noncomputable def Try.pinned : Pinned := { name := "ytfkiapjkeopgfaa", sum := "3aaebea970d602b182045fdb87a4b86c9e070d158c5c8ca9d1cf26dfab835553", checked := Try.checked }
namespace Rows
def none {H : Type} : Left H := { results := [], args := [] }

/-- 'hawalalaw23.ScriptActs': WHATEVER THE INPUT: true; the input reads as it did. -/
def scriptActsSpec : ChangeSpec := { name := "scriptActs", fn := fun _ => fun
  | [d] => { results := [.lit (.bool true)], args := [d] }
  | _ => none }
def scriptActsRow : OpenClaim := { program := "ytfkiapjkeopgfaa", sum := "3aaebea970d602b182045fdb87a4b86c9e070d158c5c8ca9d1cf26dfab835553", func := "hawala/hawalalaw23.ScriptActs", spec := "scriptActs", unfollowed := true, recurses := true, apart := false }
def ScriptActsSaid : Prop := scriptActsRow.holds Try.pinned (OpenSpec.ofChange scriptActsSpec)

/-- ITS FALSE NEIGHBOUR: 'it returns false'. Refute it at one input. -/
def scriptActsWrong : ChangeSpec := { name := "scriptActs", fn := fun _ => fun
  | [d] => { results := [.lit (.bool false)], args := [d] }
  | _ => none }
def ScriptActsWrongFalsely : Prop := scriptActsRow.holds Try.pinned (OpenSpec.ofChange scriptActsWrong)

/-- 'hawalalaw23.ScriptParts': WHATEVER THE INPUT: true; the input reads as it did. -/
def scriptPartsSpec : ChangeSpec := { name := "scriptParts", fn := fun _ => fun
  | [d1, d2] => { results := [.lit (.bool true)], args := [d1, d2] }
  | _ => none }
def scriptPartsRow : OpenClaim := { program := "ytfkiapjkeopgfaa", sum := "3aaebea970d602b182045fdb87a4b86c9e070d158c5c8ca9d1cf26dfab835553", func := "hawala/hawalalaw23.ScriptParts", spec := "scriptParts", apart := false }
def ScriptPartsSaid : Prop := scriptPartsRow.holds Try.pinned (OpenSpec.ofChange scriptPartsSpec)

/-- ITS FALSE NEIGHBOUR: 'it returns false'. Refute it at one input. -/
def scriptPartsWrong : ChangeSpec := { name := "scriptParts", fn := fun _ => fun
  | [d1, d2] => { results := [.lit (.bool false)], args := [d1, d2] }
  | _ => none }
def ScriptPartsWrongFalsely : Prop := scriptPartsRow.holds Try.pinned (OpenSpec.ofChange scriptPartsWrong)

/-- 'hawalalaw23.ScriptKinds': WHATEVER THE INPUT: true; the input reads as it did. -/
def scriptKindsSpec : ChangeSpec := { name := "scriptKinds", fn := fun _ => fun
  | [d1, d2] => { results := [.lit (.bool true)], args := [d1, d2] }
  | _ => none }
def scriptKindsRow : OpenClaim := { program := "ytfkiapjkeopgfaa", sum := "3aaebea970d602b182045fdb87a4b86c9e070d158c5c8ca9d1cf26dfab835553", func := "hawala/hawalalaw23.ScriptKinds", spec := "scriptKinds", apart := false }
def ScriptKindsSaid : Prop := scriptKindsRow.holds Try.pinned (OpenSpec.ofChange scriptKindsSpec)

/-- ITS FALSE NEIGHBOUR: 'it returns false'. Refute it at one input. -/
def scriptKindsWrong : ChangeSpec := { name := "scriptKinds", fn := fun _ => fun
  | [d1, d2] => { results := [.lit (.bool false)], args := [d1, d2] }
  | _ => none }
def ScriptKindsWrongFalsely : Prop := scriptKindsRow.holds Try.pinned (OpenSpec.ofChange scriptKindsWrong)

/-- 'hawalalaw23.ScriptTail': WHATEVER THE INPUT: true; the input reads as it did. -/
def scriptTailSpec : ChangeSpec := { name := "scriptTail", fn := fun _ => fun
  | [d1, d2] => { results := [.lit (.bool true)], args := [d1, d2] }
  | _ => none }
def scriptTailRow : OpenClaim := { program := "ytfkiapjkeopgfaa", sum := "3aaebea970d602b182045fdb87a4b86c9e070d158c5c8ca9d1cf26dfab835553", func := "hawala/hawalalaw23.ScriptTail", spec := "scriptTail", apart := false }
def ScriptTailSaid : Prop := scriptTailRow.holds Try.pinned (OpenSpec.ofChange scriptTailSpec)

/-- ITS FALSE NEIGHBOUR: 'it returns false'. Refute it at one input. -/
def scriptTailWrong : ChangeSpec := { name := "scriptTail", fn := fun _ => fun
  | [d1, d2] => { results := [.lit (.bool false)], args := [d1, d2] }
  | _ => none }
def ScriptTailWrongFalsely : Prop := scriptTailRow.holds Try.pinned (OpenSpec.ofChange scriptTailWrong)

/-- 'hawalalaw23.ScriptMay': WHATEVER THE INPUT: true; the input reads as it did. -/
def scriptMaySpec : ChangeSpec := { name := "scriptMay", fn := fun _ => fun
  | [d] => { results := [.lit (.bool true)], args := [d] }
  | _ => none }
def scriptMayRow : OpenClaim := { program := "ytfkiapjkeopgfaa", sum := "3aaebea970d602b182045fdb87a4b86c9e070d158c5c8ca9d1cf26dfab835553", func := "hawala/hawalalaw23.ScriptMay", spec := "scriptMay", apart := false }
def ScriptMaySaid : Prop := scriptMayRow.holds Try.pinned (OpenSpec.ofChange scriptMaySpec)

/-- ITS FALSE NEIGHBOUR: 'it returns false'. Refute it at one input. -/
def scriptMayWrong : ChangeSpec := { name := "scriptMay", fn := fun _ => fun
  | [d] => { results := [.lit (.bool false)], args := [d] }
  | _ => none }
def ScriptMayWrongFalsely : Prop := scriptMayRow.holds Try.pinned (OpenSpec.ofChange scriptMayWrong)

/- THE SECOND FORM. 'bulk': how many values and letters a reading holds, each counted each time it is reached (what is shared counts as often as it is met; a slice's spare places count too). A statement '..UptoSaid' is the law's where the arguments, and the package variables that the reading takes, are together of bulk at most 1048576: NARROWER than '..Said'. Prove '..Said' where nothing that the law and all that it calls make is longer than what came in: it says more and counts as full. Else prove '..UptoSaid'. A law counts once. -/
mutual
def uptoBulk {H : Type} : DataW H → Nat
  | .lit (.string bytes) => bytes.length + 1
  | .lit _ => 1
  | .nil => 1
  | .ptr d => uptoBulk d + 1
  | .slice elems spare => uptoBulkAll elems + uptoBulkAll spare + 1
  | .agg parts => uptoBulkAll parts + 1
  | .iface _ d => uptoBulk d + 1
  | .map entries => uptoBulkEntries entries + 1
  | .held _ => 1
def uptoBulkAll {H : Type} : List (DataW H) → Nat
  | [] => 0
  | d :: r => uptoBulk d + uptoBulkAll r
def uptoBulkEntries {H : Type} : List (Lit × DataW H) → Nat
  | [] => 0
  | x :: r => uptoBulkEntry x + uptoBulkEntries r
def uptoBulkEntry {H : Type} : Lit × DataW H → Nat
  | (.string bytes, d) => bytes.length + uptoBulk d + 1
  | (_, d) => uptoBulk d + 1
 end
def uptoSmall : (H : Type) → List (DataW H) → Bool := fun _ ds => decide (uptoBulkAll ds ≤ 1048576)
def OpenSpec.upto (s : _root_.Go.ChangeSpec) : _root_.Go.OpenSpec := { _root_.Go.OpenSpec.ofChange s with cond := some uptoSmall }

/-- 'hawalalaw23.ScriptActs', WHERE WHAT IT READS IS OF BULK AT MOST 1048576: true; the input reads as it did. -/
def scriptActsUptoRow : OpenClaim := { program := "ytfkiapjkeopgfaa", sum := "3aaebea970d602b182045fdb87a4b86c9e070d158c5c8ca9d1cf26dfab835553", func := "hawala/hawalalaw23.ScriptActs", spec := "scriptActs", unfollowed := true, recurses := true, apart := false, narrowed := true }
def ScriptActsUptoSaid : Prop := scriptActsUptoRow.holds Try.pinned (OpenSpec.upto scriptActsSpec)

/-- 'hawalalaw23.ScriptParts', WHERE WHAT IT READS IS OF BULK AT MOST 1048576: true; the input reads as it did. -/
def scriptPartsUptoRow : OpenClaim := { program := "ytfkiapjkeopgfaa", sum := "3aaebea970d602b182045fdb87a4b86c9e070d158c5c8ca9d1cf26dfab835553", func := "hawala/hawalalaw23.ScriptParts", spec := "scriptParts", apart := false, narrowed := true }
def ScriptPartsUptoSaid : Prop := scriptPartsUptoRow.holds Try.pinned (OpenSpec.upto scriptPartsSpec)

/-- 'hawalalaw23.ScriptKinds', WHERE WHAT IT READS IS OF BULK AT MOST 1048576: true; the input reads as it did. -/
def scriptKindsUptoRow : OpenClaim := { program := "ytfkiapjkeopgfaa", sum := "3aaebea970d602b182045fdb87a4b86c9e070d158c5c8ca9d1cf26dfab835553", func := "hawala/hawalalaw23.ScriptKinds", spec := "scriptKinds", apart := false, narrowed := true }
def ScriptKindsUptoSaid : Prop := scriptKindsUptoRow.holds Try.pinned (OpenSpec.upto scriptKindsSpec)

/-- 'hawalalaw23.ScriptTail', WHERE WHAT IT READS IS OF BULK AT MOST 1048576: true; the input reads as it did. -/
def scriptTailUptoRow : OpenClaim := { program := "ytfkiapjkeopgfaa", sum := "3aaebea970d602b182045fdb87a4b86c9e070d158c5c8ca9d1cf26dfab835553", func := "hawala/hawalalaw23.ScriptTail", spec := "scriptTail", apart := false, narrowed := true }
def ScriptTailUptoSaid : Prop := scriptTailUptoRow.holds Try.pinned (OpenSpec.upto scriptTailSpec)

/-- 'hawalalaw23.ScriptMay', WHERE WHAT IT READS IS OF BULK AT MOST 1048576: true; the input reads as it did. -/
def scriptMayUptoRow : OpenClaim := { program := "ytfkiapjkeopgfaa", sum := "3aaebea970d602b182045fdb87a4b86c9e070d158c5c8ca9d1cf26dfab835553", func := "hawala/hawalalaw23.ScriptMay", spec := "scriptMay", apart := false, narrowed := true }
def ScriptMayUptoSaid : Prop := scriptMayUptoRow.holds Try.pinned (OpenSpec.upto scriptMaySpec)

end Rows
end Go.Proofs.Ytfkiapjkeopgfaa
