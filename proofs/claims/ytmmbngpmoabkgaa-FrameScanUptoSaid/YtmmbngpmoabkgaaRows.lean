/-
  No cell of these rows narrows 'for every input' (looked for: loops, veiled, ifaces, maps, wideKeys, modest, calm, conditions, laid).
  DERIVED. THE GIVEN ROWS OF THIS SEAT. 6 by the template 'for every input the law returns true; each argument reads behind the call as it read before'; 0 by the template 'total and deterministic' (their statements: YtmmbngpmoabkgaaTotals.lean).
  GIVEN WITH THE SEED: the statements are not yours to turn. If you find one false, say at which input.
  Laid BY PROGRAM, IN A SANDBOX (cutbox-rows.mjs): the forced cells as the released guide's own fill.sh prints them over the translation 408ffcbf9dee28b7… (all of the seat's roots in one cut). By AI agents, Wed Nov 11 2026. No macro, syntax, notation, axiom, sorry.
-/
import Derived.Test.YtmmbngpmoabkgaaChecked
import GoSem.Claim
import GoSem.ClaimJoined
import GoSem.ClaimMapViews
import Derived.JoinedTies
import Derived.KernelRfl
namespace Go.Proofs.Ytmmbngpmoabkgaa
/- THE CELL 'sum', in the pinned program and in every row, IS THE sha256 OF THE DUMP (.gsa) THAT YtmmbngpmoabkgaaProg.lean LOADS. Nothing in Lean hashes anything: it is a label: what it is worth is what the hold of that sum in a sandbox is worth. -/
noncomputable def Try.pinned : Pinned := { name := "ytmmbngpmoabkgaa", sum := "408ffcbf9dee28b7f439f831b68ed8f3171971e7fecd6c2d110bc75f7523bccd", checked := Try.checked }
namespace Rows
def none {H : Type} : Left H := { results := [], args := [] }

/-- 'hawalalaw04.FrameMake': WHATEVER THE INPUT: true; the input reads as it did. -/
def frameMakeSpec : ChangeSpec := { name := "frameMake", fn := fun _ => fun
  | [d1, d2, d3] => { results := [.lit (.bool true)], args := [d1, d2, d3] }
  | _ => none }
def frameMakeRow : OpenClaim := { program := "ytmmbngpmoabkgaa", sum := "408ffcbf9dee28b7f439f831b68ed8f3171971e7fecd6c2d110bc75f7523bccd", func := "hawala/hawalalaw04.FrameMake", spec := "frameMake", apart := false }
def FrameMakeSaid : Prop := frameMakeRow.holds Try.pinned (OpenSpec.ofChange frameMakeSpec)

/-- ITS FALSE NEIGHBOUR: 'it returns false'. Refute it at one input. -/
def frameMakeWrong : ChangeSpec := { name := "frameMake", fn := fun _ => fun
  | [d1, d2, d3] => { results := [.lit (.bool false)], args := [d1, d2, d3] }
  | _ => none }
def FrameMakeWrongFalsely : Prop := frameMakeRow.holds Try.pinned (OpenSpec.ofChange frameMakeWrong)

/-- 'hawalalaw04.FrameOne': WHATEVER THE INPUT: true; the input reads as it did. -/
def frameOneSpec : ChangeSpec := { name := "frameOne", fn := fun _ => fun
  | [d1, d2] => { results := [.lit (.bool true)], args := [d1, d2] }
  | _ => none }
def frameOneRow : OpenClaim := { program := "ytmmbngpmoabkgaa", sum := "408ffcbf9dee28b7f439f831b68ed8f3171971e7fecd6c2d110bc75f7523bccd", func := "hawala/hawalalaw04.FrameOne", spec := "frameOne", apart := false }
def FrameOneSaid : Prop := frameOneRow.holds Try.pinned (OpenSpec.ofChange frameOneSpec)

/-- ITS FALSE NEIGHBOUR: 'it returns false'. Refute it at one input. -/
def frameOneWrong : ChangeSpec := { name := "frameOne", fn := fun _ => fun
  | [d1, d2] => { results := [.lit (.bool false)], args := [d1, d2] }
  | _ => none }
def FrameOneWrongFalsely : Prop := frameOneRow.holds Try.pinned (OpenSpec.ofChange frameOneWrong)

/-- 'hawalalaw04.FrameScan': WHATEVER THE INPUT: true; the input reads as it did. -/
def frameScanSpec : ChangeSpec := { name := "frameScan", fn := fun _ => fun
  | [d1, d2, d3] => { results := [.lit (.bool true)], args := [d1, d2, d3] }
  | _ => none }
def frameScanRow : OpenClaim := { program := "ytmmbngpmoabkgaa", sum := "408ffcbf9dee28b7f439f831b68ed8f3171971e7fecd6c2d110bc75f7523bccd", func := "hawala/hawalalaw04.FrameScan", spec := "frameScan", apart := false }
def FrameScanSaid : Prop := frameScanRow.holds Try.pinned (OpenSpec.ofChange frameScanSpec)

/-- ITS FALSE NEIGHBOUR: 'it returns false'. Refute it at one input. -/
def frameScanWrong : ChangeSpec := { name := "frameScan", fn := fun _ => fun
  | [d1, d2, d3] => { results := [.lit (.bool false)], args := [d1, d2, d3] }
  | _ => none }
def FrameScanWrongFalsely : Prop := frameScanRow.holds Try.pinned (OpenSpec.ofChange frameScanWrong)

/-- 'hawalalaw04.FrameTurned': WHATEVER THE INPUT: true; the input reads as it did. -/
def frameTurnedSpec : ChangeSpec := { name := "frameTurned", fn := fun _ => fun
  | [d1, d2, d3] => { results := [.lit (.bool true)], args := [d1, d2, d3] }
  | _ => none }
def frameTurnedRow : OpenClaim := { program := "ytmmbngpmoabkgaa", sum := "408ffcbf9dee28b7f439f831b68ed8f3171971e7fecd6c2d110bc75f7523bccd", func := "hawala/hawalalaw04.FrameTurned", spec := "frameTurned", apart := false }
def FrameTurnedSaid : Prop := frameTurnedRow.holds Try.pinned (OpenSpec.ofChange frameTurnedSpec)

/-- ITS FALSE NEIGHBOUR: 'it returns false'. Refute it at one input. -/
def frameTurnedWrong : ChangeSpec := { name := "frameTurned", fn := fun _ => fun
  | [d1, d2, d3] => { results := [.lit (.bool false)], args := [d1, d2, d3] }
  | _ => none }
def FrameTurnedWrongFalsely : Prop := frameTurnedRow.holds Try.pinned (OpenSpec.ofChange frameTurnedWrong)

/-- 'hawalalaw04.FrameCut': WHATEVER THE INPUT: true; the input reads as it did. -/
def frameCutSpec : ChangeSpec := { name := "frameCut", fn := fun _ => fun
  | [d1, d2] => { results := [.lit (.bool true)], args := [d1, d2] }
  | _ => none }
def frameCutRow : OpenClaim := { program := "ytmmbngpmoabkgaa", sum := "408ffcbf9dee28b7f439f831b68ed8f3171971e7fecd6c2d110bc75f7523bccd", func := "hawala/hawalalaw04.FrameCut", spec := "frameCut", apart := false }
def FrameCutSaid : Prop := frameCutRow.holds Try.pinned (OpenSpec.ofChange frameCutSpec)

/-- ITS FALSE NEIGHBOUR: 'it returns false'. Refute it at one input. -/
def frameCutWrong : ChangeSpec := { name := "frameCut", fn := fun _ => fun
  | [d1, d2] => { results := [.lit (.bool false)], args := [d1, d2] }
  | _ => none }
def FrameCutWrongFalsely : Prop := frameCutRow.holds Try.pinned (OpenSpec.ofChange frameCutWrong)

/-- 'hawalalaw04.FrameAny': WHATEVER THE INPUT: true; the input reads as it did. -/
def frameAnySpec : ChangeSpec := { name := "frameAny", fn := fun _ => fun
  | [d] => { results := [.lit (.bool true)], args := [d] }
  | _ => none }
def frameAnyRow : OpenClaim := { program := "ytmmbngpmoabkgaa", sum := "408ffcbf9dee28b7f439f831b68ed8f3171971e7fecd6c2d110bc75f7523bccd", func := "hawala/hawalalaw04.FrameAny", spec := "frameAny", apart := false }
def FrameAnySaid : Prop := frameAnyRow.holds Try.pinned (OpenSpec.ofChange frameAnySpec)

/-- ITS FALSE NEIGHBOUR: 'it returns false'. Refute it at one input. -/
def frameAnyWrong : ChangeSpec := { name := "frameAny", fn := fun _ => fun
  | [d] => { results := [.lit (.bool false)], args := [d] }
  | _ => none }
def FrameAnyWrongFalsely : Prop := frameAnyRow.holds Try.pinned (OpenSpec.ofChange frameAnyWrong)

/- THE SECOND FORM. 'bulk': how many values and letters a reading holds, each counted each time it is reached (what is shared counts as often as it is met; a slice's spare places count too). A statement '..UptoSaid' is the law's where the arguments, and the package variables that the reading takes, are together of bulk at most 1048576: NARROWER than '..Said'. Prove '..Said' where nothing that the law and all that it calls make is longer than what came in: it says more and counts as full. Else prove '..UptoSaid'. A law counts once. -/
mutual
def uptoBulk {H : Type} : DataW H → Nat
  | .lit (.string bytes) => bytes.length + 1
  | .lit _ => 1
  | .nil => 1
  | .ptr d => uptoBulk d + 1
  | .slice elems spare => uptoBulkAll elems + uptoBulkAll spare + 1
  | .agg parts => uptoBulkAll parts + 1
  | .iface _ d => uptoBulk d + 1
  | .map entries => uptoBulkEntries entries + 1
  | .held _ => 1
def uptoBulkAll {H : Type} : List (DataW H) → Nat
  | [] => 0
  | d :: r => uptoBulk d + uptoBulkAll r
def uptoBulkEntries {H : Type} : List (Lit × DataW H) → Nat
  | [] => 0
  | x :: r => uptoBulkEntry x + uptoBulkEntries r
def uptoBulkEntry {H : Type} : Lit × DataW H → Nat
  | (.string bytes, d) => bytes.length + uptoBulk d + 1
  | (_, d) => uptoBulk d + 1
 end
def uptoSmall : (H : Type) → List (DataW H) → Bool := fun _ ds => decide (uptoBulkAll ds ≤ 1048576)
def OpenSpec.upto (s : _root_.Go.ChangeSpec) : _root_.Go.OpenSpec := { _root_.Go.OpenSpec.ofChange s with cond := some uptoSmall }

/-- 'hawalalaw04.FrameMake', WHERE WHAT IT READS IS OF BULK AT MOST 1048576: true; the input reads as it did. -/
def frameMakeUptoRow : OpenClaim := { program := "ytmmbngpmoabkgaa", sum := "408ffcbf9dee28b7f439f831b68ed8f3171971e7fecd6c2d110bc75f7523bccd", func := "hawala/hawalalaw04.FrameMake", spec := "frameMake", apart := false, narrowed := true }
def FrameMakeUptoSaid : Prop := frameMakeUptoRow.holds Try.pinned (OpenSpec.upto frameMakeSpec)

/-- 'hawalalaw04.FrameOne', WHERE WHAT IT READS IS OF BULK AT MOST 1048576: true; the input reads as it did. -/
def frameOneUptoRow : OpenClaim := { program := "ytmmbngpmoabkgaa", sum := "408ffcbf9dee28b7f439f831b68ed8f3171971e7fecd6c2d110bc75f7523bccd", func := "hawala/hawalalaw04.FrameOne", spec := "frameOne", apart := false, narrowed := true }
def FrameOneUptoSaid : Prop := frameOneUptoRow.holds Try.pinned (OpenSpec.upto frameOneSpec)

/-- 'hawalalaw04.FrameScan', WHERE WHAT IT READS IS OF BULK AT MOST 1048576: true; the input reads as it did. -/
def frameScanUptoRow : OpenClaim := { program := "ytmmbngpmoabkgaa", sum := "408ffcbf9dee28b7f439f831b68ed8f3171971e7fecd6c2d110bc75f7523bccd", func := "hawala/hawalalaw04.FrameScan", spec := "frameScan", apart := false, narrowed := true }
def FrameScanUptoSaid : Prop := frameScanUptoRow.holds Try.pinned (OpenSpec.upto frameScanSpec)

/-- 'hawalalaw04.FrameTurned', WHERE WHAT IT READS IS OF BULK AT MOST 1048576: true; the input reads as it did. -/
def frameTurnedUptoRow : OpenClaim := { program := "ytmmbngpmoabkgaa", sum := "408ffcbf9dee28b7f439f831b68ed8f3171971e7fecd6c2d110bc75f7523bccd", func := "hawala/hawalalaw04.FrameTurned", spec := "frameTurned", apart := false, narrowed := true }
def FrameTurnedUptoSaid : Prop := frameTurnedUptoRow.holds Try.pinned (OpenSpec.upto frameTurnedSpec)

/-- 'hawalalaw04.FrameCut', WHERE WHAT IT READS IS OF BULK AT MOST 1048576: true; the input reads as it did. -/
def frameCutUptoRow : OpenClaim := { program := "ytmmbngpmoabkgaa", sum := "408ffcbf9dee28b7f439f831b68ed8f3171971e7fecd6c2d110bc75f7523bccd", func := "hawala/hawalalaw04.FrameCut", spec := "frameCut", apart := false, narrowed := true }
def FrameCutUptoSaid : Prop := frameCutUptoRow.holds Try.pinned (OpenSpec.upto frameCutSpec)

/-- 'hawalalaw04.FrameAny', WHERE WHAT IT READS IS OF BULK AT MOST 1048576: true; the input reads as it did. -/
def frameAnyUptoRow : OpenClaim := { program := "ytmmbngpmoabkgaa", sum := "408ffcbf9dee28b7f439f831b68ed8f3171971e7fecd6c2d110bc75f7523bccd", func := "hawala/hawalalaw04.FrameAny", spec := "frameAny", apart := false, narrowed := true }
def FrameAnyUptoSaid : Prop := frameAnyUptoRow.holds Try.pinned (OpenSpec.upto frameAnySpec)

end Rows
end Go.Proofs.Ytmmbngpmoabkgaa
