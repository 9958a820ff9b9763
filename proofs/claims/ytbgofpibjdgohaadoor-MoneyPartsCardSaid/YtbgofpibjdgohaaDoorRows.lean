/-
  NARROWER THAN 'FOR EVERY INPUT', by the rows' own cells (each row's printed sentence says how): MoneyAdd: laid · MoneyConvert: laid · MoneyRound: laid · MoneyRates: laid · MoneyParts: laid · MoneySum: laid.
  DERIVED. THE GIVEN ROWS OF THIS SEAT. 6 by the template 'for every input the law returns true; each argument reads behind the call as it read before'; 0 by the template 'total and deterministic' (their statements: YtbgofpibjdgohaaDoorTotals.lean).
  GIVEN WITH THE SEED: the statements are not yours to turn. If you find one false, say at which input.
  Laid BY PROGRAM, IN A SANDBOX (cutbox-rows.mjs): the forced cells as the released guide's own fill.sh prints them over the translation 0361792f0cf9d287… (all of the seat's roots in one cut). By AI agents, Wed Nov 11 2026. No macro, syntax, notation, axiom, sorry.
-/
import Derived.Test.YtbgofpibjdgohaaDoorChecked
import GoSem.Claim
import GoSem.ClaimJoined
import GoSem.ClaimMapViews
import Derived.JoinedTies
import Derived.KernelRfl
namespace Go.Proofs.YtbgofpibjdgohaaDoor
/- THE CELL 'sum', in the pinned program and in every row, IS THE sha256 OF THE DUMP (.gsa) THAT YtbgofpibjdgohaaDoorProg.lean LOADS. Nothing in Lean hashes anything: it is a label: what it is worth is what the hold of that sum in a sandbox is worth. -/
noncomputable def Tryd.pinned : Pinned := { name := "ytbgofpibjdgohaadoor", sum := "0361792f0cf9d287f08e746842e028ab5cc0b1ad359a65b0093bfc6c478abde5", checked := Tryd.checked }
namespace Rows
def none {H : Type} : Left H := { results := [], args := [] }

/- WHAT THE LISTED PACKAGE-LEVEL VARIABLES READ AS WHEN THE CALL BEGINS. Each datum BY PROGRAM (the guide's laid-datum.mjs) off the statement by which the dump's own 'gosem.cut.vars' lays the variable. In a bare row this is a premise. The card (YtbgofpibjdgohaaDoorCards.lean) ties it to the program's text. -/
def laid_errors_errorType {H : Type} : DataW H := .iface "internal/reflectlite.rtype" (.agg [.ptr (.lit (.string [101, 114, 114, 111, 114]))])

/-- 'hawalalaw01.MoneyAdd': WHATEVER THE INPUT: true; the input reads as it did. -/
def moneyAddSpec : ChangeSpec := { name := "moneyAdd", fn := fun _ => fun
  | [d1, d2] => { results := [.lit (.bool true)], args := [d1, d2] }
  | _ => none }
def moneyAddRow : OpenClaim := { program := "ytbgofpibjdgohaadoor", sum := "0361792f0cf9d287f08e746842e028ab5cc0b1ad359a65b0093bfc6c478abde5", func := "hawala/hawalalaw01.MoneyAdd", spec := "moneyAdd", inPlace := ["internal/reflectlite.ValueOf", "(internal/reflectlite.Value).Type", "(internal/reflectlite.Value).IsNil", "internal/reflectlite.TypeOf", "(internal/reflectlite.Value).Elem", "(internal/reflectlite.Value).Set"], unfollowed := true, recurses := true, named := ["errors.errorType"], apart := false, laid := [("errors.errorType", laid_errors_errorType)] }
def MoneyAddSaid : Prop := moneyAddRow.holds Tryd.pinned (OpenSpec.ofChange moneyAddSpec)

/-- ITS FALSE NEIGHBOUR: 'it returns false'. Refute it at one input. -/
def moneyAddWrong : ChangeSpec := { name := "moneyAdd", fn := fun _ => fun
  | [d1, d2] => { results := [.lit (.bool false)], args := [d1, d2] }
  | _ => none }
def MoneyAddWrongFalsely : Prop := moneyAddRow.holds Tryd.pinned (OpenSpec.ofChange moneyAddWrong)

/-- 'hawalalaw01.MoneyConvert': WHATEVER THE INPUT: true; the input reads as it did. -/
def moneyConvertSpec : ChangeSpec := { name := "moneyConvert", fn := fun _ => fun
  | [d1, d2, d3] => { results := [.lit (.bool true)], args := [d1, d2, d3] }
  | _ => none }
def moneyConvertRow : OpenClaim := { program := "ytbgofpibjdgohaadoor", sum := "0361792f0cf9d287f08e746842e028ab5cc0b1ad359a65b0093bfc6c478abde5", func := "hawala/hawalalaw01.MoneyConvert", spec := "moneyConvert", inPlace := ["internal/reflectlite.ValueOf", "(internal/reflectlite.Value).Type", "(internal/reflectlite.Value).IsNil", "internal/reflectlite.TypeOf", "(internal/reflectlite.Value).Elem", "(internal/reflectlite.Value).Set"], unfollowed := true, recurses := true, named := ["errors.errorType"], apart := false, laid := [("errors.errorType", laid_errors_errorType)] }
def MoneyConvertSaid : Prop := moneyConvertRow.holds Tryd.pinned (OpenSpec.ofChange moneyConvertSpec)

/-- ITS FALSE NEIGHBOUR: 'it returns false'. Refute it at one input. -/
def moneyConvertWrong : ChangeSpec := { name := "moneyConvert", fn := fun _ => fun
  | [d1, d2, d3] => { results := [.lit (.bool false)], args := [d1, d2, d3] }
  | _ => none }
def MoneyConvertWrongFalsely : Prop := moneyConvertRow.holds Tryd.pinned (OpenSpec.ofChange moneyConvertWrong)

/-- 'hawalalaw01.MoneyRound': WHATEVER THE INPUT: true; the input reads as it did. -/
def moneyRoundSpec : ChangeSpec := { name := "moneyRound", fn := fun _ => fun
  | [d1, d2, d3] => { results := [.lit (.bool true)], args := [d1, d2, d3] }
  | _ => none }
def moneyRoundRow : OpenClaim := { program := "ytbgofpibjdgohaadoor", sum := "0361792f0cf9d287f08e746842e028ab5cc0b1ad359a65b0093bfc6c478abde5", func := "hawala/hawalalaw01.MoneyRound", spec := "moneyRound", inPlace := ["internal/reflectlite.ValueOf", "(internal/reflectlite.Value).Type", "(internal/reflectlite.Value).IsNil", "internal/reflectlite.TypeOf", "(internal/reflectlite.Value).Elem", "(internal/reflectlite.Value).Set"], unfollowed := true, recurses := true, named := ["errors.errorType"], apart := false, laid := [("errors.errorType", laid_errors_errorType)] }
def MoneyRoundSaid : Prop := moneyRoundRow.holds Tryd.pinned (OpenSpec.ofChange moneyRoundSpec)

/-- ITS FALSE NEIGHBOUR: 'it returns false'. Refute it at one input. -/
def moneyRoundWrong : ChangeSpec := { name := "moneyRound", fn := fun _ => fun
  | [d1, d2, d3] => { results := [.lit (.bool false)], args := [d1, d2, d3] }
  | _ => none }
def MoneyRoundWrongFalsely : Prop := moneyRoundRow.holds Tryd.pinned (OpenSpec.ofChange moneyRoundWrong)

/-- 'hawalalaw01.MoneyRates': WHATEVER THE INPUT: true; the input reads as it did. -/
def moneyRatesSpec : ChangeSpec := { name := "moneyRates", fn := fun _ => fun
  | [d1, d2] => { results := [.lit (.bool true)], args := [d1, d2] }
  | _ => none }
def moneyRatesRow : OpenClaim := { program := "ytbgofpibjdgohaadoor", sum := "0361792f0cf9d287f08e746842e028ab5cc0b1ad359a65b0093bfc6c478abde5", func := "hawala/hawalalaw01.MoneyRates", spec := "moneyRates", inPlace := ["internal/reflectlite.ValueOf", "(internal/reflectlite.Value).Type", "(internal/reflectlite.Value).IsNil", "internal/reflectlite.TypeOf", "(internal/reflectlite.Value).Elem", "(internal/reflectlite.Value).Set"], unfollowed := true, recurses := true, named := ["errors.errorType"], apart := false, laid := [("errors.errorType", laid_errors_errorType)] }
def MoneyRatesSaid : Prop := moneyRatesRow.holds Tryd.pinned (OpenSpec.ofChange moneyRatesSpec)

/-- ITS FALSE NEIGHBOUR: 'it returns false'. Refute it at one input. -/
def moneyRatesWrong : ChangeSpec := { name := "moneyRates", fn := fun _ => fun
  | [d1, d2] => { results := [.lit (.bool false)], args := [d1, d2] }
  | _ => none }
def MoneyRatesWrongFalsely : Prop := moneyRatesRow.holds Tryd.pinned (OpenSpec.ofChange moneyRatesWrong)

/-- 'hawalalaw01.MoneyParts': WHATEVER THE INPUT: true; the input reads as it did. -/
def moneyPartsSpec : ChangeSpec := { name := "moneyParts", fn := fun _ => fun
  | [d1, d2, d3, d4] => { results := [.lit (.bool true)], args := [d1, d2, d3, d4] }
  | _ => none }
def moneyPartsRow : OpenClaim := { program := "ytbgofpibjdgohaadoor", sum := "0361792f0cf9d287f08e746842e028ab5cc0b1ad359a65b0093bfc6c478abde5", func := "hawala/hawalalaw01.MoneyParts", spec := "moneyParts", inPlace := ["internal/reflectlite.ValueOf", "(internal/reflectlite.Value).Type", "(internal/reflectlite.Value).IsNil", "internal/reflectlite.TypeOf", "(internal/reflectlite.Value).Elem", "(internal/reflectlite.Value).Set"], unfollowed := true, recurses := true, named := ["errors.errorType"], apart := false, laid := [("errors.errorType", laid_errors_errorType)] }
def MoneyPartsSaid : Prop := moneyPartsRow.holds Tryd.pinned (OpenSpec.ofChange moneyPartsSpec)

/-- ITS FALSE NEIGHBOUR: 'it returns false'. Refute it at one input. -/
def moneyPartsWrong : ChangeSpec := { name := "moneyParts", fn := fun _ => fun
  | [d1, d2, d3, d4] => { results := [.lit (.bool false)], args := [d1, d2, d3, d4] }
  | _ => none }
def MoneyPartsWrongFalsely : Prop := moneyPartsRow.holds Tryd.pinned (OpenSpec.ofChange moneyPartsWrong)

/-- 'hawalalaw01.MoneySum': WHATEVER THE INPUT: true; the input reads as it did. -/
def moneySumSpec : ChangeSpec := { name := "moneySum", fn := fun _ => fun
  | [d] => { results := [.lit (.bool true)], args := [d] }
  | _ => none }
def moneySumRow : OpenClaim := { program := "ytbgofpibjdgohaadoor", sum := "0361792f0cf9d287f08e746842e028ab5cc0b1ad359a65b0093bfc6c478abde5", func := "hawala/hawalalaw01.MoneySum", spec := "moneySum", inPlace := ["internal/reflectlite.ValueOf", "(internal/reflectlite.Value).Type", "(internal/reflectlite.Value).IsNil", "internal/reflectlite.TypeOf", "(internal/reflectlite.Value).Elem", "(internal/reflectlite.Value).Set"], unfollowed := true, recurses := true, named := ["errors.errorType"], apart := false, laid := [("errors.errorType", laid_errors_errorType)] }
def MoneySumSaid : Prop := moneySumRow.holds Tryd.pinned (OpenSpec.ofChange moneySumSpec)

/-- ITS FALSE NEIGHBOUR: 'it returns false'. Refute it at one input. -/
def moneySumWrong : ChangeSpec := { name := "moneySum", fn := fun _ => fun
  | [d] => { results := [.lit (.bool false)], args := [d] }
  | _ => none }
def MoneySumWrongFalsely : Prop := moneySumRow.holds Tryd.pinned (OpenSpec.ofChange moneySumWrong)

/- THE SECOND FORM. 'bulk': how many values and letters a reading holds, each counted each time it is reached (what is shared counts as often as it is met; a slice's spare places count too). A statement '..UptoSaid' is the law's where the arguments, and the package variables that the reading takes, are together of bulk at most 1048576: NARROWER than '..Said'. Prove '..Said' where nothing that the law and all that it calls make is longer than what came in: it says more and counts as full. Else prove '..UptoSaid'. A law counts once. -/
mutual
def uptoBulk {H : Type} : DataW H → Nat
  | .lit (.string bytes) => bytes.length + 1
  | .lit _ => 1
  | .nil => 1
  | .ptr d => uptoBulk d + 1
  | .slice elems spare => uptoBulkAll elems + uptoBulkAll spare + 1
  | .agg parts => uptoBulkAll parts + 1
  | .iface _ d => uptoBulk d + 1
  | .map entries => uptoBulkEntries entries + 1
  | .held _ => 1
def uptoBulkAll {H : Type} : List (DataW H) → Nat
  | [] => 0
  | d :: r => uptoBulk d + uptoBulkAll r
def uptoBulkEntries {H : Type} : List (Lit × DataW H) → Nat
  | [] => 0
  | x :: r => uptoBulkEntry x + uptoBulkEntries r
def uptoBulkEntry {H : Type} : Lit × DataW H → Nat
  | (.string bytes, d) => bytes.length + uptoBulk d + 1
  | (_, d) => uptoBulk d + 1
 end
def uptoSmall : (H : Type) → List (DataW H) → Bool := fun _ ds => decide (uptoBulkAll ds ≤ 1048576)
def OpenSpec.upto (s : _root_.Go.ChangeSpec) : _root_.Go.OpenSpec := { _root_.Go.OpenSpec.ofChange s with cond := some uptoSmall }

/-- 'hawalalaw01.MoneyAdd', WHERE WHAT IT READS IS OF BULK AT MOST 1048576: true; the input reads as it did. -/
def moneyAddUptoRow : OpenClaim := { program := "ytbgofpibjdgohaadoor", sum := "0361792f0cf9d287f08e746842e028ab5cc0b1ad359a65b0093bfc6c478abde5", func := "hawala/hawalalaw01.MoneyAdd", spec := "moneyAdd", inPlace := ["internal/reflectlite.ValueOf", "(internal/reflectlite.Value).Type", "(internal/reflectlite.Value).IsNil", "internal/reflectlite.TypeOf", "(internal/reflectlite.Value).Elem", "(internal/reflectlite.Value).Set"], unfollowed := true, recurses := true, named := ["errors.errorType"], apart := false, laid := [("errors.errorType", laid_errors_errorType)], narrowed := true }
def MoneyAddUptoSaid : Prop := moneyAddUptoRow.holds Tryd.pinned (OpenSpec.upto moneyAddSpec)

/-- 'hawalalaw01.MoneyConvert', WHERE WHAT IT READS IS OF BULK AT MOST 1048576: true; the input reads as it did. -/
def moneyConvertUptoRow : OpenClaim := { program := "ytbgofpibjdgohaadoor", sum := "0361792f0cf9d287f08e746842e028ab5cc0b1ad359a65b0093bfc6c478abde5", func := "hawala/hawalalaw01.MoneyConvert", spec := "moneyConvert", inPlace := ["internal/reflectlite.ValueOf", "(internal/reflectlite.Value).Type", "(internal/reflectlite.Value).IsNil", "internal/reflectlite.TypeOf", "(internal/reflectlite.Value).Elem", "(internal/reflectlite.Value).Set"], unfollowed := true, recurses := true, named := ["errors.errorType"], apart := false, laid := [("errors.errorType", laid_errors_errorType)], narrowed := true }
def MoneyConvertUptoSaid : Prop := moneyConvertUptoRow.holds Tryd.pinned (OpenSpec.upto moneyConvertSpec)

/-- 'hawalalaw01.MoneyRound', WHERE WHAT IT READS IS OF BULK AT MOST 1048576: true; the input reads as it did. -/
def moneyRoundUptoRow : OpenClaim := { program := "ytbgofpibjdgohaadoor", sum := "0361792f0cf9d287f08e746842e028ab5cc0b1ad359a65b0093bfc6c478abde5", func := "hawala/hawalalaw01.MoneyRound", spec := "moneyRound", inPlace := ["internal/reflectlite.ValueOf", "(internal/reflectlite.Value).Type", "(internal/reflectlite.Value).IsNil", "internal/reflectlite.TypeOf", "(internal/reflectlite.Value).Elem", "(internal/reflectlite.Value).Set"], unfollowed := true, recurses := true, named := ["errors.errorType"], apart := false, laid := [("errors.errorType", laid_errors_errorType)], narrowed := true }
def MoneyRoundUptoSaid : Prop := moneyRoundUptoRow.holds Tryd.pinned (OpenSpec.upto moneyRoundSpec)

/-- 'hawalalaw01.MoneyRates', WHERE WHAT IT READS IS OF BULK AT MOST 1048576: true; the input reads as it did. -/
def moneyRatesUptoRow : OpenClaim := { program := "ytbgofpibjdgohaadoor", sum := "0361792f0cf9d287f08e746842e028ab5cc0b1ad359a65b0093bfc6c478abde5", func := "hawala/hawalalaw01.MoneyRates", spec := "moneyRates", inPlace := ["internal/reflectlite.ValueOf", "(internal/reflectlite.Value).Type", "(internal/reflectlite.Value).IsNil", "internal/reflectlite.TypeOf", "(internal/reflectlite.Value).Elem", "(internal/reflectlite.Value).Set"], unfollowed := true, recurses := true, named := ["errors.errorType"], apart := false, laid := [("errors.errorType", laid_errors_errorType)], narrowed := true }
def MoneyRatesUptoSaid : Prop := moneyRatesUptoRow.holds Tryd.pinned (OpenSpec.upto moneyRatesSpec)

/-- 'hawalalaw01.MoneyParts', WHERE WHAT IT READS IS OF BULK AT MOST 1048576: true; the input reads as it did. -/
def moneyPartsUptoRow : OpenClaim := { program := "ytbgofpibjdgohaadoor", sum := "0361792f0cf9d287f08e746842e028ab5cc0b1ad359a65b0093bfc6c478abde5", func := "hawala/hawalalaw01.MoneyParts", spec := "moneyParts", inPlace := ["internal/reflectlite.ValueOf", "(internal/reflectlite.Value).Type", "(internal/reflectlite.Value).IsNil", "internal/reflectlite.TypeOf", "(internal/reflectlite.Value).Elem", "(internal/reflectlite.Value).Set"], unfollowed := true, recurses := true, named := ["errors.errorType"], apart := false, laid := [("errors.errorType", laid_errors_errorType)], narrowed := true }
def MoneyPartsUptoSaid : Prop := moneyPartsUptoRow.holds Tryd.pinned (OpenSpec.upto moneyPartsSpec)

/-- 'hawalalaw01.MoneySum', WHERE WHAT IT READS IS OF BULK AT MOST 1048576: true; the input reads as it did. -/
def moneySumUptoRow : OpenClaim := { program := "ytbgofpibjdgohaadoor", sum := "0361792f0cf9d287f08e746842e028ab5cc0b1ad359a65b0093bfc6c478abde5", func := "hawala/hawalalaw01.MoneySum", spec := "moneySum", inPlace := ["internal/reflectlite.ValueOf", "(internal/reflectlite.Value).Type", "(internal/reflectlite.Value).IsNil", "internal/reflectlite.TypeOf", "(internal/reflectlite.Value).Elem", "(internal/reflectlite.Value).Set"], unfollowed := true, recurses := true, named := ["errors.errorType"], apart := false, laid := [("errors.errorType", laid_errors_errorType)], narrowed := true }
def MoneySumUptoSaid : Prop := moneySumUptoRow.holds Tryd.pinned (OpenSpec.upto moneySumSpec)

end Rows
end Go.Proofs.YtbgofpibjdgohaaDoor
