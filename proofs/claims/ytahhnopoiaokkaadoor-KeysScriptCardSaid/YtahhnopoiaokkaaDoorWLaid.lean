/- Lemmas of this session (after the kit's worked example of errors.As): from a door row's premise on the library's variable errors.errorType to the variable's cell (GH); a world that meets the premise (the witness). Condition: the rows' own. -/
import Derived.Test.YtahhnopoiaokkaaDoorRows
import Derived.Test.YtahhnopoiaokkaaDoorWAs
import Derived.ChangeSame
import Derived.ChangeVars
import Derived.JoinedOf
import Derived.RowKit
import Derived.LaidLaws
import Derived.LaidHandle
import Derived.Stop.Joined
namespace Go.Proofs.YtahhnopoiaokkaaDoorW.Laid
open Go.ChangeShapes Go.WideShapes Go.RowKit Go.Proofs.YtahhnopoiaokkaaDoor Go.Proofs.YtahhnopoiaokkaaDoorW
theorem et0 : Tryd.prog.globalNamed "errors.errorType" = some 0 := by kernel_rfl
theorem rt0 : (Tryd.prog.cutTypes.find? (·.1 == "internal/reflectlite.rtype")).map (·.2) = some 71 := by kernel_rfl
theorem oneRow : ((List.range 113).filter fun t => Tryd.prog.rowNamed t [101, 114, 114, 111, 114]) = [44] := by kernel_rfl
theorem size : Tryd.prog.types.size = 113 := by kernel_rfl
/-- What the premise gives a walk: the variable's one cell. -/
theorem handle_of_laid {W : World} (h : laidMetH Tryd.prog [("errors.errorType", Rows.laid_errors_errorType)] W) : As.GH W := by
  have h' : laidMet Tryd.prog [] W ∧ handlesMet Tryd.prog [("errors.errorType", Rows.laid_errors_errorType)] W := h
  obtain ⟨name, u, ty, e1, e2, e3, e4, e5⟩ := h'.2 _ (List.mem_singleton.2 rfl)
  have en : name = [101, 114, 114, 111, 114] := (Option.some.inj e1).symm
  subst en
  obtain rfl := Option.some.inj (rt0.symm.trans e2)
  have hm : ty ∈ (List.range 113).filter fun t => Tryd.prog.rowNamed t [101, 114, 114, 111, 114] := List.mem_filter.2 ⟨List.mem_range.2 (by rw [← size]; exact e3), e4⟩
  rw [oneRow] at hm
  obtain rfl := List.mem_singleton.1 hm
  have hh : typeHandle Tryd.prog 44 = .pointer (some ⟨1, 44, none⟩) := by kernel_rfl
  rw [hh] at e5
  unfold As.GH
  simpa using World.var?_cell et0 e5 0
/-- A world that meets the premise: the settled one, the variable's cell laid. -/
noncomputable def laidWorld (os : Os) : World :=
  let w0 := World.holding Tryd.prog os ⟨#[], #[], []⟩
  { w0 with heap := w0.heap.modify 0 fun
      | .cells _ t frozen => .cells #[.iface 71 (.agg #[.pointer (some ⟨1, 44, none⟩)])] t frozen
      | o => o }
theorem laidWorld_met (os : Os) (args : Array Value) : laidMetH Tryd.prog [("errors.errorType", Rows.laid_errors_errorType)] ((laidWorld os).forCall (fun _ _ => 0) ⟨#[], args, []⟩).memory :=
  laidMetH_of_parts (laidMet_nil _ _) (by kernel_rfl)
end Go.Proofs.YtahhnopoiaokkaaDoorW.Laid
