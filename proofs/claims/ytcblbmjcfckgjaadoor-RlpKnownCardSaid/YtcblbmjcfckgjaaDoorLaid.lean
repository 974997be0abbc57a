/-
  What the row's list gives: package errors' variable.
-/
import Derived.Test.YtcblbmjcfckgjaaDoorWhy
import Derived.Test.YtcblbmjcfckgjaaDoorRows
set_option linter.unusedVariables false
namespace Go.Proofs.YtcblbmjcfckgjaaDoor
open Go.RowKit

/-- What the row's list gives: package errors' variable. -/
theorem errType_of_laid {w : World} (h : laidMetH Tryd.prog [("errors.errorType", Rows.laid_errors_errorType)] w) : ErrType w := by
  have h' : laidMet Tryd.prog [] w ∧ handlesMet Tryd.prog [("errors.errorType", Rows.laid_errors_errorType)] w := h
  obtain ⟨name, u, ty, e1, e2, e3, e4, e5⟩ := h'.2 _ (List.mem_singleton.2 rfl)
  have en : name = [101, 114, 114, 111, 114] := (Option.some.inj e1).symm
  subst en
  have rt : (Tryd.prog.cutTypes.find? (·.1 == "internal/reflectlite.rtype")).map (·.2) = some 91 := by kernel_rfl
  obtain rfl := Option.some.inj (rt.symm.trans e2)
  have sz : Tryd.prog.types.size = 137 := by kernel_rfl
  have one : ((List.range 137).filter fun t => Tryd.prog.rowNamed t [101, 114, 114, 111, 114]) = [27] := by kernel_rfl
  have hm : ty ∈ (List.range 137).filter fun t => Tryd.prog.rowNamed t [101, 114, 114, 111, 114] := List.mem_filter.2 ⟨List.mem_range.2 (by rw [← sz]; exact e3), e4⟩
  rw [one] at hm
  obtain rfl := List.mem_singleton.1 hm
  have hh : typeHandle Tryd.prog 27 = .pointer (some ⟨1, 27, none⟩) := by kernel_rfl
  rw [hh] at e5
  have et : Tryd.prog.globalNamed "errors.errorType" = some 0 := by kernel_rfl
  simpa [ErrType] using World.var?_cell et e5 0

end Go.Proofs.YtcblbmjcfckgjaaDoor
