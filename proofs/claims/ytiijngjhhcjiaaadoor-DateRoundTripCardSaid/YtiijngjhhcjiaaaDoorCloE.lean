/-
  From the walks to the statements of package date: the table unicode.CaseRanges.
-/
import Derived.Test.YtiijngjhhcjiaaaDoorCloD
import Derived.Lib.LaidCase
set_option linter.unusedSimpArgs false
set_option linter.unusedVariables false
set_option linter.unnecessarySimpa false
namespace Go.Proofs.YtiijngjhhcjiaaaDoor
open Go.ChangeShapes Go.WideShapes Go.ChangeAt Go.RowKit Go.Bul Go.Shelf Go.Lib
theorem case04 {laid : List (String × DataW Unit)} {W : World} (hp : (laid.all fun x => x.2.handleName?.isNone) = true) (hL : laidMetH Tryd.prog laid W)
    (m1 : ("unicode.CaseRanges", Rows.laid_unicode_CaseRanges) ∈ laid) : Go.Lib.CaseVar 2 Go.Lib.caseA W := by
  rw [MakeChecks.laidMetH_plain _ _ _ hp] at hL
  exact caseVar_of_reads { Tryd.lays158 with } Tryd.lays158.t206 ⟨by kernel_rfl, by kernel_rfl, by kernel_rfl, by kernel_rfl, by kernel_rfl, by kernel_rfl⟩ (Pinned.caseRanges_eq ▸ Lib.laidMet.reads hL m1)
end Go.Proofs.YtiijngjhhcjiaaaDoor
