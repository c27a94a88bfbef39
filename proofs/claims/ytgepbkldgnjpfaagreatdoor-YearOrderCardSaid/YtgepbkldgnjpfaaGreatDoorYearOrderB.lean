import Derived.Test.YtgepbkldgnjpfaaGreatDoorRows
import Derived.WalkKit
import Derived.ProofKit
/- Facts on the program that the card of YearOrder asks. -/
namespace Go.Proofs.YtgepbkldgnjpfaaGreatDoor.lawYearOrder
open Go Go.RowKit
theorem recursesF : (Rows.yearOrderRow.recurses == Tryz.prog.recurses 7) = true := by kernel_rfl
theorem namedF : (Rows.yearOrderRow.named == Tryz.prog.varsNamed 7) = true := by kernel_rfl
end Go.Proofs.YtgepbkldgnjpfaaGreatDoor.lawYearOrder
