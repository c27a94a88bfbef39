import Derived.Test.YtgepbkldgnjpfaaGreatDoorRows
import Derived.WalkKit
import Derived.ProofKit
/- Facts on the program that the card of YearAnew asks. -/
namespace Go.Proofs.YtgepbkldgnjpfaaGreatDoor.lawYearAnew
open Go Go.RowKit
theorem recursesF : (Rows.yearAnewRow.recurses == Tryz.prog.recurses 6) = true := by kernel_rfl
theorem namedF : (Rows.yearAnewRow.named == Tryz.prog.varsNamed 6) = true := by kernel_rfl
end Go.Proofs.YtgepbkldgnjpfaaGreatDoor.lawYearAnew
