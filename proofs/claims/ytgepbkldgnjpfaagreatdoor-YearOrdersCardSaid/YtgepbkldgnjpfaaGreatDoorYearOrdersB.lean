import Derived.Test.YtgepbkldgnjpfaaGreatDoorRows
import Derived.WalkKit
import Derived.ProofKit
/- Facts on the program that the card of YearOrders asks. -/
namespace Go.Proofs.YtgepbkldgnjpfaaGreatDoor.lawYearOrders
open Go Go.RowKit
theorem recursesF : (Rows.yearOrdersRow.recurses == Tryz.prog.recurses 5) = true := by kernel_rfl
theorem namedF : (Rows.yearOrdersRow.named == Tryz.prog.varsNamed 5) = true := by kernel_rfl
end Go.Proofs.YtgepbkldgnjpfaaGreatDoor.lawYearOrders
