import Derived.Test.YtgepbkldgnjpfaaGreatDoorRows
import Derived.WalkKit
import Derived.ProofKit
/- Facts on the program that the card of YearOrders asks. -/
namespace Go.Proofs.YtgepbkldgnjpfaaGreatDoor.lawYearOrders
open Go Go.RowKit
theorem inPlaceF : (Rows.yearOrdersRow.inPlace == Tryz.prog.inPlace 5) = true := by kernel_rfl
theorem unfollowedF : (Rows.yearOrdersRow.unfollowed == Tryz.prog.unfollowed 5) = true := by kernel_rfl
end Go.Proofs.YtgepbkldgnjpfaaGreatDoor.lawYearOrders
