import Derived.Test.YtgepbkldgnjpfaaGreatDoorRows
import Derived.WalkKit
import Derived.ProofKit
/- Facts on the program that the card of YearOrder asks. -/
namespace Go.Proofs.YtgepbkldgnjpfaaGreatDoor.lawYearOrder
open Go Go.RowKit
theorem inPlaceF : (Rows.yearOrderRow.inPlace == Tryz.prog.inPlace 7) = true := by kernel_rfl
theorem unfollowedF : (Rows.yearOrderRow.unfollowed == Tryz.prog.unfollowed 7) = true := by kernel_rfl
end Go.Proofs.YtgepbkldgnjpfaaGreatDoor.lawYearOrder
