import Derived.Test.YtgepbkldgnjpfaaGreatDoorRows
import Derived.WalkKit
import Derived.ProofKit
/- Facts on the program that the card of YearNets asks. -/
namespace Go.Proofs.YtgepbkldgnjpfaaGreatDoor.lawYearNets
open Go Go.RowKit
theorem inPlaceF : (Rows.yearNetsRow.inPlace == Tryz.prog.inPlace 3) = true := by kernel_rfl
theorem unfollowedF : (Rows.yearNetsRow.unfollowed == Tryz.prog.unfollowed 3) = true := by kernel_rfl
end Go.Proofs.YtgepbkldgnjpfaaGreatDoor.lawYearNets
