import Derived.Test.YtgepbkldgnjpfaaGreatDoorRows
import Derived.WalkKit
import Derived.ProofKit
/- Facts on the program that the card of YearAnew asks. -/
namespace Go.Proofs.YtgepbkldgnjpfaaGreatDoor.lawYearAnew
open Go Go.RowKit
theorem inPlaceF : (Rows.yearAnewRow.inPlace == Tryz.prog.inPlace 6) = true := by kernel_rfl
theorem unfollowedF : (Rows.yearAnewRow.unfollowed == Tryz.prog.unfollowed 6) = true := by kernel_rfl
end Go.Proofs.YtgepbkldgnjpfaaGreatDoor.lawYearAnew
