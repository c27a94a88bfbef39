import Derived.Test.YtgepbkldgnjpfaaGreatDoorRows
import Derived.WalkKit
import Derived.ProofKit
/- Facts on the program that the card of YearFirm asks. -/
namespace Go.Proofs.YtgepbkldgnjpfaaGreatDoor.lawYearFirm
open Go Go.RowKit
theorem inPlaceF : (Rows.yearFirmRow.inPlace == Tryz.prog.inPlace 4) = true := by kernel_rfl
theorem unfollowedF : (Rows.yearFirmRow.unfollowed == Tryz.prog.unfollowed 4) = true := by kernel_rfl
end Go.Proofs.YtgepbkldgnjpfaaGreatDoor.lawYearFirm
