import Derived.Test.YtmngghglcgmkeaaGreatDoorRows
import Derived.WalkKit
import Derived.ProofKit
/- Facts on the program that the card of AbsentAlone asks. -/
namespace Go.Proofs.YtmngghglcgmkeaaGreatDoor.lawAbsentAlone
open Go Go.RowKit
theorem inPlaceF : (Rows.absentAloneRow.inPlace == Tryz.prog.inPlace 4) = true := by kernel_rfl
theorem unfollowedF : (Rows.absentAloneRow.unfollowed == Tryz.prog.unfollowed 4) = true := by kernel_rfl
end Go.Proofs.YtmngghglcgmkeaaGreatDoor.lawAbsentAlone
