import Derived.Test.YtmngghglcgmkeaaGreatDoorRows
import Derived.WalkKit
import Derived.ProofKit
/- Facts on the program that the card of AbsentOver asks. -/
namespace Go.Proofs.YtmngghglcgmkeaaGreatDoor.lawAbsentOver
open Go Go.RowKit
theorem inPlaceF : (Rows.absentOverRow.inPlace == Tryz.prog.inPlace 3) = true := by kernel_rfl
theorem unfollowedF : (Rows.absentOverRow.unfollowed == Tryz.prog.unfollowed 3) = true := by kernel_rfl
end Go.Proofs.YtmngghglcgmkeaaGreatDoor.lawAbsentOver
