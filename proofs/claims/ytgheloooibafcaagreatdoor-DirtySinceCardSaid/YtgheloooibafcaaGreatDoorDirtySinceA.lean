import Derived.Test.YtgheloooibafcaaGreatDoorRows
import Derived.WalkKit
import Derived.ProofKit
/- Facts on the program that the card of DirtySince asks. -/
namespace Go.Proofs.YtgheloooibafcaaGreatDoor.lawDirtySince
open Go Go.RowKit
theorem inPlaceF : (Rows.dirtySinceRow.inPlace == Tryz.prog.inPlace 3) = true := by kernel_rfl
theorem unfollowedF : (Rows.dirtySinceRow.unfollowed == Tryz.prog.unfollowed 3) = true := by kernel_rfl
end Go.Proofs.YtgheloooibafcaaGreatDoor.lawDirtySince
