import Derived.Test.YtgheloooibafcaaGreatDoorRows
import Derived.WalkKit
import Derived.ProofKit
/- Facts on the program that the card of DirtyEnough asks. -/
namespace Go.Proofs.YtgheloooibafcaaGreatDoor.lawDirtyEnough
open Go Go.RowKit
theorem inPlaceF : (Rows.dirtyEnoughRow.inPlace == Tryz.prog.inPlace 8) = true := by kernel_rfl
theorem unfollowedF : (Rows.dirtyEnoughRow.unfollowed == Tryz.prog.unfollowed 8) = true := by kernel_rfl
end Go.Proofs.YtgheloooibafcaaGreatDoor.lawDirtyEnough
