import Derived.Test.YtgheloooibafcaaGreatDoorRows
import Derived.WalkKit
import Derived.ProofKit
/- Facts on the program that the card of DirtyFirst asks. -/
namespace Go.Proofs.YtgheloooibafcaaGreatDoor.lawDirtyFirst
open Go Go.RowKit
theorem inPlaceF : (Rows.dirtyFirstRow.inPlace == Tryz.prog.inPlace 6) = true := by kernel_rfl
theorem unfollowedF : (Rows.dirtyFirstRow.unfollowed == Tryz.prog.unfollowed 6) = true := by kernel_rfl
end Go.Proofs.YtgheloooibafcaaGreatDoor.lawDirtyFirst
