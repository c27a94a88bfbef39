import Derived.Test.YtgheloooibafcaaGreatDoorRows
import Derived.WalkKit
import Derived.ProofKit
/- Facts on the program that the card of DirtyKeeps asks. -/
namespace Go.Proofs.YtgheloooibafcaaGreatDoor.lawDirtyKeeps
open Go Go.RowKit
theorem inPlaceF : (Rows.dirtyKeepsRow.inPlace == Tryz.prog.inPlace 7) = true := by kernel_rfl
theorem unfollowedF : (Rows.dirtyKeepsRow.unfollowed == Tryz.prog.unfollowed 7) = true := by kernel_rfl
end Go.Proofs.YtgheloooibafcaaGreatDoor.lawDirtyKeeps
