import Derived.Test.YtgheloooibafcaaGreatDoorRows
import Derived.WalkKit
import Derived.ProofKit
/- Facts on the program that the card of DirtyChain asks. -/
namespace Go.Proofs.YtgheloooibafcaaGreatDoor.lawDirtyChain
open Go Go.RowKit
theorem inPlaceF : (Rows.dirtyChainRow.inPlace == Tryz.prog.inPlace 5) = true := by kernel_rfl
theorem unfollowedF : (Rows.dirtyChainRow.unfollowed == Tryz.prog.unfollowed 5) = true := by kernel_rfl
end Go.Proofs.YtgheloooibafcaaGreatDoor.lawDirtyChain
