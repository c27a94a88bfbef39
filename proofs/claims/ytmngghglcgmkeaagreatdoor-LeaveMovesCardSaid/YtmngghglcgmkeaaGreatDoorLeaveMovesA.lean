import Derived.Test.YtmngghglcgmkeaaGreatDoorRows
import Derived.WalkKit
import Derived.ProofKit
/- Facts on the program that the card of LeaveMoves asks. -/
namespace Go.Proofs.YtmngghglcgmkeaaGreatDoor.lawLeaveMoves
open Go Go.RowKit
theorem inPlaceF : (Rows.leaveMovesRow.inPlace == Tryz.prog.inPlace 5) = true := by kernel_rfl
theorem unfollowedF : (Rows.leaveMovesRow.unfollowed == Tryz.prog.unfollowed 5) = true := by kernel_rfl
end Go.Proofs.YtmngghglcgmkeaaGreatDoor.lawLeaveMoves
