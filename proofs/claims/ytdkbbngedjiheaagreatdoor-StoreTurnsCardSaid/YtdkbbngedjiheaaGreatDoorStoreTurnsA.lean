import Derived.Test.YtdkbbngedjiheaaGreatDoorRows
import Derived.WalkKit
import Derived.ProofKit
/- Facts on the program that the card of StoreTurns asks. -/
namespace Go.Proofs.YtdkbbngedjiheaaGreatDoor.lawStoreTurns
open Go Go.RowKit
theorem inPlaceF : (Rows.storeTurnsRow.inPlace == Tryz.prog.inPlace 3) = true := by kernel_rfl
theorem unfollowedF : (Rows.storeTurnsRow.unfollowed == Tryz.prog.unfollowed 3) = true := by kernel_rfl
end Go.Proofs.YtdkbbngedjiheaaGreatDoor.lawStoreTurns
