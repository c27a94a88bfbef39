import Derived.Test.YtgheloooibafcaaGreatDoorRows
import Derived.WalkKit
import Derived.ProofKit
/- Facts on the program that the card of DirtySame asks. -/
namespace Go.Proofs.YtgheloooibafcaaGreatDoor.lawDirtySame
open Go Go.RowKit
theorem inPlaceF : (Rows.dirtySameRow.inPlace == Tryz.prog.inPlace 4) = true := by kernel_rfl
theorem unfollowedF : (Rows.dirtySameRow.unfollowed == Tryz.prog.unfollowed 4) = true := by kernel_rfl
end Go.Proofs.YtgheloooibafcaaGreatDoor.lawDirtySame
