import Derived.Test.YtmngghglcgmkeaaGreatDoorCards
import Derived.WalkKit
import Derived.ProofKit
/- Facts on the program that the card of LeaveMoves asks. -/
namespace Go.Proofs.YtmngghglcgmkeaaGreatDoor.lawLeaveMoves
open Go Go.RowKit
theorem looksF : Tryz.prog.looks [] = true := by kernel_rfl
theorem goesF : false = Rows.leaveMovesRow.goesBy Tryz.prog := by kernel_rfl
end Go.Proofs.YtmngghglcgmkeaaGreatDoor.lawLeaveMoves
