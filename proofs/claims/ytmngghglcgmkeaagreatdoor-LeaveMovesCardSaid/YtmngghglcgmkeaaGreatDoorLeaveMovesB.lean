import Derived.Test.YtmngghglcgmkeaaGreatDoorRows
import Derived.WalkKit
import Derived.ProofKit
/- Facts on the program that the card of LeaveMoves asks. -/
namespace Go.Proofs.YtmngghglcgmkeaaGreatDoor.lawLeaveMoves
open Go Go.RowKit
theorem recursesF : (Rows.leaveMovesRow.recurses == Tryz.prog.recurses 5) = true := by kernel_rfl
theorem namedF : (Rows.leaveMovesRow.named == Tryz.prog.varsNamed 5) = true := by kernel_rfl
end Go.Proofs.YtmngghglcgmkeaaGreatDoor.lawLeaveMoves
