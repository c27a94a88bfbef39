import Derived.Test.YtmngghglcgmkeaaGreatDoorRows
import Derived.WalkKit
import Derived.ProofKit
/- Facts on the program that the card of AbsentOver asks. -/
namespace Go.Proofs.YtmngghglcgmkeaaGreatDoor.lawAbsentOver
open Go Go.RowKit
theorem recursesF : (Rows.absentOverRow.recurses == Tryz.prog.recurses 3) = true := by kernel_rfl
theorem namedF : (Rows.absentOverRow.named == Tryz.prog.varsNamed 3) = true := by kernel_rfl
end Go.Proofs.YtmngghglcgmkeaaGreatDoor.lawAbsentOver
