import Derived.Test.YtmngghglcgmkeaaGreatDoorRows
import Derived.WalkKit
import Derived.ProofKit
/- Facts on the program that the card of AbsentAlone asks. -/
namespace Go.Proofs.YtmngghglcgmkeaaGreatDoor.lawAbsentAlone
open Go Go.RowKit
theorem recursesF : (Rows.absentAloneRow.recurses == Tryz.prog.recurses 4) = true := by kernel_rfl
theorem namedF : (Rows.absentAloneRow.named == Tryz.prog.varsNamed 4) = true := by kernel_rfl
end Go.Proofs.YtmngghglcgmkeaaGreatDoor.lawAbsentAlone
