import Derived.Test.YtgheloooibafcaaGreatDoorRows
import Derived.WalkKit
import Derived.ProofKit
/- Facts on the program that the card of DirtySince asks. -/
namespace Go.Proofs.YtgheloooibafcaaGreatDoor.lawDirtySince
open Go Go.RowKit
theorem recursesF : (Rows.dirtySinceRow.recurses == Tryz.prog.recurses 3) = true := by kernel_rfl
theorem namedF : (Rows.dirtySinceRow.named == Tryz.prog.varsNamed 3) = true := by kernel_rfl
end Go.Proofs.YtgheloooibafcaaGreatDoor.lawDirtySince
