import Derived.Test.YtgheloooibafcaaGreatDoorRows
import Derived.WalkKit
import Derived.ProofKit
/- Facts on the program that the card of DirtyEnough asks. -/
namespace Go.Proofs.YtgheloooibafcaaGreatDoor.lawDirtyEnough
open Go Go.RowKit
theorem recursesF : (Rows.dirtyEnoughRow.recurses == Tryz.prog.recurses 8) = true := by kernel_rfl
theorem namedF : (Rows.dirtyEnoughRow.named == Tryz.prog.varsNamed 8) = true := by kernel_rfl
end Go.Proofs.YtgheloooibafcaaGreatDoor.lawDirtyEnough
