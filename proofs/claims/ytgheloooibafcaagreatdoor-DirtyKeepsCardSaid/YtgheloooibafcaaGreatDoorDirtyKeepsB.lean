import Derived.Test.YtgheloooibafcaaGreatDoorRows
import Derived.WalkKit
import Derived.ProofKit
/- Facts on the program that the card of DirtyKeeps asks. -/
namespace Go.Proofs.YtgheloooibafcaaGreatDoor.lawDirtyKeeps
open Go Go.RowKit
theorem recursesF : (Rows.dirtyKeepsRow.recurses == Tryz.prog.recurses 7) = true := by kernel_rfl
theorem namedF : (Rows.dirtyKeepsRow.named == Tryz.prog.varsNamed 7) = true := by kernel_rfl
end Go.Proofs.YtgheloooibafcaaGreatDoor.lawDirtyKeeps
