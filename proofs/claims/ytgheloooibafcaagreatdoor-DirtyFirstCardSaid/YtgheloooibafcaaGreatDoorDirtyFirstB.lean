import Derived.Test.YtgheloooibafcaaGreatDoorRows
import Derived.WalkKit
import Derived.ProofKit
/- Facts on the program that the card of DirtyFirst asks. -/
namespace Go.Proofs.YtgheloooibafcaaGreatDoor.lawDirtyFirst
open Go Go.RowKit
theorem recursesF : (Rows.dirtyFirstRow.recurses == Tryz.prog.recurses 6) = true := by kernel_rfl
theorem namedF : (Rows.dirtyFirstRow.named == Tryz.prog.varsNamed 6) = true := by kernel_rfl
end Go.Proofs.YtgheloooibafcaaGreatDoor.lawDirtyFirst
