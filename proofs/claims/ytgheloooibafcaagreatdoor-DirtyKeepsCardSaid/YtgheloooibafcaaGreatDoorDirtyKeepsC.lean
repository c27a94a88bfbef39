import Derived.Test.YtgheloooibafcaaGreatDoorCards
import Derived.WalkKit
import Derived.ProofKit
/- Facts on the program that the card of DirtyKeeps asks. -/
namespace Go.Proofs.YtgheloooibafcaaGreatDoor.lawDirtyKeeps
open Go Go.RowKit
theorem looksF : Tryz.prog.looks [] = true := by kernel_rfl
theorem goesF : false = Rows.dirtyKeepsRow.goesBy Tryz.prog := by kernel_rfl
end Go.Proofs.YtgheloooibafcaaGreatDoor.lawDirtyKeeps
