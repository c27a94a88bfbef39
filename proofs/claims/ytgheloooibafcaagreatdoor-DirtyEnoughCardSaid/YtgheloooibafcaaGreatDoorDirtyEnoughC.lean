import Derived.Test.YtgheloooibafcaaGreatDoorCards
import Derived.WalkKit
import Derived.ProofKit
/- Facts on the program that the card of DirtyEnough asks. -/
namespace Go.Proofs.YtgheloooibafcaaGreatDoor.lawDirtyEnough
open Go Go.RowKit
theorem looksF : Tryz.prog.looks [] = true := by kernel_rfl
theorem goesF : false = Rows.dirtyEnoughRow.goesBy Tryz.prog := by kernel_rfl
end Go.Proofs.YtgheloooibafcaaGreatDoor.lawDirtyEnough
