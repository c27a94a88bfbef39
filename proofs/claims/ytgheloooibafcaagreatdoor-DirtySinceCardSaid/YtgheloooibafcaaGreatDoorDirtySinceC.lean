import Derived.Test.YtgheloooibafcaaGreatDoorCards
import Derived.WalkKit
import Derived.ProofKit
/- Facts on the program that the card of DirtySince asks. -/
namespace Go.Proofs.YtgheloooibafcaaGreatDoor.lawDirtySince
open Go Go.RowKit
theorem looksF : Tryz.prog.looks [] = true := by kernel_rfl
theorem goesF : false = Rows.dirtySinceRow.goesBy Tryz.prog := by kernel_rfl
end Go.Proofs.YtgheloooibafcaaGreatDoor.lawDirtySince
