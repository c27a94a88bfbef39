import Derived.Test.YtmngghglcgmkeaaGreatDoorCards
import Derived.WalkKit
import Derived.ProofKit
/- Facts on the program that the card of AbsentAlone asks. -/
namespace Go.Proofs.YtmngghglcgmkeaaGreatDoor.lawAbsentAlone
open Go Go.RowKit
theorem looksF : Tryz.prog.looks [] = true := by kernel_rfl
theorem goesF : false = Rows.absentAloneRow.goesBy Tryz.prog := by kernel_rfl
end Go.Proofs.YtmngghglcgmkeaaGreatDoor.lawAbsentAlone
