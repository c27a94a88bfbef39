import Derived.Test.YtgepbkldgnjpfaaGreatDoorCards
import Derived.WalkKit
import Derived.ProofKit
/- Facts on the program that the card of YearFirm asks. -/
namespace Go.Proofs.YtgepbkldgnjpfaaGreatDoor.lawYearFirm
open Go Go.RowKit
theorem looksF : Tryz.prog.looks [] = true := by kernel_rfl
theorem goesF : false = Rows.yearFirmRow.goesBy Tryz.prog := by kernel_rfl
end Go.Proofs.YtgepbkldgnjpfaaGreatDoor.lawYearFirm
