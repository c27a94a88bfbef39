import Derived.Test.YtgepbkldgnjpfaaGreatDoorRows
import Derived.WalkKit
import Derived.ProofKit
/- Facts on the program that the card of YearFirm asks. -/
namespace Go.Proofs.YtgepbkldgnjpfaaGreatDoor.lawYearFirm
open Go Go.RowKit
theorem recursesF : (Rows.yearFirmRow.recurses == Tryz.prog.recurses 4) = true := by kernel_rfl
theorem namedF : (Rows.yearFirmRow.named == Tryz.prog.varsNamed 4) = true := by kernel_rfl
end Go.Proofs.YtgepbkldgnjpfaaGreatDoor.lawYearFirm
