import Derived.Test.YtgepbkldgnjpfaaGreatDoorCards
import Derived.WalkKit
import Derived.ProofKit
/- Facts on the program that the card of YearOrder asks. -/
namespace Go.Proofs.YtgepbkldgnjpfaaGreatDoor.lawYearOrder
open Go Go.RowKit
theorem looksF : Tryz.prog.looks [] = true := by kernel_rfl
theorem goesF : false = Rows.yearOrderRow.goesBy Tryz.prog := by kernel_rfl
end Go.Proofs.YtgepbkldgnjpfaaGreatDoor.lawYearOrder
