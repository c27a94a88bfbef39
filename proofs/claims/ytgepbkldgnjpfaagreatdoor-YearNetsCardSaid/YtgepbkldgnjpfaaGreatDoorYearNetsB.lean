import Derived.Test.YtgepbkldgnjpfaaGreatDoorRows
import Derived.WalkKit
import Derived.ProofKit
/- Facts on the program that the card of YearNets asks. -/
namespace Go.Proofs.YtgepbkldgnjpfaaGreatDoor.lawYearNets
open Go Go.RowKit
theorem recursesF : (Rows.yearNetsRow.recurses == Tryz.prog.recurses 3) = true := by kernel_rfl
theorem namedF : (Rows.yearNetsRow.named == Tryz.prog.varsNamed 3) = true := by kernel_rfl
end Go.Proofs.YtgepbkldgnjpfaaGreatDoor.lawYearNets
