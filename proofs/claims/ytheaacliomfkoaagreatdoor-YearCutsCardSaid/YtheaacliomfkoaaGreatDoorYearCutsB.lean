import Derived.Test.YtheaacliomfkoaaGreatDoorRows
import Derived.WalkKit
import Derived.ProofKit
/- Facts on the program that the card of YearCuts asks. -/
namespace Go.Proofs.YtheaacliomfkoaaGreatDoor.lawYearCuts
open Go Go.RowKit
theorem recursesF : (Rows.yearCutsRow.recurses == Tryz.prog.recurses 5) = true := by kernel_rfl
theorem namedF : (Rows.yearCutsRow.named == Tryz.prog.varsNamed 5) = true := by kernel_rfl
end Go.Proofs.YtheaacliomfkoaaGreatDoor.lawYearCuts
