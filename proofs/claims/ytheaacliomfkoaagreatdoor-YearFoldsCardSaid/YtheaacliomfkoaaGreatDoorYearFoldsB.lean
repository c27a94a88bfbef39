import Derived.Test.YtheaacliomfkoaaGreatDoorRows
import Derived.WalkKit
import Derived.ProofKit
/- Facts on the program that the card of YearFolds asks. -/
namespace Go.Proofs.YtheaacliomfkoaaGreatDoor.lawYearFolds
open Go Go.RowKit
theorem recursesF : (Rows.yearFoldsRow.recurses == Tryz.prog.recurses 4) = true := by kernel_rfl
theorem namedF : (Rows.yearFoldsRow.named == Tryz.prog.varsNamed 4) = true := by kernel_rfl
end Go.Proofs.YtheaacliomfkoaaGreatDoor.lawYearFolds
