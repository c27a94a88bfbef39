import Derived.Test.YtheaacliomfkoaaGreatDoorRows
import Derived.WalkKit
import Derived.ProofKit
/- Facts on the program that the card of YearFolds asks. -/
namespace Go.Proofs.YtheaacliomfkoaaGreatDoor.lawYearFolds
open Go Go.RowKit
theorem inPlaceF : (Rows.yearFoldsRow.inPlace == Tryz.prog.inPlace 4) = true := by kernel_rfl
theorem unfollowedF : (Rows.yearFoldsRow.unfollowed == Tryz.prog.unfollowed 4) = true := by kernel_rfl
end Go.Proofs.YtheaacliomfkoaaGreatDoor.lawYearFolds
