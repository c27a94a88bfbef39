import Derived.Test.YtheaacliomfkoaaGreatDoorRows
import Derived.WalkKit
import Derived.ProofKit
/- Facts on the program that the card of YearCuts asks. -/
namespace Go.Proofs.YtheaacliomfkoaaGreatDoor.lawYearCuts
open Go Go.RowKit
theorem inPlaceF : (Rows.yearCutsRow.inPlace == Tryz.prog.inPlace 5) = true := by kernel_rfl
theorem unfollowedF : (Rows.yearCutsRow.unfollowed == Tryz.prog.unfollowed 5) = true := by kernel_rfl
end Go.Proofs.YtheaacliomfkoaaGreatDoor.lawYearCuts
