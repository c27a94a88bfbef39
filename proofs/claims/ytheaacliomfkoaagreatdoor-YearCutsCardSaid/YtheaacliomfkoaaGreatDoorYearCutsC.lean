import Derived.Test.YtheaacliomfkoaaGreatDoorCards
import Derived.WalkKit
import Derived.ProofKit
/- Facts on the program that the card of YearCuts asks. -/
namespace Go.Proofs.YtheaacliomfkoaaGreatDoor.lawYearCuts
open Go Go.RowKit
theorem looksF : Tryz.prog.looks [] = true := by kernel_rfl
theorem goesF : false = Rows.yearCutsRow.goesBy Tryz.prog := by kernel_rfl
end Go.Proofs.YtheaacliomfkoaaGreatDoor.lawYearCuts
