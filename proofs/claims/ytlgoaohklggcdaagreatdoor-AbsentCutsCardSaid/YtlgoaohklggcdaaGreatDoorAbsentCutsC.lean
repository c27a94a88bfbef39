import Derived.Test.YtlgoaohklggcdaaGreatDoorCards
import Derived.WalkKit
import Derived.ProofKit
/- Facts on the program that the card of AbsentCuts asks. -/
namespace Go.Proofs.YtlgoaohklggcdaaGreatDoor.lawAbsentCuts
open Go Go.RowKit
theorem looksF : Tryz.prog.looks [] = true := by kernel_rfl
theorem goesF : false = Rows.absentCutsRow.goesBy Tryz.prog := by kernel_rfl
end Go.Proofs.YtlgoaohklggcdaaGreatDoor.lawAbsentCuts
