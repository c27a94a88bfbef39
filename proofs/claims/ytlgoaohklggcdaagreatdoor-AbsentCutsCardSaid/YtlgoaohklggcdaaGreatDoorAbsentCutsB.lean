import Derived.Test.YtlgoaohklggcdaaGreatDoorRows
import Derived.WalkKit
import Derived.ProofKit
/- Facts on the program that the card of AbsentCuts asks. -/
namespace Go.Proofs.YtlgoaohklggcdaaGreatDoor.lawAbsentCuts
open Go Go.RowKit
theorem recursesF : (Rows.absentCutsRow.recurses == Tryz.prog.recurses 13) = true := by kernel_rfl
theorem namedF : (Rows.absentCutsRow.named == Tryz.prog.varsNamed 13) = true := by kernel_rfl
end Go.Proofs.YtlgoaohklggcdaaGreatDoor.lawAbsentCuts
