import Derived.Test.YtlgoaohklggcdaaGreatDoorRows
import Derived.WalkKit
import Derived.ProofKit
/- Facts on the program that the card of AbsentSums asks. -/
namespace Go.Proofs.YtlgoaohklggcdaaGreatDoor.lawAbsentSums
open Go Go.RowKit
theorem recursesF : (Rows.absentSumsRow.recurses == Tryz.prog.recurses 10) = true := by kernel_rfl
theorem namedF : (Rows.absentSumsRow.named == Tryz.prog.varsNamed 10) = true := by kernel_rfl
end Go.Proofs.YtlgoaohklggcdaaGreatDoor.lawAbsentSums
