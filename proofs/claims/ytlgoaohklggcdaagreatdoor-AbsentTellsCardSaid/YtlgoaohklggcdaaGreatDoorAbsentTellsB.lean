import Derived.Test.YtlgoaohklggcdaaGreatDoorRows
import Derived.WalkKit
import Derived.ProofKit
/- Facts on the program that the card of AbsentTells asks. -/
namespace Go.Proofs.YtlgoaohklggcdaaGreatDoor.lawAbsentTells
open Go Go.RowKit
theorem recursesF : (Rows.absentTellsRow.recurses == Tryz.prog.recurses 12) = true := by kernel_rfl
theorem namedF : (Rows.absentTellsRow.named == Tryz.prog.varsNamed 12) = true := by kernel_rfl
end Go.Proofs.YtlgoaohklggcdaaGreatDoor.lawAbsentTells
