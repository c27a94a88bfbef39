import Derived.Test.YtlgoaohklggcdaaGreatDoorCards
import Derived.WalkKit
import Derived.ProofKit
/- Facts on the program that the card of AbsentTells asks. -/
namespace Go.Proofs.YtlgoaohklggcdaaGreatDoor.lawAbsentTells
open Go Go.RowKit
theorem looksF : Tryz.prog.looks [] = true := by kernel_rfl
theorem goesF : false = Rows.absentTellsRow.goesBy Tryz.prog := by kernel_rfl
end Go.Proofs.YtlgoaohklggcdaaGreatDoor.lawAbsentTells
