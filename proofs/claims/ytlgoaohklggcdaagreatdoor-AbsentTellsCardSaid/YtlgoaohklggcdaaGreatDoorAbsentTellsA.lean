import Derived.Test.YtlgoaohklggcdaaGreatDoorRows
import Derived.WalkKit
import Derived.ProofKit
/- Facts on the program that the card of AbsentTells asks. -/
namespace Go.Proofs.YtlgoaohklggcdaaGreatDoor.lawAbsentTells
open Go Go.RowKit
theorem inPlaceF : (Rows.absentTellsRow.inPlace == Tryz.prog.inPlace 12) = true := by kernel_rfl
theorem unfollowedF : (Rows.absentTellsRow.unfollowed == Tryz.prog.unfollowed 12) = true := by kernel_rfl
end Go.Proofs.YtlgoaohklggcdaaGreatDoor.lawAbsentTells
