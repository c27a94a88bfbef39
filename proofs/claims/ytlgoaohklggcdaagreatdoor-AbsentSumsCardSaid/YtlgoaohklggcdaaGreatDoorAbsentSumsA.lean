import Derived.Test.YtlgoaohklggcdaaGreatDoorRows
import Derived.WalkKit
import Derived.ProofKit
/- Facts on the program that the card of AbsentSums asks. -/
namespace Go.Proofs.YtlgoaohklggcdaaGreatDoor.lawAbsentSums
open Go Go.RowKit
theorem inPlaceF : (Rows.absentSumsRow.inPlace == Tryz.prog.inPlace 10) = true := by kernel_rfl
theorem unfollowedF : (Rows.absentSumsRow.unfollowed == Tryz.prog.unfollowed 10) = true := by kernel_rfl
end Go.Proofs.YtlgoaohklggcdaaGreatDoor.lawAbsentSums
