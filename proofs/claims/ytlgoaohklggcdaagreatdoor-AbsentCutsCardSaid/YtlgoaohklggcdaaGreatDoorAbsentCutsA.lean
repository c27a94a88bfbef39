import Derived.Test.YtlgoaohklggcdaaGreatDoorRows
import Derived.WalkKit
import Derived.ProofKit
/- Facts on the program that the card of AbsentCuts asks. -/
namespace Go.Proofs.YtlgoaohklggcdaaGreatDoor.lawAbsentCuts
open Go Go.RowKit
theorem inPlaceF : (Rows.absentCutsRow.inPlace == Tryz.prog.inPlace 13) = true := by kernel_rfl
theorem unfollowedF : (Rows.absentCutsRow.unfollowed == Tryz.prog.unfollowed 13) = true := by kernel_rfl
end Go.Proofs.YtlgoaohklggcdaaGreatDoor.lawAbsentCuts
