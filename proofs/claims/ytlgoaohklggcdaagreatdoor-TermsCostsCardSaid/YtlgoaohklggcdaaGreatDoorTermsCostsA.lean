import Derived.Test.YtlgoaohklggcdaaGreatDoorRows
import Derived.WalkKit
import Derived.ProofKit
/- Facts on the program that the card of TermsCosts asks. -/
namespace Go.Proofs.YtlgoaohklggcdaaGreatDoor.lawTermsCosts
open Go Go.RowKit
theorem inPlaceF : (Rows.termsCostsRow.inPlace == Tryz.prog.inPlace 7) = true := by kernel_rfl
theorem unfollowedF : (Rows.termsCostsRow.unfollowed == Tryz.prog.unfollowed 7) = true := by kernel_rfl
end Go.Proofs.YtlgoaohklggcdaaGreatDoor.lawTermsCosts
