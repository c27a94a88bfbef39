import Derived.Test.YtlgoaohklggcdaaGreatDoorRows
import Derived.WalkKit
import Derived.ProofKit
/- Facts on the program that the card of TermsMeet asks. -/
namespace Go.Proofs.YtlgoaohklggcdaaGreatDoor.lawTermsMeet
open Go Go.RowKit
theorem inPlaceF : (Rows.termsMeetRow.inPlace == Tryz.prog.inPlace 5) = true := by kernel_rfl
theorem unfollowedF : (Rows.termsMeetRow.unfollowed == Tryz.prog.unfollowed 5) = true := by kernel_rfl
end Go.Proofs.YtlgoaohklggcdaaGreatDoor.lawTermsMeet
