import Derived.Test.YtlgoaohklggcdaaGreatDoorRows
import Derived.WalkKit
import Derived.ProofKit
/- Facts on the program that the card of TermsLater asks. -/
namespace Go.Proofs.YtlgoaohklggcdaaGreatDoor.lawTermsLater
open Go Go.RowKit
theorem inPlaceF : (Rows.termsLaterRow.inPlace == Tryz.prog.inPlace 8) = true := by kernel_rfl
theorem unfollowedF : (Rows.termsLaterRow.unfollowed == Tryz.prog.unfollowed 8) = true := by kernel_rfl
end Go.Proofs.YtlgoaohklggcdaaGreatDoor.lawTermsLater
