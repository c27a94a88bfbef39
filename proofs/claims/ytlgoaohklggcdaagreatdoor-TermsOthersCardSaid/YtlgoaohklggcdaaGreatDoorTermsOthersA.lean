import Derived.Test.YtlgoaohklggcdaaGreatDoorRows
import Derived.WalkKit
import Derived.ProofKit
/- Facts on the program that the card of TermsOthers asks. -/
namespace Go.Proofs.YtlgoaohklggcdaaGreatDoor.lawTermsOthers
open Go Go.RowKit
theorem inPlaceF : (Rows.termsOthersRow.inPlace == Tryz.prog.inPlace 6) = true := by kernel_rfl
theorem unfollowedF : (Rows.termsOthersRow.unfollowed == Tryz.prog.unfollowed 6) = true := by kernel_rfl
end Go.Proofs.YtlgoaohklggcdaaGreatDoor.lawTermsOthers
