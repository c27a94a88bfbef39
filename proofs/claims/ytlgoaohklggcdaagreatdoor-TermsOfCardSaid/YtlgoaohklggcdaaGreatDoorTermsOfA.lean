import Derived.Test.YtlgoaohklggcdaaGreatDoorRows
import Derived.WalkKit
import Derived.ProofKit
/- Facts on the program that the card of TermsOf asks. -/
namespace Go.Proofs.YtlgoaohklggcdaaGreatDoor.lawTermsOf
open Go Go.RowKit
theorem inPlaceF : (Rows.termsOfRow.inPlace == Tryz.prog.inPlace 3) = true := by kernel_rfl
theorem unfollowedF : (Rows.termsOfRow.unfollowed == Tryz.prog.unfollowed 3) = true := by kernel_rfl
end Go.Proofs.YtlgoaohklggcdaaGreatDoor.lawTermsOf
