import Derived.Test.YtlgoaohklggcdaaGreatDoorRows
import Derived.WalkKit
import Derived.ProofKit
/- Facts on the program that the card of TermsSpans asks. -/
namespace Go.Proofs.YtlgoaohklggcdaaGreatDoor.lawTermsSpans
open Go Go.RowKit
theorem inPlaceF : (Rows.termsSpansRow.inPlace == Tryz.prog.inPlace 4) = true := by kernel_rfl
theorem unfollowedF : (Rows.termsSpansRow.unfollowed == Tryz.prog.unfollowed 4) = true := by kernel_rfl
end Go.Proofs.YtlgoaohklggcdaaGreatDoor.lawTermsSpans
