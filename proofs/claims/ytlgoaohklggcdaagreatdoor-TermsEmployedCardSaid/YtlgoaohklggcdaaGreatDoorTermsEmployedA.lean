import Derived.Test.YtlgoaohklggcdaaGreatDoorRows
import Derived.WalkKit
import Derived.ProofKit
/- Facts on the program that the card of TermsEmployed asks. -/
namespace Go.Proofs.YtlgoaohklggcdaaGreatDoor.lawTermsEmployed
open Go Go.RowKit
theorem inPlaceF : (Rows.termsEmployedRow.inPlace == Tryz.prog.inPlace 9) = true := by kernel_rfl
theorem unfollowedF : (Rows.termsEmployedRow.unfollowed == Tryz.prog.unfollowed 9) = true := by kernel_rfl
end Go.Proofs.YtlgoaohklggcdaaGreatDoor.lawTermsEmployed
