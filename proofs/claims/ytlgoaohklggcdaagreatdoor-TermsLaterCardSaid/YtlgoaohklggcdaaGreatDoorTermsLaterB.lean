import Derived.Test.YtlgoaohklggcdaaGreatDoorRows
import Derived.WalkKit
import Derived.ProofKit
/- Facts on the program that the card of TermsLater asks. -/
namespace Go.Proofs.YtlgoaohklggcdaaGreatDoor.lawTermsLater
open Go Go.RowKit
theorem recursesF : (Rows.termsLaterRow.recurses == Tryz.prog.recurses 8) = true := by kernel_rfl
theorem namedF : (Rows.termsLaterRow.named == Tryz.prog.varsNamed 8) = true := by kernel_rfl
end Go.Proofs.YtlgoaohklggcdaaGreatDoor.lawTermsLater
