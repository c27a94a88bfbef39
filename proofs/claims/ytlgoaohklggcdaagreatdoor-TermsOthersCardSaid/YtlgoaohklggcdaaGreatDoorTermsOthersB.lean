import Derived.Test.YtlgoaohklggcdaaGreatDoorRows
import Derived.WalkKit
import Derived.ProofKit
/- Facts on the program that the card of TermsOthers asks. -/
namespace Go.Proofs.YtlgoaohklggcdaaGreatDoor.lawTermsOthers
open Go Go.RowKit
theorem recursesF : (Rows.termsOthersRow.recurses == Tryz.prog.recurses 6) = true := by kernel_rfl
theorem namedF : (Rows.termsOthersRow.named == Tryz.prog.varsNamed 6) = true := by kernel_rfl
end Go.Proofs.YtlgoaohklggcdaaGreatDoor.lawTermsOthers
