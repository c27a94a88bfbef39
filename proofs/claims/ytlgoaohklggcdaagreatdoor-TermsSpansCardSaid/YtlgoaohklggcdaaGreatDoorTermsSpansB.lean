import Derived.Test.YtlgoaohklggcdaaGreatDoorRows
import Derived.WalkKit
import Derived.ProofKit
/- Facts on the program that the card of TermsSpans asks. -/
namespace Go.Proofs.YtlgoaohklggcdaaGreatDoor.lawTermsSpans
open Go Go.RowKit
theorem recursesF : (Rows.termsSpansRow.recurses == Tryz.prog.recurses 4) = true := by kernel_rfl
theorem namedF : (Rows.termsSpansRow.named == Tryz.prog.varsNamed 4) = true := by kernel_rfl
end Go.Proofs.YtlgoaohklggcdaaGreatDoor.lawTermsSpans
