import Derived.Test.YtlgoaohklggcdaaGreatDoorCards
import Derived.WalkKit
import Derived.ProofKit
/- Facts on the program that the card of TermsSpans asks. -/
namespace Go.Proofs.YtlgoaohklggcdaaGreatDoor.lawTermsSpans
open Go Go.RowKit
theorem looksF : Tryz.prog.looks [] = true := by kernel_rfl
theorem goesF : false = Rows.termsSpansRow.goesBy Tryz.prog := by kernel_rfl
end Go.Proofs.YtlgoaohklggcdaaGreatDoor.lawTermsSpans
