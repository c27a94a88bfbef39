import Derived.Test.YtlgoaohklggcdaaGreatDoorCards
import Derived.WalkKit
import Derived.ProofKit
/- Facts on the program that the card of TermsOthers asks. -/
namespace Go.Proofs.YtlgoaohklggcdaaGreatDoor.lawTermsOthers
open Go Go.RowKit
theorem looksF : Tryz.prog.looks [] = true := by kernel_rfl
theorem goesF : false = Rows.termsOthersRow.goesBy Tryz.prog := by kernel_rfl
end Go.Proofs.YtlgoaohklggcdaaGreatDoor.lawTermsOthers
