import Derived.Test.YtlgoaohklggcdaaGreatDoorRows
import Derived.WalkKit
import Derived.ProofKit
/- Facts on the program that the card of TermsOf asks. -/
namespace Go.Proofs.YtlgoaohklggcdaaGreatDoor.lawTermsOf
open Go Go.RowKit
theorem recursesF : (Rows.termsOfRow.recurses == Tryz.prog.recurses 3) = true := by kernel_rfl
theorem namedF : (Rows.termsOfRow.named == Tryz.prog.varsNamed 3) = true := by kernel_rfl
end Go.Proofs.YtlgoaohklggcdaaGreatDoor.lawTermsOf
