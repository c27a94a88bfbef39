import Derived.Test.YtlgoaohklggcdaaGreatDoorRows
import Derived.WalkKit
import Derived.ProofKit
/- Facts on the program that the card of TermsEmployed asks. -/
namespace Go.Proofs.YtlgoaohklggcdaaGreatDoor.lawTermsEmployed
open Go Go.RowKit
theorem recursesF : (Rows.termsEmployedRow.recurses == Tryz.prog.recurses 9) = true := by kernel_rfl
theorem namedF : (Rows.termsEmployedRow.named == Tryz.prog.varsNamed 9) = true := by kernel_rfl
end Go.Proofs.YtlgoaohklggcdaaGreatDoor.lawTermsEmployed
