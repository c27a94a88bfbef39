import Derived.Test.YtlgoaohklggcdaaGreatDoorRows
import Derived.WalkKit
import Derived.ProofKit
/- Facts on the program that the card of TermsMeet asks. -/
namespace Go.Proofs.YtlgoaohklggcdaaGreatDoor.lawTermsMeet
open Go Go.RowKit
theorem recursesF : (Rows.termsMeetRow.recurses == Tryz.prog.recurses 5) = true := by kernel_rfl
theorem namedF : (Rows.termsMeetRow.named == Tryz.prog.varsNamed 5) = true := by kernel_rfl
end Go.Proofs.YtlgoaohklggcdaaGreatDoor.lawTermsMeet
