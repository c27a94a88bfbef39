import Derived.Test.YtlgoaohklggcdaaGreatDoorRows
import Derived.WalkKit
import Derived.ProofKit
/- Facts on the program that the card of TermsCosts asks. -/
namespace Go.Proofs.YtlgoaohklggcdaaGreatDoor.lawTermsCosts
open Go Go.RowKit
theorem recursesF : (Rows.termsCostsRow.recurses == Tryz.prog.recurses 7) = true := by kernel_rfl
theorem namedF : (Rows.termsCostsRow.named == Tryz.prog.varsNamed 7) = true := by kernel_rfl
end Go.Proofs.YtlgoaohklggcdaaGreatDoor.lawTermsCosts
