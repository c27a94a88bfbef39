import Derived.Test.YtdkbbngedjiheaaGreatDoorRows
import Derived.WalkKit
import Derived.ProofKit
/- Facts on the program that the card of StoreTurns asks. -/
namespace Go.Proofs.YtdkbbngedjiheaaGreatDoor.lawStoreTurns
open Go Go.RowKit
theorem recursesF : (Rows.storeTurnsRow.recurses == Tryz.prog.recurses 3) = true := by kernel_rfl
theorem namedF : (Rows.storeTurnsRow.named == Tryz.prog.varsNamed 3) = true := by kernel_rfl
end Go.Proofs.YtdkbbngedjiheaaGreatDoor.lawStoreTurns
