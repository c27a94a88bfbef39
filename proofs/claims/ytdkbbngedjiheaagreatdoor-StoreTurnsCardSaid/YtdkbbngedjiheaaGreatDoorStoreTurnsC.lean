import Derived.Test.YtdkbbngedjiheaaGreatDoorCards
import Derived.WalkKit
import Derived.ProofKit
/- Facts on the program that the card of StoreTurns asks. -/
namespace Go.Proofs.YtdkbbngedjiheaaGreatDoor.lawStoreTurns
open Go Go.RowKit
theorem looksF : Tryz.prog.looks [] = true := by kernel_rfl
theorem goesF : false = Rows.storeTurnsRow.goesBy Tryz.prog := by kernel_rfl
end Go.Proofs.YtdkbbngedjiheaaGreatDoor.lawStoreTurns
