import Derived.Test.YtgheloooibafcaaGreatDoorRows
import Derived.WalkKit
import Derived.ProofKit
/- Facts on the program that the card of DirtySame asks. -/
namespace Go.Proofs.YtgheloooibafcaaGreatDoor.lawDirtySame
open Go Go.RowKit
theorem recursesF : (Rows.dirtySameRow.recurses == Tryz.prog.recurses 4) = true := by kernel_rfl
theorem namedF : (Rows.dirtySameRow.named == Tryz.prog.varsNamed 4) = true := by kernel_rfl
end Go.Proofs.YtgheloooibafcaaGreatDoor.lawDirtySame
