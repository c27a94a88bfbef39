import Derived.Test.YtgheloooibafcaaGreatDoorRows
import Derived.WalkKit
import Derived.ProofKit
/- Facts on the program that the card of DirtyChain asks. -/
namespace Go.Proofs.YtgheloooibafcaaGreatDoor.lawDirtyChain
open Go Go.RowKit
theorem recursesF : (Rows.dirtyChainRow.recurses == Tryz.prog.recurses 5) = true := by kernel_rfl
theorem namedF : (Rows.dirtyChainRow.named == Tryz.prog.varsNamed 5) = true := by kernel_rfl
end Go.Proofs.YtgheloooibafcaaGreatDoor.lawDirtyChain
