/-
  DERIVED. GIVEN WITH THE SEED: THE CARDS: each row of YtkbpdbfldijeeaaDoorRows.lean that lists a variable, with what it lists TIED to the program's text (the seventh form; the later family's looks); each row that meets fmt, with fmt's text TOLD by the authors' own Lean function (tested against real Go, not proved from fmt's source: count such statements apart). THE CARD IS WHAT COUNTS. Prove the row's statement (the work); the ties are given (YtkbpdbfldijeeaaDoorTie.lean); close each card by the builder's one call (the guide's Derived/Test/ToyasCard.lean, 'card_holds'). Laid BY PROGRAM, IN A SANDBOX (cutbox-door.mjs). By AI agents, Wed Nov 11 2026. No macro, syntax, notation, axiom, sorry.
-/
import Derived.Test.YtkbpdbfldijeeaaDoorRows
import GoSem.ClaimSeven
namespace Go.Proofs.YtkbpdbfldijeeaaDoor
namespace Rows

/-- THE TIED CARD OF 'wagebooklaw19.LeaveFolds'. -/
def leaveFoldsCard : Claim7 := { stood := { row := leaveFoldsRow, standIns := [], harness := (true, "cd484ff9bc5db7e6493f7c117a0fc23e84afa1c587435bfe6cc51f2638fa8d77"), looks := false }, kinds := [], alts := [], laidByText := true, laidKinds := [.data, .data, .data, .data], laidTests := true, laidLooks := .later }
def LeaveFoldsCardSaid : Prop := Claim7.holds Tryd.pinned (.plain (OpenSpec.ofChange leaveFoldsSpec)) leaveFoldsCard

/-- THE TIED CARD OF 'wagebooklaw19.LeaveSums'. -/
def leaveSumsCard : Claim7 := { stood := { row := leaveSumsRow, standIns := [], harness := (true, "cd484ff9bc5db7e6493f7c117a0fc23e84afa1c587435bfe6cc51f2638fa8d77"), looks := false }, kinds := [], alts := [], laidByText := true, laidKinds := [.data, .data, .data, .data], laidTests := true, laidLooks := .later }
def LeaveSumsCardSaid : Prop := Claim7.holds Tryd.pinned (.plain (OpenSpec.ofChange leaveSumsSpec)) leaveSumsCard

/-- THE TIED CARD OF 'wagebooklaw19.LeaveLater'. -/
def leaveLaterCard : Claim7 := { stood := { row := leaveLaterRow, standIns := [], harness := (true, "cd484ff9bc5db7e6493f7c117a0fc23e84afa1c587435bfe6cc51f2638fa8d77"), looks := false }, kinds := [], alts := [], laidByText := true, laidKinds := [.data, .data, .data, .data], laidTests := true, laidLooks := .later }
def LeaveLaterCardSaid : Prop := Claim7.holds Tryd.pinned (.plain (OpenSpec.ofChange leaveLaterSpec)) leaveLaterCard

/-- THE TIED CARD OF 'wagebooklaw19.LeaveTurns'. -/
def leaveTurnsCard : Claim7 := { stood := { row := leaveTurnsRow, standIns := [], harness := (true, "cd484ff9bc5db7e6493f7c117a0fc23e84afa1c587435bfe6cc51f2638fa8d77"), looks := false }, kinds := [], alts := [], laidByText := true, laidKinds := [.data, .data, .data, .data], laidTests := true, laidLooks := .later }
def LeaveTurnsCardSaid : Prop := Claim7.holds Tryd.pinned (.plain (OpenSpec.ofChange leaveTurnsSpec)) leaveTurnsCard

/-- THE TIED CARD OF 'wagebooklaw19.LeaveTexts'. -/
def leaveTextsCard : Claim7 := { stood := { row := leaveTextsRow, standIns := [], harness := (true, "cd484ff9bc5db7e6493f7c117a0fc23e84afa1c587435bfe6cc51f2638fa8d77"), looks := false }, kinds := [], alts := [], laidByText := true, laidKinds := [.data, .data, .data, .data], laidTests := true, laidLooks := .later }
def LeaveTextsCardSaid : Prop := Claim7.holds Tryd.pinned (.plain (OpenSpec.ofChange leaveTextsSpec)) leaveTextsCard

/-- THE TIED CARD OF 'wagebooklaw19.LeaveJoins'. -/
def leaveJoinsCard : Claim7 := { stood := { row := leaveJoinsRow, standIns := [], harness := (true, "cd484ff9bc5db7e6493f7c117a0fc23e84afa1c587435bfe6cc51f2638fa8d77"), looks := false }, kinds := [], alts := [], laidByText := true, laidKinds := [.data, .data, .data, .data], laidTests := true, laidLooks := .later }
def LeaveJoinsCardSaid : Prop := Claim7.holds Tryd.pinned (.plain (OpenSpec.ofChange leaveJoinsSpec)) leaveJoinsCard

/-- THE SECOND FORM's CARD OF 'wagebooklaw19.LeaveFolds'. -/
def leaveFoldsUptoCard : Claim7 := { stood := { row := leaveFoldsUptoRow, standIns := [], harness := (true, "cd484ff9bc5db7e6493f7c117a0fc23e84afa1c587435bfe6cc51f2638fa8d77"), looks := false }, kinds := [], alts := [], laidByText := true, laidKinds := [.data, .data, .data, .data], laidTests := true, laidLooks := .later }
def LeaveFoldsUptoCardSaid : Prop := Claim7.holds Tryd.pinned (.plain (OpenSpec.upto leaveFoldsSpec)) leaveFoldsUptoCard

/-- THE SECOND FORM's CARD OF 'wagebooklaw19.LeaveSums'. -/
def leaveSumsUptoCard : Claim7 := { stood := { row := leaveSumsUptoRow, standIns := [], harness := (true, "cd484ff9bc5db7e6493f7c117a0fc23e84afa1c587435bfe6cc51f2638fa8d77"), looks := false }, kinds := [], alts := [], laidByText := true, laidKinds := [.data, .data, .data, .data], laidTests := true, laidLooks := .later }
def LeaveSumsUptoCardSaid : Prop := Claim7.holds Tryd.pinned (.plain (OpenSpec.upto leaveSumsSpec)) leaveSumsUptoCard

/-- THE SECOND FORM's CARD OF 'wagebooklaw19.LeaveLater'. -/
def leaveLaterUptoCard : Claim7 := { stood := { row := leaveLaterUptoRow, standIns := [], harness := (true, "cd484ff9bc5db7e6493f7c117a0fc23e84afa1c587435bfe6cc51f2638fa8d77"), looks := false }, kinds := [], alts := [], laidByText := true, laidKinds := [.data, .data, .data, .data], laidTests := true, laidLooks := .later }
def LeaveLaterUptoCardSaid : Prop := Claim7.holds Tryd.pinned (.plain (OpenSpec.upto leaveLaterSpec)) leaveLaterUptoCard

/-- THE SECOND FORM's CARD OF 'wagebooklaw19.LeaveTurns'. -/
def leaveTurnsUptoCard : Claim7 := { stood := { row := leaveTurnsUptoRow, standIns := [], harness := (true, "cd484ff9bc5db7e6493f7c117a0fc23e84afa1c587435bfe6cc51f2638fa8d77"), looks := false }, kinds := [], alts := [], laidByText := true, laidKinds := [.data, .data, .data, .data], laidTests := true, laidLooks := .later }
def LeaveTurnsUptoCardSaid : Prop := Claim7.holds Tryd.pinned (.plain (OpenSpec.upto leaveTurnsSpec)) leaveTurnsUptoCard

/-- THE SECOND FORM's CARD OF 'wagebooklaw19.LeaveTexts'. -/
def leaveTextsUptoCard : Claim7 := { stood := { row := leaveTextsUptoRow, standIns := [], harness := (true, "cd484ff9bc5db7e6493f7c117a0fc23e84afa1c587435bfe6cc51f2638fa8d77"), looks := false }, kinds := [], alts := [], laidByText := true, laidKinds := [.data, .data, .data, .data], laidTests := true, laidLooks := .later }
def LeaveTextsUptoCardSaid : Prop := Claim7.holds Tryd.pinned (.plain (OpenSpec.upto leaveTextsSpec)) leaveTextsUptoCard

/-- THE SECOND FORM's CARD OF 'wagebooklaw19.LeaveJoins'. -/
def leaveJoinsUptoCard : Claim7 := { stood := { row := leaveJoinsUptoRow, standIns := [], harness := (true, "cd484ff9bc5db7e6493f7c117a0fc23e84afa1c587435bfe6cc51f2638fa8d77"), looks := false }, kinds := [], alts := [], laidByText := true, laidKinds := [.data, .data, .data, .data], laidTests := true, laidLooks := .later }
def LeaveJoinsUptoCardSaid : Prop := Claim7.holds Tryd.pinned (.plain (OpenSpec.upto leaveJoinsSpec)) leaveJoinsUptoCard
end Rows
end Go.Proofs.YtkbpdbfldijeeaaDoor
