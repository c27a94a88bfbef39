/-
  DERIVED. GIVEN WITH THE SEED: THE CARDS: each row of YtmngghglcgmkeaaGreatDoorRows.lean that lists a variable, with what it lists TIED to the program's text (the seventh form; the later family's looks); each row that meets fmt, with fmt's text TOLD by the authors' own Lean function (tested against real Go, not proved from fmt's source: count such statements apart). THE CARD IS WHAT COUNTS. Prove the row's statement (the work); the ties are given (YtmngghglcgmkeaaGreatDoorTie.lean); close each card by the builder's one call (the guide's Derived/Test/ToyasCard.lean, 'card_holds'). Laid BY PROGRAM, IN A SANDBOX (cutbox-door.mjs). By AI agents, Wed Nov 11 2026. No macro, syntax, notation, axiom, sorry.
-/
import Derived.Test.YtmngghglcgmkeaaGreatDoorRows
import GoSem.ClaimSeven
namespace Go.Proofs.YtmngghglcgmkeaaGreatDoor
namespace Rows

/-- THE TIED CARD OF 'wagebooklaw18.AbsentOver'. -/
def absentOverCard : Claim7 := { stood := { row := absentOverRow, standIns := [], harness := (true, "7b3e7c904e2129289a41559ab1615fcb97bc21bcd18b04f8c558e10123ab9fe2"), looks := true }, kinds := [], alts := [], laidByText := true, laidKinds := [.data, .data, .data, .data, .data, .sentinel, .sentinel, .pinned], laidTests := true, laidLooks := .later }
def AbsentOverCardSaid : Prop := Claim7.holds Tryz.pinned (.plain (OpenSpec.ofChange absentOverSpec)) absentOverCard

/-- THE TIED CARD OF 'wagebooklaw18.AbsentAlone'. -/
def absentAloneCard : Claim7 := { stood := { row := absentAloneRow, standIns := [], harness := (true, "7b3e7c904e2129289a41559ab1615fcb97bc21bcd18b04f8c558e10123ab9fe2"), looks := true }, kinds := [], alts := [], laidByText := true, laidKinds := [.data, .data, .data, .data, .data, .sentinel, .sentinel, .pinned], laidTests := true, laidLooks := .later }
def AbsentAloneCardSaid : Prop := Claim7.holds Tryz.pinned (.plain (OpenSpec.ofChange absentAloneSpec)) absentAloneCard

/-- THE TIED CARD OF 'wagebooklaw19.LeaveMoves'. -/
def leaveMovesCard : Claim7 := { stood := { row := leaveMovesRow, standIns := [], harness := (true, "7b3e7c904e2129289a41559ab1615fcb97bc21bcd18b04f8c558e10123ab9fe2"), looks := true }, kinds := [], alts := [], laidByText := true, laidKinds := [.data, .data, .data, .data, .data, .sentinel, .sentinel, .pinned], laidTests := true, laidLooks := .later }
def LeaveMovesCardSaid : Prop := Claim7.holds Tryz.pinned (.plain (OpenSpec.ofChange leaveMovesSpec)) leaveMovesCard

/-- THE SECOND FORM's CARD OF 'wagebooklaw18.AbsentOver'. -/
def absentOverUptoCard : Claim7 := { stood := { row := absentOverUptoRow, standIns := [], harness := (true, "7b3e7c904e2129289a41559ab1615fcb97bc21bcd18b04f8c558e10123ab9fe2"), looks := true }, kinds := [], alts := [], laidByText := true, laidKinds := [.data, .data, .data, .data, .data, .sentinel, .sentinel, .pinned], laidTests := true, laidLooks := .later }
def AbsentOverUptoCardSaid : Prop := Claim7.holds Tryz.pinned (.plain (OpenSpec.upto absentOverSpec)) absentOverUptoCard

/-- THE SECOND FORM's CARD OF 'wagebooklaw18.AbsentAlone'. -/
def absentAloneUptoCard : Claim7 := { stood := { row := absentAloneUptoRow, standIns := [], harness := (true, "7b3e7c904e2129289a41559ab1615fcb97bc21bcd18b04f8c558e10123ab9fe2"), looks := true }, kinds := [], alts := [], laidByText := true, laidKinds := [.data, .data, .data, .data, .data, .sentinel, .sentinel, .pinned], laidTests := true, laidLooks := .later }
def AbsentAloneUptoCardSaid : Prop := Claim7.holds Tryz.pinned (.plain (OpenSpec.upto absentAloneSpec)) absentAloneUptoCard

/-- THE SECOND FORM's CARD OF 'wagebooklaw19.LeaveMoves'. -/
def leaveMovesUptoCard : Claim7 := { stood := { row := leaveMovesUptoRow, standIns := [], harness := (true, "7b3e7c904e2129289a41559ab1615fcb97bc21bcd18b04f8c558e10123ab9fe2"), looks := true }, kinds := [], alts := [], laidByText := true, laidKinds := [.data, .data, .data, .data, .data, .sentinel, .sentinel, .pinned], laidTests := true, laidLooks := .later }
def LeaveMovesUptoCardSaid : Prop := Claim7.holds Tryz.pinned (.plain (OpenSpec.upto leaveMovesSpec)) leaveMovesUptoCard
end Rows
end Go.Proofs.YtmngghglcgmkeaaGreatDoor
