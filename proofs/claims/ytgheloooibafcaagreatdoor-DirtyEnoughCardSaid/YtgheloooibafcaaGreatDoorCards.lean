/-
  DERIVED. GIVEN WITH THE SEED: THE CARDS: each row of YtgheloooibafcaaGreatDoorRows.lean that lists a variable, with what it lists TIED to the program's text (the seventh form; the later family's looks); each row that meets fmt, with fmt's text TOLD by the authors' own Lean function (tested against real Go, not proved from fmt's source: count such statements apart). THE CARD IS WHAT COUNTS. Prove the row's statement (the work); the ties are given (YtgheloooibafcaaGreatDoorTie.lean); close each card by the builder's one call (the guide's Derived/Test/ToyasCard.lean, 'card_holds'). Laid BY PROGRAM, IN A SANDBOX (cutbox-door.mjs). By AI agents, Wed Nov 11 2026. No macro, syntax, notation, axiom, sorry.
-/
import Derived.Test.YtgheloooibafcaaGreatDoorRows
import GoSem.ClaimSeven
namespace Go.Proofs.YtgheloooibafcaaGreatDoor
namespace Rows

/-- THE TIED CARD OF 'wagebooklaw32.DirtySince'. -/
def dirtySinceCard : Claim7 := { stood := { row := dirtySinceRow, standIns := [], harness := (true, "3ef3d423f552b4e4f6779c8fc1f91b03af2276ae6ccbec5ad6a7bbc24c3b7708"), looks := true }, kinds := [], alts := [], laidByText := true, laidKinds := [.data, .data, .data, .data, .data, .sentinel, .sentinel, .data, .pinned], laidTests := true, laidLooks := .later }
def DirtySinceCardSaid : Prop := Claim7.holds Tryz.pinned (.plain (OpenSpec.ofChange dirtySinceSpec)) dirtySinceCard

/-- THE TIED CARD OF 'wagebooklaw32.DirtySame'. -/
def dirtySameCard : Claim7 := { stood := { row := dirtySameRow, standIns := [], harness := (true, "3ef3d423f552b4e4f6779c8fc1f91b03af2276ae6ccbec5ad6a7bbc24c3b7708"), looks := true }, kinds := [], alts := [], laidByText := true, laidKinds := [.data, .data, .data, .data, .data, .sentinel, .sentinel, .data, .pinned], laidTests := true, laidLooks := .later }
def DirtySameCardSaid : Prop := Claim7.holds Tryz.pinned (.plain (OpenSpec.ofChange dirtySameSpec)) dirtySameCard

/-- THE TIED CARD OF 'wagebooklaw32.DirtyChain'. -/
def dirtyChainCard : Claim7 := { stood := { row := dirtyChainRow, standIns := [], harness := (true, "3ef3d423f552b4e4f6779c8fc1f91b03af2276ae6ccbec5ad6a7bbc24c3b7708"), looks := true }, kinds := [], alts := [], laidByText := true, laidKinds := [.data, .data, .data, .data, .data, .sentinel, .sentinel, .data, .pinned], laidTests := true, laidLooks := .later }
def DirtyChainCardSaid : Prop := Claim7.holds Tryz.pinned (.plain (OpenSpec.ofChange dirtyChainSpec)) dirtyChainCard

/-- THE TIED CARD OF 'wagebooklaw32.DirtyFirst'. -/
def dirtyFirstCard : Claim7 := { stood := { row := dirtyFirstRow, standIns := [], harness := (true, "3ef3d423f552b4e4f6779c8fc1f91b03af2276ae6ccbec5ad6a7bbc24c3b7708"), looks := true }, kinds := [], alts := [], laidByText := true, laidKinds := [.data, .data, .data, .data, .data, .sentinel, .sentinel, .data, .pinned], laidTests := true, laidLooks := .later }
def DirtyFirstCardSaid : Prop := Claim7.holds Tryz.pinned (.plain (OpenSpec.ofChange dirtyFirstSpec)) dirtyFirstCard

/-- THE TIED CARD OF 'wagebooklaw32.DirtyKeeps'. -/
def dirtyKeepsCard : Claim7 := { stood := { row := dirtyKeepsRow, standIns := [], harness := (true, "3ef3d423f552b4e4f6779c8fc1f91b03af2276ae6ccbec5ad6a7bbc24c3b7708"), looks := true }, kinds := [], alts := [], laidByText := true, laidKinds := [.data, .data, .data, .data, .data, .sentinel, .sentinel, .data, .pinned], laidTests := true, laidLooks := .later }
def DirtyKeepsCardSaid : Prop := Claim7.holds Tryz.pinned (.plain (OpenSpec.ofChange dirtyKeepsSpec)) dirtyKeepsCard

/-- THE TIED CARD OF 'wagebooklaw32.DirtyEnough'. -/
def dirtyEnoughCard : Claim7 := { stood := { row := dirtyEnoughRow, standIns := [], harness := (true, "3ef3d423f552b4e4f6779c8fc1f91b03af2276ae6ccbec5ad6a7bbc24c3b7708"), looks := true }, kinds := [], alts := [], laidByText := true, laidKinds := [.data, .data, .data, .data, .data, .sentinel, .sentinel, .data, .pinned], laidTests := true, laidLooks := .later }
def DirtyEnoughCardSaid : Prop := Claim7.holds Tryz.pinned (.plain (OpenSpec.ofChange dirtyEnoughSpec)) dirtyEnoughCard

/-- THE TIED CARD OF 'wagebooklaw16.TermsOf'. -/
def termsOfCard : Claim7 := { stood := { row := termsOfRow, standIns := [], harness := (true, "3ef3d423f552b4e4f6779c8fc1f91b03af2276ae6ccbec5ad6a7bbc24c3b7708"), looks := true }, kinds := [], alts := [], laidByText := true, laidKinds := [.data, .data, .data, .data, .data, .sentinel, .sentinel, .pinned], laidTests := true, laidLooks := .later }
def TermsOfCardSaid : Prop := Claim7.holds Tryz.pinned (.plain (OpenSpec.ofChange termsOfSpec)) termsOfCard

/-- THE TIED CARD OF 'wagebooklaw16.TermsSpans'. -/
def termsSpansCard : Claim7 := { stood := { row := termsSpansRow, standIns := [], harness := (true, "3ef3d423f552b4e4f6779c8fc1f91b03af2276ae6ccbec5ad6a7bbc24c3b7708"), looks := true }, kinds := [], alts := [], laidByText := true, laidKinds := [.data, .data, .data, .data, .data, .sentinel, .sentinel, .pinned], laidTests := true, laidLooks := .later }
def TermsSpansCardSaid : Prop := Claim7.holds Tryz.pinned (.plain (OpenSpec.ofChange termsSpansSpec)) termsSpansCard

/-- THE TIED CARD OF 'wagebooklaw16.TermsMeet'. -/
def termsMeetCard : Claim7 := { stood := { row := termsMeetRow, standIns := [], harness := (true, "3ef3d423f552b4e4f6779c8fc1f91b03af2276ae6ccbec5ad6a7bbc24c3b7708"), looks := true }, kinds := [], alts := [], laidByText := true, laidKinds := [.data, .data, .data, .data, .data, .sentinel, .sentinel, .pinned], laidTests := true, laidLooks := .later }
def TermsMeetCardSaid : Prop := Claim7.holds Tryz.pinned (.plain (OpenSpec.ofChange termsMeetSpec)) termsMeetCard

/-- THE TIED CARD OF 'wagebooklaw16.TermsOthers'. -/
def termsOthersCard : Claim7 := { stood := { row := termsOthersRow, standIns := [], harness := (true, "3ef3d423f552b4e4f6779c8fc1f91b03af2276ae6ccbec5ad6a7bbc24c3b7708"), looks := true }, kinds := [], alts := [], laidByText := true, laidKinds := [.data, .data, .data, .data, .data, .sentinel, .sentinel, .pinned], laidTests := true, laidLooks := .later }
def TermsOthersCardSaid : Prop := Claim7.holds Tryz.pinned (.plain (OpenSpec.ofChange termsOthersSpec)) termsOthersCard

/-- THE TIED CARD OF 'wagebooklaw16.TermsCosts'. -/
def termsCostsCard : Claim7 := { stood := { row := termsCostsRow, standIns := [], harness := (true, "3ef3d423f552b4e4f6779c8fc1f91b03af2276ae6ccbec5ad6a7bbc24c3b7708"), looks := true }, kinds := [], alts := [], laidByText := true, laidKinds := [.data, .data, .data, .data, .data, .sentinel, .sentinel, .pinned], laidTests := true, laidLooks := .later }
def TermsCostsCardSaid : Prop := Claim7.holds Tryz.pinned (.plain (OpenSpec.ofChange termsCostsSpec)) termsCostsCard

/-- THE TIED CARD OF 'wagebooklaw16.TermsLater'. -/
def termsLaterCard : Claim7 := { stood := { row := termsLaterRow, standIns := [], harness := (true, "3ef3d423f552b4e4f6779c8fc1f91b03af2276ae6ccbec5ad6a7bbc24c3b7708"), looks := true }, kinds := [], alts := [], laidByText := true, laidKinds := [.data, .data, .data, .data, .data, .sentinel, .sentinel, .pinned], laidTests := true, laidLooks := .later }
def TermsLaterCardSaid : Prop := Claim7.holds Tryz.pinned (.plain (OpenSpec.ofChange termsLaterSpec)) termsLaterCard

/-- THE SECOND FORM's CARD OF 'wagebooklaw32.DirtySince'. -/
def dirtySinceUptoCard : Claim7 := { stood := { row := dirtySinceUptoRow, standIns := [], harness := (true, "3ef3d423f552b4e4f6779c8fc1f91b03af2276ae6ccbec5ad6a7bbc24c3b7708"), looks := true }, kinds := [], alts := [], laidByText := true, laidKinds := [.data, .data, .data, .data, .data, .sentinel, .sentinel, .data, .pinned], laidTests := true, laidLooks := .later }
def DirtySinceUptoCardSaid : Prop := Claim7.holds Tryz.pinned (.plain (OpenSpec.upto dirtySinceSpec)) dirtySinceUptoCard

/-- THE SECOND FORM's CARD OF 'wagebooklaw32.DirtySame'. -/
def dirtySameUptoCard : Claim7 := { stood := { row := dirtySameUptoRow, standIns := [], harness := (true, "3ef3d423f552b4e4f6779c8fc1f91b03af2276ae6ccbec5ad6a7bbc24c3b7708"), looks := true }, kinds := [], alts := [], laidByText := true, laidKinds := [.data, .data, .data, .data, .data, .sentinel, .sentinel, .data, .pinned], laidTests := true, laidLooks := .later }
def DirtySameUptoCardSaid : Prop := Claim7.holds Tryz.pinned (.plain (OpenSpec.upto dirtySameSpec)) dirtySameUptoCard

/-- THE SECOND FORM's CARD OF 'wagebooklaw32.DirtyChain'. -/
def dirtyChainUptoCard : Claim7 := { stood := { row := dirtyChainUptoRow, standIns := [], harness := (true, "3ef3d423f552b4e4f6779c8fc1f91b03af2276ae6ccbec5ad6a7bbc24c3b7708"), looks := true }, kinds := [], alts := [], laidByText := true, laidKinds := [.data, .data, .data, .data, .data, .sentinel, .sentinel, .data, .pinned], laidTests := true, laidLooks := .later }
def DirtyChainUptoCardSaid : Prop := Claim7.holds Tryz.pinned (.plain (OpenSpec.upto dirtyChainSpec)) dirtyChainUptoCard

/-- THE SECOND FORM's CARD OF 'wagebooklaw32.DirtyFirst'. -/
def dirtyFirstUptoCard : Claim7 := { stood := { row := dirtyFirstUptoRow, standIns := [], harness := (true, "3ef3d423f552b4e4f6779c8fc1f91b03af2276ae6ccbec5ad6a7bbc24c3b7708"), looks := true }, kinds := [], alts := [], laidByText := true, laidKinds := [.data, .data, .data, .data, .data, .sentinel, .sentinel, .data, .pinned], laidTests := true, laidLooks := .later }
def DirtyFirstUptoCardSaid : Prop := Claim7.holds Tryz.pinned (.plain (OpenSpec.upto dirtyFirstSpec)) dirtyFirstUptoCard

/-- THE SECOND FORM's CARD OF 'wagebooklaw32.DirtyKeeps'. -/
def dirtyKeepsUptoCard : Claim7 := { stood := { row := dirtyKeepsUptoRow, standIns := [], harness := (true, "3ef3d423f552b4e4f6779c8fc1f91b03af2276ae6ccbec5ad6a7bbc24c3b7708"), looks := true }, kinds := [], alts := [], laidByText := true, laidKinds := [.data, .data, .data, .data, .data, .sentinel, .sentinel, .data, .pinned], laidTests := true, laidLooks := .later }
def DirtyKeepsUptoCardSaid : Prop := Claim7.holds Tryz.pinned (.plain (OpenSpec.upto dirtyKeepsSpec)) dirtyKeepsUptoCard

/-- THE SECOND FORM's CARD OF 'wagebooklaw32.DirtyEnough'. -/
def dirtyEnoughUptoCard : Claim7 := { stood := { row := dirtyEnoughUptoRow, standIns := [], harness := (true, "3ef3d423f552b4e4f6779c8fc1f91b03af2276ae6ccbec5ad6a7bbc24c3b7708"), looks := true }, kinds := [], alts := [], laidByText := true, laidKinds := [.data, .data, .data, .data, .data, .sentinel, .sentinel, .data, .pinned], laidTests := true, laidLooks := .later }
def DirtyEnoughUptoCardSaid : Prop := Claim7.holds Tryz.pinned (.plain (OpenSpec.upto dirtyEnoughSpec)) dirtyEnoughUptoCard

/-- THE SECOND FORM's CARD OF 'wagebooklaw16.TermsOf'. -/
def termsOfUptoCard : Claim7 := { stood := { row := termsOfUptoRow, standIns := [], harness := (true, "3ef3d423f552b4e4f6779c8fc1f91b03af2276ae6ccbec5ad6a7bbc24c3b7708"), looks := true }, kinds := [], alts := [], laidByText := true, laidKinds := [.data, .data, .data, .data, .data, .sentinel, .sentinel, .pinned], laidTests := true, laidLooks := .later }
def TermsOfUptoCardSaid : Prop := Claim7.holds Tryz.pinned (.plain (OpenSpec.upto termsOfSpec)) termsOfUptoCard

/-- THE SECOND FORM's CARD OF 'wagebooklaw16.TermsSpans'. -/
def termsSpansUptoCard : Claim7 := { stood := { row := termsSpansUptoRow, standIns := [], harness := (true, "3ef3d423f552b4e4f6779c8fc1f91b03af2276ae6ccbec5ad6a7bbc24c3b7708"), looks := true }, kinds := [], alts := [], laidByText := true, laidKinds := [.data, .data, .data, .data, .data, .sentinel, .sentinel, .pinned], laidTests := true, laidLooks := .later }
def TermsSpansUptoCardSaid : Prop := Claim7.holds Tryz.pinned (.plain (OpenSpec.upto termsSpansSpec)) termsSpansUptoCard

/-- THE SECOND FORM's CARD OF 'wagebooklaw16.TermsMeet'. -/
def termsMeetUptoCard : Claim7 := { stood := { row := termsMeetUptoRow, standIns := [], harness := (true, "3ef3d423f552b4e4f6779c8fc1f91b03af2276ae6ccbec5ad6a7bbc24c3b7708"), looks := true }, kinds := [], alts := [], laidByText := true, laidKinds := [.data, .data, .data, .data, .data, .sentinel, .sentinel, .pinned], laidTests := true, laidLooks := .later }
def TermsMeetUptoCardSaid : Prop := Claim7.holds Tryz.pinned (.plain (OpenSpec.upto termsMeetSpec)) termsMeetUptoCard

/-- THE SECOND FORM's CARD OF 'wagebooklaw16.TermsOthers'. -/
def termsOthersUptoCard : Claim7 := { stood := { row := termsOthersUptoRow, standIns := [], harness := (true, "3ef3d423f552b4e4f6779c8fc1f91b03af2276ae6ccbec5ad6a7bbc24c3b7708"), looks := true }, kinds := [], alts := [], laidByText := true, laidKinds := [.data, .data, .data, .data, .data, .sentinel, .sentinel, .pinned], laidTests := true, laidLooks := .later }
def TermsOthersUptoCardSaid : Prop := Claim7.holds Tryz.pinned (.plain (OpenSpec.upto termsOthersSpec)) termsOthersUptoCard

/-- THE SECOND FORM's CARD OF 'wagebooklaw16.TermsCosts'. -/
def termsCostsUptoCard : Claim7 := { stood := { row := termsCostsUptoRow, standIns := [], harness := (true, "3ef3d423f552b4e4f6779c8fc1f91b03af2276ae6ccbec5ad6a7bbc24c3b7708"), looks := true }, kinds := [], alts := [], laidByText := true, laidKinds := [.data, .data, .data, .data, .data, .sentinel, .sentinel, .pinned], laidTests := true, laidLooks := .later }
def TermsCostsUptoCardSaid : Prop := Claim7.holds Tryz.pinned (.plain (OpenSpec.upto termsCostsSpec)) termsCostsUptoCard

/-- THE SECOND FORM's CARD OF 'wagebooklaw16.TermsLater'. -/
def termsLaterUptoCard : Claim7 := { stood := { row := termsLaterUptoRow, standIns := [], harness := (true, "3ef3d423f552b4e4f6779c8fc1f91b03af2276ae6ccbec5ad6a7bbc24c3b7708"), looks := true }, kinds := [], alts := [], laidByText := true, laidKinds := [.data, .data, .data, .data, .data, .sentinel, .sentinel, .pinned], laidTests := true, laidLooks := .later }
def TermsLaterUptoCardSaid : Prop := Claim7.holds Tryz.pinned (.plain (OpenSpec.upto termsLaterSpec)) termsLaterUptoCard
end Rows
end Go.Proofs.YtgheloooibafcaaGreatDoor
