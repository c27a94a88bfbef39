/-
  DERIVED. GIVEN WITH THE SEED: THE CARDS: each row of YtlgoaohklggcdaaGreatDoorRows.lean that lists a variable, with what it lists TIED to the program's text (the seventh form; the later family's looks); each row that meets fmt, with fmt's text TOLD by the authors' own Lean function (tested against real Go, not proved from fmt's source: count such statements apart). THE CARD IS WHAT COUNTS. Prove the row's statement (the work); the ties are given (YtlgoaohklggcdaaGreatDoorTie.lean); close each card by the builder's one call (the guide's Derived/Test/ToyasCard.lean, 'card_holds'). Laid BY PROGRAM, IN A SANDBOX (cutbox-door.mjs). By AI agents, Wed Nov 11 2026. No macro, syntax, notation, axiom, sorry.
-/
import Derived.Test.YtlgoaohklggcdaaGreatDoorRows
import GoSem.ClaimSeven
namespace Go.Proofs.YtlgoaohklggcdaaGreatDoor
namespace Rows

/-- THE TIED CARD OF 'wagebooklaw16.TermsOf'. -/
def termsOfCard : Claim7 := { stood := { row := termsOfRow, standIns := [], harness := (true, "b7df1d5e03d89ee1ad631e40857ce42b2b267c4e7fa7ca66f9a29a53b4ad54cb"), looks := true }, kinds := [], alts := [], laidByText := true, laidKinds := [.data, .data, .data, .data, .data, .sentinel, .sentinel, .pinned], laidTests := true, laidLooks := .later }
def TermsOfCardSaid : Prop := Claim7.holds Tryz.pinned (.plain (OpenSpec.ofChange termsOfSpec)) termsOfCard

/-- THE TIED CARD OF 'wagebooklaw16.TermsSpans'. -/
def termsSpansCard : Claim7 := { stood := { row := termsSpansRow, standIns := [], harness := (true, "b7df1d5e03d89ee1ad631e40857ce42b2b267c4e7fa7ca66f9a29a53b4ad54cb"), looks := true }, kinds := [], alts := [], laidByText := true, laidKinds := [.data, .data, .data, .data, .data, .sentinel, .sentinel, .pinned], laidTests := true, laidLooks := .later }
def TermsSpansCardSaid : Prop := Claim7.holds Tryz.pinned (.plain (OpenSpec.ofChange termsSpansSpec)) termsSpansCard

/-- THE TIED CARD OF 'wagebooklaw16.TermsMeet'. -/
def termsMeetCard : Claim7 := { stood := { row := termsMeetRow, standIns := [], harness := (true, "b7df1d5e03d89ee1ad631e40857ce42b2b267c4e7fa7ca66f9a29a53b4ad54cb"), looks := true }, kinds := [], alts := [], laidByText := true, laidKinds := [.data, .data, .data, .data, .data, .sentinel, .sentinel, .pinned], laidTests := true, laidLooks := .later }
def TermsMeetCardSaid : Prop := Claim7.holds Tryz.pinned (.plain (OpenSpec.ofChange termsMeetSpec)) termsMeetCard

/-- THE TIED CARD OF 'wagebooklaw16.TermsOthers'. -/
def termsOthersCard : Claim7 := { stood := { row := termsOthersRow, standIns := [], harness := (true, "b7df1d5e03d89ee1ad631e40857ce42b2b267c4e7fa7ca66f9a29a53b4ad54cb"), looks := true }, kinds := [], alts := [], laidByText := true, laidKinds := [.data, .data, .data, .data, .data, .sentinel, .sentinel, .pinned], laidTests := true, laidLooks := .later }
def TermsOthersCardSaid : Prop := Claim7.holds Tryz.pinned (.plain (OpenSpec.ofChange termsOthersSpec)) termsOthersCard

/-- THE TIED CARD OF 'wagebooklaw16.TermsCosts'. -/
def termsCostsCard : Claim7 := { stood := { row := termsCostsRow, standIns := [], harness := (true, "b7df1d5e03d89ee1ad631e40857ce42b2b267c4e7fa7ca66f9a29a53b4ad54cb"), looks := true }, kinds := [], alts := [], laidByText := true, laidKinds := [.data, .data, .data, .data, .data, .sentinel, .sentinel, .pinned], laidTests := true, laidLooks := .later }
def TermsCostsCardSaid : Prop := Claim7.holds Tryz.pinned (.plain (OpenSpec.ofChange termsCostsSpec)) termsCostsCard

/-- THE TIED CARD OF 'wagebooklaw16.TermsLater'. -/
def termsLaterCard : Claim7 := { stood := { row := termsLaterRow, standIns := [], harness := (true, "b7df1d5e03d89ee1ad631e40857ce42b2b267c4e7fa7ca66f9a29a53b4ad54cb"), looks := true }, kinds := [], alts := [], laidByText := true, laidKinds := [.data, .data, .data, .data, .data, .sentinel, .sentinel, .pinned], laidTests := true, laidLooks := .later }
def TermsLaterCardSaid : Prop := Claim7.holds Tryz.pinned (.plain (OpenSpec.ofChange termsLaterSpec)) termsLaterCard

/-- THE TIED CARD OF 'wagebooklaw16.TermsEmployed'. -/
def termsEmployedCard : Claim7 := { stood := { row := termsEmployedRow, standIns := [], harness := (true, "b7df1d5e03d89ee1ad631e40857ce42b2b267c4e7fa7ca66f9a29a53b4ad54cb"), looks := true }, kinds := [], alts := [], laidByText := true, laidKinds := [.data, .data, .data, .data, .data, .sentinel, .sentinel, .pinned], laidTests := true, laidLooks := .later }
def TermsEmployedCardSaid : Prop := Claim7.holds Tryz.pinned (.plain (OpenSpec.ofChange termsEmployedSpec)) termsEmployedCard

/-- THE TIED CARD OF 'wagebooklaw18.AbsentSums'. -/
def absentSumsCard : Claim7 := { stood := { row := absentSumsRow, standIns := [], harness := (true, "b7df1d5e03d89ee1ad631e40857ce42b2b267c4e7fa7ca66f9a29a53b4ad54cb"), looks := true }, kinds := [], alts := [], laidByText := true, laidKinds := [.data, .data, .data, .data, .data, .sentinel, .sentinel, .pinned], laidTests := true, laidLooks := .later }
def AbsentSumsCardSaid : Prop := Claim7.holds Tryz.pinned (.plain (OpenSpec.ofChange absentSumsSpec)) absentSumsCard

/-- THE TIED CARD OF 'wagebooklaw18.AbsentOver'. -/
def absentOverCard : Claim7 := { stood := { row := absentOverRow, standIns := [], harness := (true, "b7df1d5e03d89ee1ad631e40857ce42b2b267c4e7fa7ca66f9a29a53b4ad54cb"), looks := true }, kinds := [], alts := [], laidByText := true, laidKinds := [.data, .data, .data, .data, .data, .sentinel, .sentinel, .pinned], laidTests := true, laidLooks := .later }
def AbsentOverCardSaid : Prop := Claim7.holds Tryz.pinned (.plain (OpenSpec.ofChange absentOverSpec)) absentOverCard

/-- THE TIED CARD OF 'wagebooklaw18.AbsentTells'. -/
def absentTellsCard : Claim7 := { stood := { row := absentTellsRow, standIns := [], harness := (true, "b7df1d5e03d89ee1ad631e40857ce42b2b267c4e7fa7ca66f9a29a53b4ad54cb"), looks := true }, kinds := [], alts := [], laidByText := true, laidKinds := [.data, .data, .data, .data, .data, .sentinel, .sentinel, .pinned], laidTests := true, laidLooks := .later }
def AbsentTellsCardSaid : Prop := Claim7.holds Tryz.pinned (.plain (OpenSpec.ofChange absentTellsSpec)) absentTellsCard

/-- THE TIED CARD OF 'wagebooklaw18.AbsentCuts'. -/
def absentCutsCard : Claim7 := { stood := { row := absentCutsRow, standIns := [], harness := (true, "b7df1d5e03d89ee1ad631e40857ce42b2b267c4e7fa7ca66f9a29a53b4ad54cb"), looks := true }, kinds := [], alts := [], laidByText := true, laidKinds := [.data, .data, .data, .data, .data, .sentinel, .sentinel, .pinned], laidTests := true, laidLooks := .later }
def AbsentCutsCardSaid : Prop := Claim7.holds Tryz.pinned (.plain (OpenSpec.ofChange absentCutsSpec)) absentCutsCard

/-- THE TIED CARD OF 'wagebooklaw18.AbsentAlone'. -/
def absentAloneCard : Claim7 := { stood := { row := absentAloneRow, standIns := [], harness := (true, "b7df1d5e03d89ee1ad631e40857ce42b2b267c4e7fa7ca66f9a29a53b4ad54cb"), looks := true }, kinds := [], alts := [], laidByText := true, laidKinds := [.data, .data, .data, .data, .data, .sentinel, .sentinel, .pinned], laidTests := true, laidLooks := .later }
def AbsentAloneCardSaid : Prop := Claim7.holds Tryz.pinned (.plain (OpenSpec.ofChange absentAloneSpec)) absentAloneCard

/-- THE TIED CARD OF 'wagebooklaw19.LeaveMoves'. -/
def leaveMovesCard : Claim7 := { stood := { row := leaveMovesRow, standIns := [], harness := (true, "b7df1d5e03d89ee1ad631e40857ce42b2b267c4e7fa7ca66f9a29a53b4ad54cb"), looks := true }, kinds := [], alts := [], laidByText := true, laidKinds := [.data, .data, .data, .data, .data, .sentinel, .sentinel, .pinned], laidTests := true, laidLooks := .later }
def LeaveMovesCardSaid : Prop := Claim7.holds Tryz.pinned (.plain (OpenSpec.ofChange leaveMovesSpec)) leaveMovesCard

/-- THE SECOND FORM's CARD OF 'wagebooklaw16.TermsOf'. -/
def termsOfUptoCard : Claim7 := { stood := { row := termsOfUptoRow, standIns := [], harness := (true, "b7df1d5e03d89ee1ad631e40857ce42b2b267c4e7fa7ca66f9a29a53b4ad54cb"), looks := true }, kinds := [], alts := [], laidByText := true, laidKinds := [.data, .data, .data, .data, .data, .sentinel, .sentinel, .pinned], laidTests := true, laidLooks := .later }
def TermsOfUptoCardSaid : Prop := Claim7.holds Tryz.pinned (.plain (OpenSpec.upto termsOfSpec)) termsOfUptoCard

/-- THE SECOND FORM's CARD OF 'wagebooklaw16.TermsSpans'. -/
def termsSpansUptoCard : Claim7 := { stood := { row := termsSpansUptoRow, standIns := [], harness := (true, "b7df1d5e03d89ee1ad631e40857ce42b2b267c4e7fa7ca66f9a29a53b4ad54cb"), looks := true }, kinds := [], alts := [], laidByText := true, laidKinds := [.data, .data, .data, .data, .data, .sentinel, .sentinel, .pinned], laidTests := true, laidLooks := .later }
def TermsSpansUptoCardSaid : Prop := Claim7.holds Tryz.pinned (.plain (OpenSpec.upto termsSpansSpec)) termsSpansUptoCard

/-- THE SECOND FORM's CARD OF 'wagebooklaw16.TermsMeet'. -/
def termsMeetUptoCard : Claim7 := { stood := { row := termsMeetUptoRow, standIns := [], harness := (true, "b7df1d5e03d89ee1ad631e40857ce42b2b267c4e7fa7ca66f9a29a53b4ad54cb"), looks := true }, kinds := [], alts := [], laidByText := true, laidKinds := [.data, .data, .data, .data, .data, .sentinel, .sentinel, .pinned], laidTests := true, laidLooks := .later }
def TermsMeetUptoCardSaid : Prop := Claim7.holds Tryz.pinned (.plain (OpenSpec.upto termsMeetSpec)) termsMeetUptoCard

/-- THE SECOND FORM's CARD OF 'wagebooklaw16.TermsOthers'. -/
def termsOthersUptoCard : Claim7 := { stood := { row := termsOthersUptoRow, standIns := [], harness := (true, "b7df1d5e03d89ee1ad631e40857ce42b2b267c4e7fa7ca66f9a29a53b4ad54cb"), looks := true }, kinds := [], alts := [], laidByText := true, laidKinds := [.data, .data, .data, .data, .data, .sentinel, .sentinel, .pinned], laidTests := true, laidLooks := .later }
def TermsOthersUptoCardSaid : Prop := Claim7.holds Tryz.pinned (.plain (OpenSpec.upto termsOthersSpec)) termsOthersUptoCard

/-- THE SECOND FORM's CARD OF 'wagebooklaw16.TermsCosts'. -/
def termsCostsUptoCard : Claim7 := { stood := { row := termsCostsUptoRow, standIns := [], harness := (true, "b7df1d5e03d89ee1ad631e40857ce42b2b267c4e7fa7ca66f9a29a53b4ad54cb"), looks := true }, kinds := [], alts := [], laidByText := true, laidKinds := [.data, .data, .data, .data, .data, .sentinel, .sentinel, .pinned], laidTests := true, laidLooks := .later }
def TermsCostsUptoCardSaid : Prop := Claim7.holds Tryz.pinned (.plain (OpenSpec.upto termsCostsSpec)) termsCostsUptoCard

/-- THE SECOND FORM's CARD OF 'wagebooklaw16.TermsLater'. -/
def termsLaterUptoCard : Claim7 := { stood := { row := termsLaterUptoRow, standIns := [], harness := (true, "b7df1d5e03d89ee1ad631e40857ce42b2b267c4e7fa7ca66f9a29a53b4ad54cb"), looks := true }, kinds := [], alts := [], laidByText := true, laidKinds := [.data, .data, .data, .data, .data, .sentinel, .sentinel, .pinned], laidTests := true, laidLooks := .later }
def TermsLaterUptoCardSaid : Prop := Claim7.holds Tryz.pinned (.plain (OpenSpec.upto termsLaterSpec)) termsLaterUptoCard

/-- THE SECOND FORM's CARD OF 'wagebooklaw16.TermsEmployed'. -/
def termsEmployedUptoCard : Claim7 := { stood := { row := termsEmployedUptoRow, standIns := [], harness := (true, "b7df1d5e03d89ee1ad631e40857ce42b2b267c4e7fa7ca66f9a29a53b4ad54cb"), looks := true }, kinds := [], alts := [], laidByText := true, laidKinds := [.data, .data, .data, .data, .data, .sentinel, .sentinel, .pinned], laidTests := true, laidLooks := .later }
def TermsEmployedUptoCardSaid : Prop := Claim7.holds Tryz.pinned (.plain (OpenSpec.upto termsEmployedSpec)) termsEmployedUptoCard

/-- THE SECOND FORM's CARD OF 'wagebooklaw18.AbsentSums'. -/
def absentSumsUptoCard : Claim7 := { stood := { row := absentSumsUptoRow, standIns := [], harness := (true, "b7df1d5e03d89ee1ad631e40857ce42b2b267c4e7fa7ca66f9a29a53b4ad54cb"), looks := true }, kinds := [], alts := [], laidByText := true, laidKinds := [.data, .data, .data, .data, .data, .sentinel, .sentinel, .pinned], laidTests := true, laidLooks := .later }
def AbsentSumsUptoCardSaid : Prop := Claim7.holds Tryz.pinned (.plain (OpenSpec.upto absentSumsSpec)) absentSumsUptoCard

/-- THE SECOND FORM's CARD OF 'wagebooklaw18.AbsentOver'. -/
def absentOverUptoCard : Claim7 := { stood := { row := absentOverUptoRow, standIns := [], harness := (true, "b7df1d5e03d89ee1ad631e40857ce42b2b267c4e7fa7ca66f9a29a53b4ad54cb"), looks := true }, kinds := [], alts := [], laidByText := true, laidKinds := [.data, .data, .data, .data, .data, .sentinel, .sentinel, .pinned], laidTests := true, laidLooks := .later }
def AbsentOverUptoCardSaid : Prop := Claim7.holds Tryz.pinned (.plain (OpenSpec.upto absentOverSpec)) absentOverUptoCard

/-- THE SECOND FORM's CARD OF 'wagebooklaw18.AbsentTells'. -/
def absentTellsUptoCard : Claim7 := { stood := { row := absentTellsUptoRow, standIns := [], harness := (true, "b7df1d5e03d89ee1ad631e40857ce42b2b267c4e7fa7ca66f9a29a53b4ad54cb"), looks := true }, kinds := [], alts := [], laidByText := true, laidKinds := [.data, .data, .data, .data, .data, .sentinel, .sentinel, .pinned], laidTests := true, laidLooks := .later }
def AbsentTellsUptoCardSaid : Prop := Claim7.holds Tryz.pinned (.plain (OpenSpec.upto absentTellsSpec)) absentTellsUptoCard

/-- THE SECOND FORM's CARD OF 'wagebooklaw18.AbsentCuts'. -/
def absentCutsUptoCard : Claim7 := { stood := { row := absentCutsUptoRow, standIns := [], harness := (true, "b7df1d5e03d89ee1ad631e40857ce42b2b267c4e7fa7ca66f9a29a53b4ad54cb"), looks := true }, kinds := [], alts := [], laidByText := true, laidKinds := [.data, .data, .data, .data, .data, .sentinel, .sentinel, .pinned], laidTests := true, laidLooks := .later }
def AbsentCutsUptoCardSaid : Prop := Claim7.holds Tryz.pinned (.plain (OpenSpec.upto absentCutsSpec)) absentCutsUptoCard

/-- THE SECOND FORM's CARD OF 'wagebooklaw18.AbsentAlone'. -/
def absentAloneUptoCard : Claim7 := { stood := { row := absentAloneUptoRow, standIns := [], harness := (true, "b7df1d5e03d89ee1ad631e40857ce42b2b267c4e7fa7ca66f9a29a53b4ad54cb"), looks := true }, kinds := [], alts := [], laidByText := true, laidKinds := [.data, .data, .data, .data, .data, .sentinel, .sentinel, .pinned], laidTests := true, laidLooks := .later }
def AbsentAloneUptoCardSaid : Prop := Claim7.holds Tryz.pinned (.plain (OpenSpec.upto absentAloneSpec)) absentAloneUptoCard

/-- THE SECOND FORM's CARD OF 'wagebooklaw19.LeaveMoves'. -/
def leaveMovesUptoCard : Claim7 := { stood := { row := leaveMovesUptoRow, standIns := [], harness := (true, "b7df1d5e03d89ee1ad631e40857ce42b2b267c4e7fa7ca66f9a29a53b4ad54cb"), looks := true }, kinds := [], alts := [], laidByText := true, laidKinds := [.data, .data, .data, .data, .data, .sentinel, .sentinel, .pinned], laidTests := true, laidLooks := .later }
def LeaveMovesUptoCardSaid : Prop := Claim7.holds Tryz.pinned (.plain (OpenSpec.upto leaveMovesSpec)) leaveMovesUptoCard
end Rows
end Go.Proofs.YtlgoaohklggcdaaGreatDoor
