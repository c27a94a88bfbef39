/-
  DERIVED. GIVEN WITH THE SEED: THE CARDS: each row of YtheaacliomfkoaaGreatDoorRows.lean that lists a variable, with what it lists TIED to the program's text (the seventh form; the later family's looks); each row that meets fmt, with fmt's text TOLD by the authors' own Lean function (tested against real Go, not proved from fmt's source: count such statements apart). THE CARD IS WHAT COUNTS. Prove the row's statement (the work); the ties are given (YtheaacliomfkoaaGreatDoorTie.lean); close each card by the builder's one call (the guide's Derived/Test/ToyasCard.lean, 'card_holds'). Laid BY PROGRAM, IN A SANDBOX (cutbox-door.mjs). By AI agents, Wed Nov 11 2026. No macro, syntax, notation, axiom, sorry.
-/
import Derived.Test.YtheaacliomfkoaaGreatDoorRows
import GoSem.ClaimSeven
namespace Go.Proofs.YtheaacliomfkoaaGreatDoor
namespace Rows

/-- THE TIED CARD OF 'wagebooklaw28.YearSteps'. -/
def yearStepsCard : Claim7 := { stood := { row := yearStepsRow, standIns := [], harness := (true, "0cf7c49d65f47fd98a72f77b595ffe9d41e9a05a215936743641a1d2ae5d43be"), looks := true }, kinds := [], alts := [], laidByText := true, laidKinds := [.data, .data, .data, .data, .sentinel, .sentinel, .pinned], laidTests := true, laidLooks := .later }
def YearStepsCardSaid : Prop := Claim7.holds Tryz.pinned (.plain (OpenSpec.ofChange yearStepsSpec)) yearStepsCard

/-- THE TIED CARD OF 'wagebooklaw28.YearFolds'. -/
def yearFoldsCard : Claim7 := { stood := { row := yearFoldsRow, standIns := [], harness := (true, "0cf7c49d65f47fd98a72f77b595ffe9d41e9a05a215936743641a1d2ae5d43be"), looks := true }, kinds := [], alts := [], laidByText := true, laidKinds := [.data, .data, .data, .data, .sentinel, .sentinel, .pinned], laidTests := true, laidLooks := .later }
def YearFoldsCardSaid : Prop := Claim7.holds Tryz.pinned (.plain (OpenSpec.ofChange yearFoldsSpec)) yearFoldsCard

/-- THE TIED CARD OF 'wagebooklaw28.YearCuts'. -/
def yearCutsCard : Claim7 := { stood := { row := yearCutsRow, standIns := [], harness := (true, "0cf7c49d65f47fd98a72f77b595ffe9d41e9a05a215936743641a1d2ae5d43be"), looks := true }, kinds := [], alts := [], laidByText := true, laidKinds := [.data, .data, .data, .data, .sentinel, .sentinel, .pinned], laidTests := true, laidLooks := .later }
def YearCutsCardSaid : Prop := Claim7.holds Tryz.pinned (.plain (OpenSpec.ofChange yearCutsSpec)) yearCutsCard

/-- THE TIED CARD OF 'wagebooklaw28.YearAnew'. -/
def yearAnewCard : Claim7 := { stood := { row := yearAnewRow, standIns := [], harness := (true, "0cf7c49d65f47fd98a72f77b595ffe9d41e9a05a215936743641a1d2ae5d43be"), looks := true }, kinds := [], alts := [], laidByText := true, laidKinds := [.data, .data, .data, .data, .sentinel, .sentinel, .pinned], laidTests := true, laidLooks := .later }
def YearAnewCardSaid : Prop := Claim7.holds Tryz.pinned (.plain (OpenSpec.ofChange yearAnewSpec)) yearAnewCard

/-- THE TIED CARD OF 'wagebooklaw28.YearOrders'. -/
def yearOrdersCard : Claim7 := { stood := { row := yearOrdersRow, standIns := [], harness := (true, "0cf7c49d65f47fd98a72f77b595ffe9d41e9a05a215936743641a1d2ae5d43be"), looks := true }, kinds := [], alts := [], laidByText := true, laidKinds := [.data, .data, .data, .data, .sentinel, .sentinel, .pinned], laidTests := true, laidLooks := .later }
def YearOrdersCardSaid : Prop := Claim7.holds Tryz.pinned (.plain (OpenSpec.ofChange yearOrdersSpec)) yearOrdersCard

/-- THE TIED CARD OF 'wagebooklaw28.YearFirm'. -/
def yearFirmCard : Claim7 := { stood := { row := yearFirmRow, standIns := [], harness := (true, "0cf7c49d65f47fd98a72f77b595ffe9d41e9a05a215936743641a1d2ae5d43be"), looks := true }, kinds := [], alts := [], laidByText := true, laidKinds := [.data, .data, .data, .data, .sentinel, .sentinel, .pinned], laidTests := true, laidLooks := .later }
def YearFirmCardSaid : Prop := Claim7.holds Tryz.pinned (.plain (OpenSpec.ofChange yearFirmSpec)) yearFirmCard

/-- THE TIED CARD OF 'wagebooklaw28.YearOrder'. -/
def yearOrderCard : Claim7 := { stood := { row := yearOrderRow, standIns := [], harness := (true, "0cf7c49d65f47fd98a72f77b595ffe9d41e9a05a215936743641a1d2ae5d43be"), looks := true }, kinds := [], alts := [], laidByText := true, laidKinds := [.data, .data, .data, .data, .sentinel, .sentinel, .pinned], laidTests := true, laidLooks := .later }
def YearOrderCardSaid : Prop := Claim7.holds Tryz.pinned (.plain (OpenSpec.ofChange yearOrderSpec)) yearOrderCard

/-- THE TIED CARD OF 'wagebooklaw28.YearNets'. -/
def yearNetsCard : Claim7 := { stood := { row := yearNetsRow, standIns := [], harness := (true, "0cf7c49d65f47fd98a72f77b595ffe9d41e9a05a215936743641a1d2ae5d43be"), looks := true }, kinds := [], alts := [], laidByText := true, laidKinds := [.data, .data, .data, .data, .sentinel, .sentinel, .pinned], laidTests := true, laidLooks := .later }
def YearNetsCardSaid : Prop := Claim7.holds Tryz.pinned (.plain (OpenSpec.ofChange yearNetsSpec)) yearNetsCard

/-- THE SECOND FORM's CARD OF 'wagebooklaw28.YearSteps'. -/
def yearStepsUptoCard : Claim7 := { stood := { row := yearStepsUptoRow, standIns := [], harness := (true, "0cf7c49d65f47fd98a72f77b595ffe9d41e9a05a215936743641a1d2ae5d43be"), looks := true }, kinds := [], alts := [], laidByText := true, laidKinds := [.data, .data, .data, .data, .sentinel, .sentinel, .pinned], laidTests := true, laidLooks := .later }
def YearStepsUptoCardSaid : Prop := Claim7.holds Tryz.pinned (.plain (OpenSpec.upto yearStepsSpec)) yearStepsUptoCard

/-- THE SECOND FORM's CARD OF 'wagebooklaw28.YearFolds'. -/
def yearFoldsUptoCard : Claim7 := { stood := { row := yearFoldsUptoRow, standIns := [], harness := (true, "0cf7c49d65f47fd98a72f77b595ffe9d41e9a05a215936743641a1d2ae5d43be"), looks := true }, kinds := [], alts := [], laidByText := true, laidKinds := [.data, .data, .data, .data, .sentinel, .sentinel, .pinned], laidTests := true, laidLooks := .later }
def YearFoldsUptoCardSaid : Prop := Claim7.holds Tryz.pinned (.plain (OpenSpec.upto yearFoldsSpec)) yearFoldsUptoCard

/-- THE SECOND FORM's CARD OF 'wagebooklaw28.YearCuts'. -/
def yearCutsUptoCard : Claim7 := { stood := { row := yearCutsUptoRow, standIns := [], harness := (true, "0cf7c49d65f47fd98a72f77b595ffe9d41e9a05a215936743641a1d2ae5d43be"), looks := true }, kinds := [], alts := [], laidByText := true, laidKinds := [.data, .data, .data, .data, .sentinel, .sentinel, .pinned], laidTests := true, laidLooks := .later }
def YearCutsUptoCardSaid : Prop := Claim7.holds Tryz.pinned (.plain (OpenSpec.upto yearCutsSpec)) yearCutsUptoCard

/-- THE SECOND FORM's CARD OF 'wagebooklaw28.YearAnew'. -/
def yearAnewUptoCard : Claim7 := { stood := { row := yearAnewUptoRow, standIns := [], harness := (true, "0cf7c49d65f47fd98a72f77b595ffe9d41e9a05a215936743641a1d2ae5d43be"), looks := true }, kinds := [], alts := [], laidByText := true, laidKinds := [.data, .data, .data, .data, .sentinel, .sentinel, .pinned], laidTests := true, laidLooks := .later }
def YearAnewUptoCardSaid : Prop := Claim7.holds Tryz.pinned (.plain (OpenSpec.upto yearAnewSpec)) yearAnewUptoCard

/-- THE SECOND FORM's CARD OF 'wagebooklaw28.YearOrders'. -/
def yearOrdersUptoCard : Claim7 := { stood := { row := yearOrdersUptoRow, standIns := [], harness := (true, "0cf7c49d65f47fd98a72f77b595ffe9d41e9a05a215936743641a1d2ae5d43be"), looks := true }, kinds := [], alts := [], laidByText := true, laidKinds := [.data, .data, .data, .data, .sentinel, .sentinel, .pinned], laidTests := true, laidLooks := .later }
def YearOrdersUptoCardSaid : Prop := Claim7.holds Tryz.pinned (.plain (OpenSpec.upto yearOrdersSpec)) yearOrdersUptoCard

/-- THE SECOND FORM's CARD OF 'wagebooklaw28.YearFirm'. -/
def yearFirmUptoCard : Claim7 := { stood := { row := yearFirmUptoRow, standIns := [], harness := (true, "0cf7c49d65f47fd98a72f77b595ffe9d41e9a05a215936743641a1d2ae5d43be"), looks := true }, kinds := [], alts := [], laidByText := true, laidKinds := [.data, .data, .data, .data, .sentinel, .sentinel, .pinned], laidTests := true, laidLooks := .later }
def YearFirmUptoCardSaid : Prop := Claim7.holds Tryz.pinned (.plain (OpenSpec.upto yearFirmSpec)) yearFirmUptoCard

/-- THE SECOND FORM's CARD OF 'wagebooklaw28.YearOrder'. -/
def yearOrderUptoCard : Claim7 := { stood := { row := yearOrderUptoRow, standIns := [], harness := (true, "0cf7c49d65f47fd98a72f77b595ffe9d41e9a05a215936743641a1d2ae5d43be"), looks := true }, kinds := [], alts := [], laidByText := true, laidKinds := [.data, .data, .data, .data, .sentinel, .sentinel, .pinned], laidTests := true, laidLooks := .later }
def YearOrderUptoCardSaid : Prop := Claim7.holds Tryz.pinned (.plain (OpenSpec.upto yearOrderSpec)) yearOrderUptoCard

/-- THE SECOND FORM's CARD OF 'wagebooklaw28.YearNets'. -/
def yearNetsUptoCard : Claim7 := { stood := { row := yearNetsUptoRow, standIns := [], harness := (true, "0cf7c49d65f47fd98a72f77b595ffe9d41e9a05a215936743641a1d2ae5d43be"), looks := true }, kinds := [], alts := [], laidByText := true, laidKinds := [.data, .data, .data, .data, .sentinel, .sentinel, .pinned], laidTests := true, laidLooks := .later }
def YearNetsUptoCardSaid : Prop := Claim7.holds Tryz.pinned (.plain (OpenSpec.upto yearNetsSpec)) yearNetsUptoCard
end Rows
end Go.Proofs.YtheaacliomfkoaaGreatDoor
