/-
  DERIVED. GIVEN WITH THE SEED: THE CARDS: each row of YtgepbkldgnjpfaaGreatDoorRows.lean that lists a variable, with what it lists TIED to the program's text (the seventh form; the later family's looks); each row that meets fmt, with fmt's text TOLD by the authors' own Lean function (tested against real Go, not proved from fmt's source: count such statements apart). THE CARD IS WHAT COUNTS. Prove the row's statement (the work); the ties are given (YtgepbkldgnjpfaaGreatDoorTie.lean); close each card by the builder's one call (the guide's Derived/Test/ToyasCard.lean, 'card_holds'). Laid BY PROGRAM, IN A SANDBOX (cutbox-door.mjs). By AI agents, Wed Nov 11 2026. No macro, syntax, notation, axiom, sorry.
-/
import Derived.Test.YtgepbkldgnjpfaaGreatDoorRows
import GoSem.ClaimSeven
namespace Go.Proofs.YtgepbkldgnjpfaaGreatDoor
namespace Rows

/-- THE TIED CARD OF 'wagebooklaw28.YearNets'. -/
def yearNetsCard : Claim7 := { stood := { row := yearNetsRow, standIns := [], harness := (true, "0636d8ed87701a353126cee0dce20df21dc36edfba780f606db9805df5db5fbb"), looks := true }, kinds := [], alts := [], laidByText := true, laidKinds := [.data, .data, .data, .data, .sentinel, .sentinel, .pinned], laidTests := true, laidLooks := .later }
def YearNetsCardSaid : Prop := Claim7.holds Tryz.pinned (.plain (OpenSpec.ofChange yearNetsSpec)) yearNetsCard

/-- THE TIED CARD OF 'wagebooklaw28.YearFirm'. -/
def yearFirmCard : Claim7 := { stood := { row := yearFirmRow, standIns := [], harness := (true, "0636d8ed87701a353126cee0dce20df21dc36edfba780f606db9805df5db5fbb"), looks := true }, kinds := [], alts := [], laidByText := true, laidKinds := [.data, .data, .data, .data, .sentinel, .sentinel, .pinned], laidTests := true, laidLooks := .later }
def YearFirmCardSaid : Prop := Claim7.holds Tryz.pinned (.plain (OpenSpec.ofChange yearFirmSpec)) yearFirmCard

/-- THE TIED CARD OF 'wagebooklaw28.YearOrders'. -/
def yearOrdersCard : Claim7 := { stood := { row := yearOrdersRow, standIns := [], harness := (true, "0636d8ed87701a353126cee0dce20df21dc36edfba780f606db9805df5db5fbb"), looks := true }, kinds := [], alts := [], laidByText := true, laidKinds := [.data, .data, .data, .data, .sentinel, .sentinel, .pinned], laidTests := true, laidLooks := .later }
def YearOrdersCardSaid : Prop := Claim7.holds Tryz.pinned (.plain (OpenSpec.ofChange yearOrdersSpec)) yearOrdersCard

/-- THE TIED CARD OF 'wagebooklaw28.YearAnew'. -/
def yearAnewCard : Claim7 := { stood := { row := yearAnewRow, standIns := [], harness := (true, "0636d8ed87701a353126cee0dce20df21dc36edfba780f606db9805df5db5fbb"), looks := true }, kinds := [], alts := [], laidByText := true, laidKinds := [.data, .data, .data, .data, .sentinel, .sentinel, .pinned], laidTests := true, laidLooks := .later }
def YearAnewCardSaid : Prop := Claim7.holds Tryz.pinned (.plain (OpenSpec.ofChange yearAnewSpec)) yearAnewCard

/-- THE TIED CARD OF 'wagebooklaw28.YearOrder'. -/
def yearOrderCard : Claim7 := { stood := { row := yearOrderRow, standIns := [], harness := (true, "0636d8ed87701a353126cee0dce20df21dc36edfba780f606db9805df5db5fbb"), looks := true }, kinds := [], alts := [], laidByText := true, laidKinds := [.data, .data, .data, .data, .sentinel, .sentinel, .pinned], laidTests := true, laidLooks := .later }
def YearOrderCardSaid : Prop := Claim7.holds Tryz.pinned (.plain (OpenSpec.ofChange yearOrderSpec)) yearOrderCard

/-- THE TIED CARD OF 'wagebooklaw28.YearSteps'. -/
def yearStepsCard : Claim7 := { stood := { row := yearStepsRow, standIns := [], harness := (true, "0636d8ed87701a353126cee0dce20df21dc36edfba780f606db9805df5db5fbb"), looks := true }, kinds := [], alts := [], laidByText := true, laidKinds := [.data, .data, .data, .data, .sentinel, .sentinel, .pinned], laidTests := true, laidLooks := .later }
def YearStepsCardSaid : Prop := Claim7.holds Tryz.pinned (.plain (OpenSpec.ofChange yearStepsSpec)) yearStepsCard

/-- THE SECOND FORM's CARD OF 'wagebooklaw28.YearNets'. -/
def yearNetsUptoCard : Claim7 := { stood := { row := yearNetsUptoRow, standIns := [], harness := (true, "0636d8ed87701a353126cee0dce20df21dc36edfba780f606db9805df5db5fbb"), looks := true }, kinds := [], alts := [], laidByText := true, laidKinds := [.data, .data, .data, .data, .sentinel, .sentinel, .pinned], laidTests := true, laidLooks := .later }
def YearNetsUptoCardSaid : Prop := Claim7.holds Tryz.pinned (.plain (OpenSpec.upto yearNetsSpec)) yearNetsUptoCard

/-- THE SECOND FORM's CARD OF 'wagebooklaw28.YearFirm'. -/
def yearFirmUptoCard : Claim7 := { stood := { row := yearFirmUptoRow, standIns := [], harness := (true, "0636d8ed87701a353126cee0dce20df21dc36edfba780f606db9805df5db5fbb"), looks := true }, kinds := [], alts := [], laidByText := true, laidKinds := [.data, .data, .data, .data, .sentinel, .sentinel, .pinned], laidTests := true, laidLooks := .later }
def YearFirmUptoCardSaid : Prop := Claim7.holds Tryz.pinned (.plain (OpenSpec.upto yearFirmSpec)) yearFirmUptoCard

/-- THE SECOND FORM's CARD OF 'wagebooklaw28.YearOrders'. -/
def yearOrdersUptoCard : Claim7 := { stood := { row := yearOrdersUptoRow, standIns := [], harness := (true, "0636d8ed87701a353126cee0dce20df21dc36edfba780f606db9805df5db5fbb"), looks := true }, kinds := [], alts := [], laidByText := true, laidKinds := [.data, .data, .data, .data, .sentinel, .sentinel, .pinned], laidTests := true, laidLooks := .later }
def YearOrdersUptoCardSaid : Prop := Claim7.holds Tryz.pinned (.plain (OpenSpec.upto yearOrdersSpec)) yearOrdersUptoCard

/-- THE SECOND FORM's CARD OF 'wagebooklaw28.YearAnew'. -/
def yearAnewUptoCard : Claim7 := { stood := { row := yearAnewUptoRow, standIns := [], harness := (true, "0636d8ed87701a353126cee0dce20df21dc36edfba780f606db9805df5db5fbb"), looks := true }, kinds := [], alts := [], laidByText := true, laidKinds := [.data, .data, .data, .data, .sentinel, .sentinel, .pinned], laidTests := true, laidLooks := .later }
def YearAnewUptoCardSaid : Prop := Claim7.holds Tryz.pinned (.plain (OpenSpec.upto yearAnewSpec)) yearAnewUptoCard

/-- THE SECOND FORM's CARD OF 'wagebooklaw28.YearOrder'. -/
def yearOrderUptoCard : Claim7 := { stood := { row := yearOrderUptoRow, standIns := [], harness := (true, "0636d8ed87701a353126cee0dce20df21dc36edfba780f606db9805df5db5fbb"), looks := true }, kinds := [], alts := [], laidByText := true, laidKinds := [.data, .data, .data, .data, .sentinel, .sentinel, .pinned], laidTests := true, laidLooks := .later }
def YearOrderUptoCardSaid : Prop := Claim7.holds Tryz.pinned (.plain (OpenSpec.upto yearOrderSpec)) yearOrderUptoCard

/-- THE SECOND FORM's CARD OF 'wagebooklaw28.YearSteps'. -/
def yearStepsUptoCard : Claim7 := { stood := { row := yearStepsUptoRow, standIns := [], harness := (true, "0636d8ed87701a353126cee0dce20df21dc36edfba780f606db9805df5db5fbb"), looks := true }, kinds := [], alts := [], laidByText := true, laidKinds := [.data, .data, .data, .data, .sentinel, .sentinel, .pinned], laidTests := true, laidLooks := .later }
def YearStepsUptoCardSaid : Prop := Claim7.holds Tryz.pinned (.plain (OpenSpec.upto yearStepsSpec)) yearStepsUptoCard
end Rows
end Go.Proofs.YtgepbkldgnjpfaaGreatDoor
