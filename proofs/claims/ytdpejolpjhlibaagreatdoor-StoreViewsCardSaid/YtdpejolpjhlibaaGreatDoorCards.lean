/-
  DERIVED. GIVEN WITH THE SEED: THE CARDS: each row of YtdpejolpjhlibaaGreatDoorRows.lean that lists a variable, with what it lists TIED to the program's text (the seventh form; the later family's looks); each row that meets fmt, with fmt's text TOLD by the authors' own Lean function (tested against real Go, not proved from fmt's source: count such statements apart). THE CARD IS WHAT COUNTS. Prove the row's statement (the work); the ties are given (YtdpejolpjhlibaaGreatDoorTie.lean); close each card by the builder's one call (the guide's Derived/Test/ToyasCard.lean, 'card_holds'). Laid BY PROGRAM, IN A SANDBOX (cutbox-door.mjs). By AI agents, Wed Nov 11 2026. No macro, syntax, notation, axiom, sorry.
-/
import Derived.Test.YtdpejolpjhlibaaGreatDoorRows
import GoSem.ClaimSeven
namespace Go.Proofs.YtdpejolpjhlibaaGreatDoor
namespace Rows

/-- THE TIED CARD OF 'wagebooklaw09.StoreChanges'. -/
def storeChangesCard : Claim7 := { stood := { row := storeChangesRow, standIns := [], harness := (true, "e1a35ab07bc9e5272b2818ad91e59b845b6a87f6d3f1b058390e3e3563c96a5f"), looks := true }, kinds := [], alts := [], laidByText := true, laidKinds := [.data, .data, .data, .data, .sentinel, .sentinel, .pinned], laidTests := true, laidLooks := .later }
def StoreChangesCardSaid : Prop := Claim7.holds Tryz.pinned (.plain (OpenSpec.ofChange storeChangesSpec)) storeChangesCard

/-- THE TIED CARD OF 'wagebooklaw09.StoreAgain'. -/
def storeAgainCard : Claim7 := { stood := { row := storeAgainRow, standIns := [], harness := (true, "e1a35ab07bc9e5272b2818ad91e59b845b6a87f6d3f1b058390e3e3563c96a5f"), looks := true }, kinds := [], alts := [], laidByText := true, laidKinds := [.data, .data, .data, .data, .sentinel, .sentinel, .pinned], laidTests := true, laidLooks := .later }
def StoreAgainCardSaid : Prop := Claim7.holds Tryz.pinned (.plain (OpenSpec.ofChange storeAgainSpec)) storeAgainCard

/-- THE TIED CARD OF 'wagebooklaw09.StoreCancels'. -/
def storeCancelsCard : Claim7 := { stood := { row := storeCancelsRow, standIns := [], harness := (true, "e1a35ab07bc9e5272b2818ad91e59b845b6a87f6d3f1b058390e3e3563c96a5f"), looks := true }, kinds := [], alts := [], laidByText := true, laidKinds := [.data, .data, .data, .data, .sentinel, .sentinel, .pinned], laidTests := true, laidLooks := .later }
def StoreCancelsCardSaid : Prop := Claim7.holds Tryz.pinned (.plain (OpenSpec.ofChange storeCancelsSpec)) storeCancelsCard

/-- THE TIED CARD OF 'wagebooklaw09.StoreKeeps'. -/
def storeKeepsCard : Claim7 := { stood := { row := storeKeepsRow, standIns := [], harness := (true, "e1a35ab07bc9e5272b2818ad91e59b845b6a87f6d3f1b058390e3e3563c96a5f"), looks := true }, kinds := [], alts := [], laidByText := true, laidKinds := [.data, .data, .data, .data, .sentinel, .sentinel, .pinned], laidTests := true, laidLooks := .later }
def StoreKeepsCardSaid : Prop := Claim7.holds Tryz.pinned (.plain (OpenSpec.ofChange storeKeepsSpec)) storeKeepsCard

/-- THE TIED CARD OF 'wagebooklaw09.StoreAdds'. -/
def storeAddsCard : Claim7 := { stood := { row := storeAddsRow, standIns := [], harness := (true, "e1a35ab07bc9e5272b2818ad91e59b845b6a87f6d3f1b058390e3e3563c96a5f"), looks := true }, kinds := [], alts := [], laidByText := true, laidKinds := [.data, .data, .data, .data, .sentinel, .sentinel, .pinned], laidTests := true, laidLooks := .later }
def StoreAddsCardSaid : Prop := Claim7.holds Tryz.pinned (.plain (OpenSpec.ofChange storeAddsSpec)) storeAddsCard

/-- THE TIED CARD OF 'wagebooklaw09.StoreImports'. -/
def storeImportsCard : Claim7 := { stood := { row := storeImportsRow, standIns := [], harness := (true, "e1a35ab07bc9e5272b2818ad91e59b845b6a87f6d3f1b058390e3e3563c96a5f"), looks := true }, kinds := [], alts := [], laidByText := true, laidKinds := [.data, .data, .data, .data, .sentinel, .sentinel, .pinned], laidTests := true, laidLooks := .later }
def StoreImportsCardSaid : Prop := Claim7.holds Tryz.pinned (.plain (OpenSpec.ofChange storeImportsSpec)) storeImportsCard

/-- THE TIED CARD OF 'wagebooklaw09.StoreTurns'. -/
def storeTurnsCard : Claim7 := { stood := { row := storeTurnsRow, standIns := [], harness := (true, "e1a35ab07bc9e5272b2818ad91e59b845b6a87f6d3f1b058390e3e3563c96a5f"), looks := true }, kinds := [], alts := [], laidByText := true, laidKinds := [.data, .data, .data, .data, .sentinel, .sentinel, .pinned], laidTests := true, laidLooks := .later }
def StoreTurnsCardSaid : Prop := Claim7.holds Tryz.pinned (.plain (OpenSpec.ofChange storeTurnsSpec)) storeTurnsCard

/-- THE TIED CARD OF 'wagebooklaw09.StoreViews'. -/
def storeViewsCard : Claim7 := { stood := { row := storeViewsRow, standIns := [], harness := (true, "e1a35ab07bc9e5272b2818ad91e59b845b6a87f6d3f1b058390e3e3563c96a5f"), looks := true }, kinds := [], alts := [], laidByText := true, laidKinds := [.data, .data, .data, .data, .sentinel, .sentinel, .pinned], laidTests := true, laidLooks := .later }
def StoreViewsCardSaid : Prop := Claim7.holds Tryz.pinned (.plain (OpenSpec.ofChange storeViewsSpec)) storeViewsCard

/-- THE SECOND FORM's CARD OF 'wagebooklaw09.StoreChanges'. -/
def storeChangesUptoCard : Claim7 := { stood := { row := storeChangesUptoRow, standIns := [], harness := (true, "e1a35ab07bc9e5272b2818ad91e59b845b6a87f6d3f1b058390e3e3563c96a5f"), looks := true }, kinds := [], alts := [], laidByText := true, laidKinds := [.data, .data, .data, .data, .sentinel, .sentinel, .pinned], laidTests := true, laidLooks := .later }
def StoreChangesUptoCardSaid : Prop := Claim7.holds Tryz.pinned (.plain (OpenSpec.upto storeChangesSpec)) storeChangesUptoCard

/-- THE SECOND FORM's CARD OF 'wagebooklaw09.StoreAgain'. -/
def storeAgainUptoCard : Claim7 := { stood := { row := storeAgainUptoRow, standIns := [], harness := (true, "e1a35ab07bc9e5272b2818ad91e59b845b6a87f6d3f1b058390e3e3563c96a5f"), looks := true }, kinds := [], alts := [], laidByText := true, laidKinds := [.data, .data, .data, .data, .sentinel, .sentinel, .pinned], laidTests := true, laidLooks := .later }
def StoreAgainUptoCardSaid : Prop := Claim7.holds Tryz.pinned (.plain (OpenSpec.upto storeAgainSpec)) storeAgainUptoCard

/-- THE SECOND FORM's CARD OF 'wagebooklaw09.StoreCancels'. -/
def storeCancelsUptoCard : Claim7 := { stood := { row := storeCancelsUptoRow, standIns := [], harness := (true, "e1a35ab07bc9e5272b2818ad91e59b845b6a87f6d3f1b058390e3e3563c96a5f"), looks := true }, kinds := [], alts := [], laidByText := true, laidKinds := [.data, .data, .data, .data, .sentinel, .sentinel, .pinned], laidTests := true, laidLooks := .later }
def StoreCancelsUptoCardSaid : Prop := Claim7.holds Tryz.pinned (.plain (OpenSpec.upto storeCancelsSpec)) storeCancelsUptoCard

/-- THE SECOND FORM's CARD OF 'wagebooklaw09.StoreKeeps'. -/
def storeKeepsUptoCard : Claim7 := { stood := { row := storeKeepsUptoRow, standIns := [], harness := (true, "e1a35ab07bc9e5272b2818ad91e59b845b6a87f6d3f1b058390e3e3563c96a5f"), looks := true }, kinds := [], alts := [], laidByText := true, laidKinds := [.data, .data, .data, .data, .sentinel, .sentinel, .pinned], laidTests := true, laidLooks := .later }
def StoreKeepsUptoCardSaid : Prop := Claim7.holds Tryz.pinned (.plain (OpenSpec.upto storeKeepsSpec)) storeKeepsUptoCard

/-- THE SECOND FORM's CARD OF 'wagebooklaw09.StoreAdds'. -/
def storeAddsUptoCard : Claim7 := { stood := { row := storeAddsUptoRow, standIns := [], harness := (true, "e1a35ab07bc9e5272b2818ad91e59b845b6a87f6d3f1b058390e3e3563c96a5f"), looks := true }, kinds := [], alts := [], laidByText := true, laidKinds := [.data, .data, .data, .data, .sentinel, .sentinel, .pinned], laidTests := true, laidLooks := .later }
def StoreAddsUptoCardSaid : Prop := Claim7.holds Tryz.pinned (.plain (OpenSpec.upto storeAddsSpec)) storeAddsUptoCard

/-- THE SECOND FORM's CARD OF 'wagebooklaw09.StoreImports'. -/
def storeImportsUptoCard : Claim7 := { stood := { row := storeImportsUptoRow, standIns := [], harness := (true, "e1a35ab07bc9e5272b2818ad91e59b845b6a87f6d3f1b058390e3e3563c96a5f"), looks := true }, kinds := [], alts := [], laidByText := true, laidKinds := [.data, .data, .data, .data, .sentinel, .sentinel, .pinned], laidTests := true, laidLooks := .later }
def StoreImportsUptoCardSaid : Prop := Claim7.holds Tryz.pinned (.plain (OpenSpec.upto storeImportsSpec)) storeImportsUptoCard

/-- THE SECOND FORM's CARD OF 'wagebooklaw09.StoreTurns'. -/
def storeTurnsUptoCard : Claim7 := { stood := { row := storeTurnsUptoRow, standIns := [], harness := (true, "e1a35ab07bc9e5272b2818ad91e59b845b6a87f6d3f1b058390e3e3563c96a5f"), looks := true }, kinds := [], alts := [], laidByText := true, laidKinds := [.data, .data, .data, .data, .sentinel, .sentinel, .pinned], laidTests := true, laidLooks := .later }
def StoreTurnsUptoCardSaid : Prop := Claim7.holds Tryz.pinned (.plain (OpenSpec.upto storeTurnsSpec)) storeTurnsUptoCard

/-- THE SECOND FORM's CARD OF 'wagebooklaw09.StoreViews'. -/
def storeViewsUptoCard : Claim7 := { stood := { row := storeViewsUptoRow, standIns := [], harness := (true, "e1a35ab07bc9e5272b2818ad91e59b845b6a87f6d3f1b058390e3e3563c96a5f"), looks := true }, kinds := [], alts := [], laidByText := true, laidKinds := [.data, .data, .data, .data, .sentinel, .sentinel, .pinned], laidTests := true, laidLooks := .later }
def StoreViewsUptoCardSaid : Prop := Claim7.holds Tryz.pinned (.plain (OpenSpec.upto storeViewsSpec)) storeViewsUptoCard
end Rows
end Go.Proofs.YtdpejolpjhlibaaGreatDoor
