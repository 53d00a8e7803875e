/-
  DERIVED. GIVEN WITH THE SEED: THE CARDS: each row of YtlhmkfcbldghfaaGreatDoorRows.lean that lists a variable, with what it lists TIED to the program's text (the seventh form; the later family's looks); each row that meets fmt, with fmt's text TOLD by the authors' own Lean function (tested against real Go, not proved from fmt's source: count such statements apart). THE CARD IS WHAT COUNTS. Prove the row's statement (the work); the ties are given (YtlhmkfcbldghfaaGreatDoorTie.lean); close each card by the builder's one call (the guide's Derived/Test/ToyasCard.lean, 'card_holds'). Laid BY PROGRAM, IN A SANDBOX (cutbox-door.mjs). By AI agents, Wed Nov 11 2026. No macro, syntax, notation, axiom, sorry.
-/
import Derived.Test.YtlhmkfcbldghfaaGreatDoorRows
import GoSem.ClaimSeven
namespace Go.Proofs.YtlhmkfcbldghfaaGreatDoor
namespace Rows

/-- THE TIED CARD OF 'spinetlaw10.TreeSpread'. -/
def treeSpreadCard : Claim7 := { stood := { row := treeSpreadRow, standIns := [], harness := (true, "e9b35a2bb9e080d481ee77b8e5fb71dba1ca34365f8502238cf56cfd80b7d011"), looks := true }, kinds := [], alts := [], laidByText := true, laidKinds := [.data, .data, .data, .sentinel, .sentinel, .listed, .data], laidTests := true, laidLooks := .later }
def TreeSpreadCardSaid : Prop := Claim7.holds Tryz.pinned (.plain (OpenSpec.ofChange treeSpreadSpec)) treeSpreadCard

/-- THE TIED CARD OF 'spinetlaw10.TreeSame'. -/
def treeSameCard : Claim7 := { stood := { row := treeSameRow, standIns := [], harness := (true, "e9b35a2bb9e080d481ee77b8e5fb71dba1ca34365f8502238cf56cfd80b7d011"), looks := true }, kinds := [], alts := [], laidByText := true, laidKinds := [.data, .data, .data, .sentinel, .sentinel, .listed, .data], laidTests := true, laidLooks := .later }
def TreeSameCardSaid : Prop := Claim7.holds Tryz.pinned (.plain (OpenSpec.ofChange treeSameSpec)) treeSameCard

/-- THE TIED CARD OF 'spinetlaw10.TreeMany'. -/
def treeManyCard : Claim7 := { stood := { row := treeManyRow, standIns := [], harness := (true, "e9b35a2bb9e080d481ee77b8e5fb71dba1ca34365f8502238cf56cfd80b7d011"), looks := true }, kinds := [], alts := [], laidByText := true, laidKinds := [.data, .data, .data, .data, .sentinel, .sentinel, .listed, .data, .pinned, .pinned], laidTests := true, laidLooks := .later }
def TreeManyCardSaid : Prop := Claim7.holds Tryz.pinned (.plain (OpenSpec.ofChange treeManySpec)) treeManyCard

/-- THE TIED CARD OF 'spinetlaw10.TreeTakes'. -/
def treeTakesCard : Claim7 := { stood := { row := treeTakesRow, standIns := [], harness := (true, "e9b35a2bb9e080d481ee77b8e5fb71dba1ca34365f8502238cf56cfd80b7d011"), looks := true }, kinds := [], alts := [], laidByText := true, laidKinds := [.data, .data, .data, .data, .sentinel, .sentinel, .listed, .data, .pinned, .pinned], laidTests := true, laidLooks := .later }
def TreeTakesCardSaid : Prop := Claim7.holds Tryz.pinned (.plain (OpenSpec.ofChange treeTakesSpec)) treeTakesCard

/-- THE SECOND FORM's CARD OF 'spinetlaw10.TreeSpread'. -/
def treeSpreadUptoCard : Claim7 := { stood := { row := treeSpreadUptoRow, standIns := [], harness := (true, "e9b35a2bb9e080d481ee77b8e5fb71dba1ca34365f8502238cf56cfd80b7d011"), looks := true }, kinds := [], alts := [], laidByText := true, laidKinds := [.data, .data, .data, .sentinel, .sentinel, .listed, .data], laidTests := true, laidLooks := .later }
def TreeSpreadUptoCardSaid : Prop := Claim7.holds Tryz.pinned (.plain (OpenSpec.upto treeSpreadSpec)) treeSpreadUptoCard

/-- THE SECOND FORM's CARD OF 'spinetlaw10.TreeSame'. -/
def treeSameUptoCard : Claim7 := { stood := { row := treeSameUptoRow, standIns := [], harness := (true, "e9b35a2bb9e080d481ee77b8e5fb71dba1ca34365f8502238cf56cfd80b7d011"), looks := true }, kinds := [], alts := [], laidByText := true, laidKinds := [.data, .data, .data, .sentinel, .sentinel, .listed, .data], laidTests := true, laidLooks := .later }
def TreeSameUptoCardSaid : Prop := Claim7.holds Tryz.pinned (.plain (OpenSpec.upto treeSameSpec)) treeSameUptoCard

/-- THE SECOND FORM's CARD OF 'spinetlaw10.TreeMany'. -/
def treeManyUptoCard : Claim7 := { stood := { row := treeManyUptoRow, standIns := [], harness := (true, "e9b35a2bb9e080d481ee77b8e5fb71dba1ca34365f8502238cf56cfd80b7d011"), looks := true }, kinds := [], alts := [], laidByText := true, laidKinds := [.data, .data, .data, .data, .sentinel, .sentinel, .listed, .data, .pinned, .pinned], laidTests := true, laidLooks := .later }
def TreeManyUptoCardSaid : Prop := Claim7.holds Tryz.pinned (.plain (OpenSpec.upto treeManySpec)) treeManyUptoCard

/-- THE SECOND FORM's CARD OF 'spinetlaw10.TreeTakes'. -/
def treeTakesUptoCard : Claim7 := { stood := { row := treeTakesUptoRow, standIns := [], harness := (true, "e9b35a2bb9e080d481ee77b8e5fb71dba1ca34365f8502238cf56cfd80b7d011"), looks := true }, kinds := [], alts := [], laidByText := true, laidKinds := [.data, .data, .data, .data, .sentinel, .sentinel, .listed, .data, .pinned, .pinned], laidTests := true, laidLooks := .later }
def TreeTakesUptoCardSaid : Prop := Claim7.holds Tryz.pinned (.plain (OpenSpec.upto treeTakesSpec)) treeTakesUptoCard
end Rows
end Go.Proofs.YtlhmkfcbldghfaaGreatDoor
