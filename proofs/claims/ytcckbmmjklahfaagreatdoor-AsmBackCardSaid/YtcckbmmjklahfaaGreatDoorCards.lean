/-
  DERIVED. GIVEN WITH THE SEED: THE CARDS: each row of YtcckbmmjklahfaaGreatDoorRows.lean that lists a variable, with what it lists TIED to the program's text (the seventh form; the later family's looks); each row that meets fmt, with fmt's text TOLD by the authors' own Lean function (tested against real Go, not proved from fmt's source: count such statements apart). THE CARD IS WHAT COUNTS. Prove the row's statement (the work); the ties are given (YtcckbmmjklahfaaGreatDoorTie.lean); close each card by the builder's one call (the guide's Derived/Test/ToyasCard.lean, 'card_holds'). Laid BY PROGRAM, IN A SANDBOX (cutbox-door.mjs). By AI agents, Wed Nov 11 2026. No macro, syntax, notation, axiom, sorry.
-/
import Derived.Test.YtcckbmmjklahfaaGreatDoorRows
import GoSem.ClaimSeven
namespace Go.Proofs.YtcckbmmjklahfaaGreatDoor
namespace Rows

/-- THE TIED CARD OF 'spinetlaw06.AsmWords'. -/
def asmWordsCard : Claim7 := { stood := { row := asmWordsRow, standIns := [], harness := (true, "704e86c5c50d435d8115a4eafaec3b2e8fb2e87c8133cc20572a358171457211"), looks := true }, kinds := [], alts := [], laidByText := true, laidKinds := [.data, .data, .data, .data, .sentinel, .sentinel, .listed, .data, .pinned], laidTests := true, laidLooks := .later }
def AsmWordsCardSaid : Prop := Claim7.holds Tryz.pinned (.plain (OpenSpec.ofChange asmWordsSpec)) asmWordsCard

/-- THE TIED CARD OF 'spinetlaw06.AsmLists'. -/
def asmListsCard : Claim7 := { stood := { row := asmListsRow, standIns := [], harness := (true, "704e86c5c50d435d8115a4eafaec3b2e8fb2e87c8133cc20572a358171457211"), looks := true }, kinds := [], alts := [], laidByText := true, laidKinds := [.data, .data, .data, .data, .sentinel, .sentinel, .listed, .data, .pinned], laidTests := true, laidLooks := .later }
def AsmListsCardSaid : Prop := Claim7.holds Tryz.pinned (.plain (OpenSpec.ofChange asmListsSpec)) asmListsCard

/-- THE TIED CARD OF 'spinetlaw06.AsmBack'. -/
def asmBackCard : Claim7 := { stood := { row := asmBackRow, standIns := [], harness := (true, "704e86c5c50d435d8115a4eafaec3b2e8fb2e87c8133cc20572a358171457211"), looks := true }, kinds := [], alts := [], laidByText := true, laidKinds := [.data, .data, .data, .data, .sentinel, .sentinel, .listed, .data, .pinned], laidTests := true, laidLooks := .later }
def AsmBackCardSaid : Prop := Claim7.holds Tryz.pinned (.plain (OpenSpec.ofChange asmBackSpec)) asmBackCard

/-- THE SECOND FORM's CARD OF 'spinetlaw06.AsmWords'. -/
def asmWordsUptoCard : Claim7 := { stood := { row := asmWordsUptoRow, standIns := [], harness := (true, "704e86c5c50d435d8115a4eafaec3b2e8fb2e87c8133cc20572a358171457211"), looks := true }, kinds := [], alts := [], laidByText := true, laidKinds := [.data, .data, .data, .data, .sentinel, .sentinel, .listed, .data, .pinned], laidTests := true, laidLooks := .later }
def AsmWordsUptoCardSaid : Prop := Claim7.holds Tryz.pinned (.plain (OpenSpec.upto asmWordsSpec)) asmWordsUptoCard

/-- THE SECOND FORM's CARD OF 'spinetlaw06.AsmLists'. -/
def asmListsUptoCard : Claim7 := { stood := { row := asmListsUptoRow, standIns := [], harness := (true, "704e86c5c50d435d8115a4eafaec3b2e8fb2e87c8133cc20572a358171457211"), looks := true }, kinds := [], alts := [], laidByText := true, laidKinds := [.data, .data, .data, .data, .sentinel, .sentinel, .listed, .data, .pinned], laidTests := true, laidLooks := .later }
def AsmListsUptoCardSaid : Prop := Claim7.holds Tryz.pinned (.plain (OpenSpec.upto asmListsSpec)) asmListsUptoCard

/-- THE SECOND FORM's CARD OF 'spinetlaw06.AsmBack'. -/
def asmBackUptoCard : Claim7 := { stood := { row := asmBackUptoRow, standIns := [], harness := (true, "704e86c5c50d435d8115a4eafaec3b2e8fb2e87c8133cc20572a358171457211"), looks := true }, kinds := [], alts := [], laidByText := true, laidKinds := [.data, .data, .data, .data, .sentinel, .sentinel, .listed, .data, .pinned], laidTests := true, laidLooks := .later }
def AsmBackUptoCardSaid : Prop := Claim7.holds Tryz.pinned (.plain (OpenSpec.upto asmBackSpec)) asmBackUptoCard
end Rows
end Go.Proofs.YtcckbmmjklahfaaGreatDoor
