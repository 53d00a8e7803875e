/-
  DERIVED. GIVEN WITH THE SEED: THE CARDS: each row of YtlhmkfcbldghfaaDoorRows.lean that lists a variable, with what it lists TIED to the program's text (the seventh form; the later family's looks); each row that meets fmt, with fmt's text TOLD by the authors' own Lean function (tested against real Go, not proved from fmt's source: count such statements apart). THE CARD IS WHAT COUNTS. Prove the row's statement (the work); the ties are given (YtlhmkfcbldghfaaDoorTie.lean); close each card by the builder's one call (the guide's Derived/Test/ToyasCard.lean, 'card_holds'). Laid BY PROGRAM, IN A SANDBOX (cutbox-door.mjs). By AI agents, Wed Nov 11 2026. No macro, syntax, notation, axiom, sorry.
-/
import Derived.Test.YtlhmkfcbldghfaaDoorRows
import GoSem.ClaimSeven
namespace Go.Proofs.YtlhmkfcbldghfaaDoor
namespace Rows

/-- THE TIED CARD OF 'spinetlaw10.TreePlaces'. -/
def treePlacesCard : Claim7 := { stood := { row := treePlacesRow, standIns := [], harness := (true, "6ec4547898e54ec80b5f1f517a50c3e1e04554a25857efd16f6ecec5bb8b951c"), looks := true }, kinds := [], alts := [], laidByText := true, laidKinds := [.data, .data, .data, .sentinel, .sentinel, .listed, .data], laidTests := true, laidLooks := .later }
def TreePlacesCardSaid : Prop := Claim7.holds Tryd.pinned (.plain (OpenSpec.ofChange treePlacesSpec)) treePlacesCard

/-- THE SECOND FORM's CARD OF 'spinetlaw10.TreePlaces'. -/
def treePlacesUptoCard : Claim7 := { stood := { row := treePlacesUptoRow, standIns := [], harness := (true, "6ec4547898e54ec80b5f1f517a50c3e1e04554a25857efd16f6ecec5bb8b951c"), looks := true }, kinds := [], alts := [], laidByText := true, laidKinds := [.data, .data, .data, .sentinel, .sentinel, .listed, .data], laidTests := true, laidLooks := .later }
def TreePlacesUptoCardSaid : Prop := Claim7.holds Tryd.pinned (.plain (OpenSpec.upto treePlacesSpec)) treePlacesUptoCard
end Rows
end Go.Proofs.YtlhmkfcbldghfaaDoor
