/-
  DERIVED. GIVEN WITH THE SEED: THE CARDS: each row of YthkegfdijohpaaaGreatDoorRows.lean that lists a variable, with what it lists TIED to the program's text (the seventh form; the later family's looks); each row that meets fmt, with fmt's text TOLD by the authors' own Lean function (tested against real Go, not proved from fmt's source: count such statements apart). THE CARD IS WHAT COUNTS. Prove the row's statement (the work); the ties are given (YthkegfdijohpaaaGreatDoorTie.lean); close each card by the builder's one call (the guide's Derived/Test/ToyasCard.lean, 'card_holds'). Laid BY PROGRAM, IN A SANDBOX (cutbox-door.mjs). By AI agents, Wed Nov 11 2026. No macro, syntax, notation, axiom, sorry.
-/
import Derived.Test.YthkegfdijohpaaaGreatDoorRows
import GoSem.ClaimSeven
namespace Go.Proofs.YthkegfdijohpaaaGreatDoor
namespace Rows

/-- THE TIED CARD OF 'spinetlaw29.ConsoleReads'. -/
def consoleReadsCard : Claim7 := { stood := { row := consoleReadsRow, standIns := [], harness := (true, "6f8dc262c007ab9449760b7b96ab71612de9c99420d6719daf872c8b8ac488ee"), looks := true }, kinds := [], alts := [], laidByText := true, laidKinds := [.sentinel, .sentinel, .data, .data, .data, .data, .listed, .pinned, .data, .pinned], laidTests := true, laidLooks := .later }
def ConsoleReadsCardSaid : Prop := Claim7.holds Tryz.pinned (.plain (OpenSpec.ofChange consoleReadsSpec)) consoleReadsCard

/-- THE TIED CARD OF 'spinetlaw29.ConsoleLines'. -/
def consoleLinesCard : Claim7 := { stood := { row := consoleLinesRow, standIns := [], harness := (true, "6f8dc262c007ab9449760b7b96ab71612de9c99420d6719daf872c8b8ac488ee"), looks := true }, kinds := [], alts := [], laidByText := true, laidKinds := [.sentinel, .sentinel, .data, .data, .data, .data, .listed, .pinned, .data, .pinned], laidTests := true, laidLooks := .later }
def ConsoleLinesCardSaid : Prop := Claim7.holds Tryz.pinned (.plain (OpenSpec.ofChange consoleLinesSpec)) consoleLinesCard

/-- THE TIED CARD OF 'spinetlaw29.ConsoleBack'. -/
def consoleBackCard : Claim7 := { stood := { row := consoleBackRow, standIns := [], harness := (true, "6f8dc262c007ab9449760b7b96ab71612de9c99420d6719daf872c8b8ac488ee"), looks := true }, kinds := [], alts := [], laidByText := true, laidKinds := [.sentinel, .sentinel, .data, .data, .data, .data, .listed, .pinned, .data, .pinned], laidTests := true, laidLooks := .later }
def ConsoleBackCardSaid : Prop := Claim7.holds Tryz.pinned (.plain (OpenSpec.ofChange consoleBackSpec)) consoleBackCard

/-- THE TIED CARD OF 'spinetlaw29.ConsoleBytes'. -/
def consoleBytesCard : Claim7 := { stood := { row := consoleBytesRow, standIns := [], harness := (true, "6f8dc262c007ab9449760b7b96ab71612de9c99420d6719daf872c8b8ac488ee"), looks := true }, kinds := [], alts := [], laidByText := true, laidKinds := [.sentinel, .sentinel, .data, .data, .data, .data, .listed, .pinned, .data, .pinned], laidTests := true, laidLooks := .later }
def ConsoleBytesCardSaid : Prop := Claim7.holds Tryz.pinned (.plain (OpenSpec.ofChange consoleBytesSpec)) consoleBytesCard

/-- THE SECOND FORM's CARD OF 'spinetlaw29.ConsoleReads'. -/
def consoleReadsUptoCard : Claim7 := { stood := { row := consoleReadsUptoRow, standIns := [], harness := (true, "6f8dc262c007ab9449760b7b96ab71612de9c99420d6719daf872c8b8ac488ee"), looks := true }, kinds := [], alts := [], laidByText := true, laidKinds := [.sentinel, .sentinel, .data, .data, .data, .data, .listed, .pinned, .data, .pinned], laidTests := true, laidLooks := .later }
def ConsoleReadsUptoCardSaid : Prop := Claim7.holds Tryz.pinned (.plain (OpenSpec.upto consoleReadsSpec)) consoleReadsUptoCard

/-- THE SECOND FORM's CARD OF 'spinetlaw29.ConsoleLines'. -/
def consoleLinesUptoCard : Claim7 := { stood := { row := consoleLinesUptoRow, standIns := [], harness := (true, "6f8dc262c007ab9449760b7b96ab71612de9c99420d6719daf872c8b8ac488ee"), looks := true }, kinds := [], alts := [], laidByText := true, laidKinds := [.sentinel, .sentinel, .data, .data, .data, .data, .listed, .pinned, .data, .pinned], laidTests := true, laidLooks := .later }
def ConsoleLinesUptoCardSaid : Prop := Claim7.holds Tryz.pinned (.plain (OpenSpec.upto consoleLinesSpec)) consoleLinesUptoCard

/-- THE SECOND FORM's CARD OF 'spinetlaw29.ConsoleBack'. -/
def consoleBackUptoCard : Claim7 := { stood := { row := consoleBackUptoRow, standIns := [], harness := (true, "6f8dc262c007ab9449760b7b96ab71612de9c99420d6719daf872c8b8ac488ee"), looks := true }, kinds := [], alts := [], laidByText := true, laidKinds := [.sentinel, .sentinel, .data, .data, .data, .data, .listed, .pinned, .data, .pinned], laidTests := true, laidLooks := .later }
def ConsoleBackUptoCardSaid : Prop := Claim7.holds Tryz.pinned (.plain (OpenSpec.upto consoleBackSpec)) consoleBackUptoCard

/-- THE SECOND FORM's CARD OF 'spinetlaw29.ConsoleBytes'. -/
def consoleBytesUptoCard : Claim7 := { stood := { row := consoleBytesUptoRow, standIns := [], harness := (true, "6f8dc262c007ab9449760b7b96ab71612de9c99420d6719daf872c8b8ac488ee"), looks := true }, kinds := [], alts := [], laidByText := true, laidKinds := [.sentinel, .sentinel, .data, .data, .data, .data, .listed, .pinned, .data, .pinned], laidTests := true, laidLooks := .later }
def ConsoleBytesUptoCardSaid : Prop := Claim7.holds Tryz.pinned (.plain (OpenSpec.upto consoleBytesSpec)) consoleBytesUptoCard
end Rows
end Go.Proofs.YthkegfdijohpaaaGreatDoor
