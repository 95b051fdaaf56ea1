/-
  DERIVED. GIVEN WITH THE SEED: THE CARDS: each row of YtgmljgcmfooniaaGreatDoorRows.lean that lists a variable, with what it lists TIED to the program's text (the seventh form; the later family's looks); each row that meets fmt, with fmt's text TOLD by the authors' own Lean function (tested against real Go, not proved from fmt's source: count such statements apart). THE CARD IS WHAT COUNTS. Prove the row's statement (the work); the ties are given (YtgmljgcmfooniaaGreatDoorTie.lean); close each card by the builder's one call (the guide's Derived/Test/ToyasCard.lean, 'card_holds'). Laid BY PROGRAM, IN A SANDBOX (cutbox-door.mjs). By AI agents, Wed Nov 11 2026. No macro, syntax, notation, axiom, sorry.
-/
import Derived.Test.YtgmljgcmfooniaaGreatDoorRows
import GoSem.ClaimSeven
namespace Go.Proofs.YtgmljgcmfooniaaGreatDoor
namespace Rows

/-- THE TIED CARD OF 'tidewaitkeep.BenchLines'. -/
def benchLinesCard : Claim7 := { stood := { row := benchLinesRow, standIns := [], harness := (true, "aa2b0da9b2bc8586b8b2d959172a616ae3d1b258a833a45de5d1c0f6b7596752"), looks := true }, kinds := [], alts := [], laidByText := true, laidKinds := [.data, .data, .data, .data, .sentinel, .sentinel, .listed, .data, .pinned], laidTests := true, laidLooks := .later }
def BenchLinesCardSaid : Prop := Claim7.holds Tryz.pinned (.plain (OpenSpec.ofChange benchLinesSpec)) benchLinesCard

/-- THE TIED CARD OF 'tidewaittop.TopText'. -/
def topTextCard : Claim7 := { stood := { row := topTextRow, standIns := [], harness := (true, "aa2b0da9b2bc8586b8b2d959172a616ae3d1b258a833a45de5d1c0f6b7596752"), looks := true }, kinds := [], alts := [], laidByText := true, laidKinds := [.data, .data, .data, .data, .sentinel, .sentinel, .listed, .data, .pinned], laidTests := true, laidLooks := .later }
def TopTextCardSaid : Prop := Claim7.holds Tryz.pinned (.plain (OpenSpec.ofChange topTextSpec)) topTextCard

/-- THE TIED CARD OF 'tidewaittop.TopTwo'. -/
def topTwoCard : Claim7 := { stood := { row := topTwoRow, standIns := [], harness := (true, "aa2b0da9b2bc8586b8b2d959172a616ae3d1b258a833a45de5d1c0f6b7596752"), looks := true }, kinds := [], alts := [], laidByText := true, laidKinds := [.data, .data, .data, .data, .sentinel, .sentinel, .listed, .data, .pinned], laidTests := true, laidLooks := .later }
def TopTwoCardSaid : Prop := Claim7.holds Tryz.pinned (.plain (OpenSpec.ofChange topTwoSpec)) topTwoCard

/-- THE TIED CARD OF 'tidewaittop.TopClock'. -/
def topClockCard : Claim7 := { stood := { row := topClockRow, standIns := [], harness := (true, "aa2b0da9b2bc8586b8b2d959172a616ae3d1b258a833a45de5d1c0f6b7596752"), looks := true }, kinds := [], alts := [], laidByText := true, laidKinds := [.data, .data, .data, .data, .sentinel, .sentinel, .listed, .data, .pinned], laidTests := true, laidLooks := .later }
def TopClockCardSaid : Prop := Claim7.holds Tryz.pinned (.plain (OpenSpec.ofChange topClockSpec)) topClockCard

/-- THE SECOND FORM's CARD OF 'tidewaitkeep.BenchLines'. -/
def benchLinesUptoCard : Claim7 := { stood := { row := benchLinesUptoRow, standIns := [], harness := (true, "aa2b0da9b2bc8586b8b2d959172a616ae3d1b258a833a45de5d1c0f6b7596752"), looks := true }, kinds := [], alts := [], laidByText := true, laidKinds := [.data, .data, .data, .data, .sentinel, .sentinel, .listed, .data, .pinned], laidTests := true, laidLooks := .later }
def BenchLinesUptoCardSaid : Prop := Claim7.holds Tryz.pinned (.plain (OpenSpec.upto benchLinesSpec)) benchLinesUptoCard

/-- THE SECOND FORM's CARD OF 'tidewaittop.TopText'. -/
def topTextUptoCard : Claim7 := { stood := { row := topTextUptoRow, standIns := [], harness := (true, "aa2b0da9b2bc8586b8b2d959172a616ae3d1b258a833a45de5d1c0f6b7596752"), looks := true }, kinds := [], alts := [], laidByText := true, laidKinds := [.data, .data, .data, .data, .sentinel, .sentinel, .listed, .data, .pinned], laidTests := true, laidLooks := .later }
def TopTextUptoCardSaid : Prop := Claim7.holds Tryz.pinned (.plain (OpenSpec.upto topTextSpec)) topTextUptoCard

/-- THE SECOND FORM's CARD OF 'tidewaittop.TopTwo'. -/
def topTwoUptoCard : Claim7 := { stood := { row := topTwoUptoRow, standIns := [], harness := (true, "aa2b0da9b2bc8586b8b2d959172a616ae3d1b258a833a45de5d1c0f6b7596752"), looks := true }, kinds := [], alts := [], laidByText := true, laidKinds := [.data, .data, .data, .data, .sentinel, .sentinel, .listed, .data, .pinned], laidTests := true, laidLooks := .later }
def TopTwoUptoCardSaid : Prop := Claim7.holds Tryz.pinned (.plain (OpenSpec.upto topTwoSpec)) topTwoUptoCard

/-- THE SECOND FORM's CARD OF 'tidewaittop.TopClock'. -/
def topClockUptoCard : Claim7 := { stood := { row := topClockUptoRow, standIns := [], harness := (true, "aa2b0da9b2bc8586b8b2d959172a616ae3d1b258a833a45de5d1c0f6b7596752"), looks := true }, kinds := [], alts := [], laidByText := true, laidKinds := [.data, .data, .data, .data, .sentinel, .sentinel, .listed, .data, .pinned], laidTests := true, laidLooks := .later }
def TopClockUptoCardSaid : Prop := Claim7.holds Tryz.pinned (.plain (OpenSpec.upto topClockSpec)) topClockUptoCard
end Rows
end Go.Proofs.YtgmljgcmfooniaaGreatDoor
