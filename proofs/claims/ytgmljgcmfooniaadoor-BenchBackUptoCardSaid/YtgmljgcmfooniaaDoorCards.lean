/-
  DERIVED. GIVEN WITH THE SEED: THE CARDS: each row of YtgmljgcmfooniaaDoorRows.lean that lists a variable, with what it lists TIED to the program's text (the seventh form; the later family's looks); each row that meets fmt, with fmt's text TOLD by the authors' own Lean function (tested against real Go, not proved from fmt's source: count such statements apart). THE CARD IS WHAT COUNTS. Prove the row's statement (the work); the ties are given (YtgmljgcmfooniaaDoorTie.lean); close each card by the builder's one call (the guide's Derived/Test/ToyasCard.lean, 'card_holds'). Laid BY PROGRAM, IN A SANDBOX (cutbox-door.mjs). By AI agents, Wed Nov 11 2026. No macro, syntax, notation, axiom, sorry.
-/
import Derived.Test.YtgmljgcmfooniaaDoorRows
import GoSem.ClaimSeven
namespace Go.Proofs.YtgmljgcmfooniaaDoor
namespace Rows

/-- THE TIED CARD OF 'tidewaitkeep.BenchBack'. -/
def benchBackCard : Claim7 := { stood := { row := benchBackRow, standIns := [], harness := (true, "1dcda25e6f1c0d7e202b53c0a0680ebe839a56cb11804c40209f757658e37060"), looks := true }, kinds := [], alts := [], laidByText := true, laidKinds := [.data, .data, .data, .data, .sentinel, .sentinel, .listed, .data, .pinned], laidTests := true, laidLooks := .later }
def BenchBackCardSaid : Prop := Claim7.holds Tryd.pinned (.plain (OpenSpec.ofChange benchBackSpec)) benchBackCard

/-- THE SECOND FORM's CARD OF 'tidewaitkeep.BenchBack'. -/
def benchBackUptoCard : Claim7 := { stood := { row := benchBackUptoRow, standIns := [], harness := (true, "1dcda25e6f1c0d7e202b53c0a0680ebe839a56cb11804c40209f757658e37060"), looks := true }, kinds := [], alts := [], laidByText := true, laidKinds := [.data, .data, .data, .data, .sentinel, .sentinel, .listed, .data, .pinned], laidTests := true, laidLooks := .later }
def BenchBackUptoCardSaid : Prop := Claim7.holds Tryd.pinned (.plain (OpenSpec.upto benchBackSpec)) benchBackUptoCard
end Rows
end Go.Proofs.YtgmljgcmfooniaaDoor
