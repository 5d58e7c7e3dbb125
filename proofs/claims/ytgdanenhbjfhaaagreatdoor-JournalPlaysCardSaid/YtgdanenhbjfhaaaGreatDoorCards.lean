/-
  DERIVED. GIVEN WITH THE SEED: THE CARDS: each row of YtgdanenhbjfhaaaGreatDoorRows.lean that lists a variable, with what it lists TIED to the program's text (the seventh form; the later family's looks); each row that meets fmt, with fmt's text TOLD by the authors' own Lean function (tested against real Go, not proved from fmt's source: count such statements apart). THE CARD IS WHAT COUNTS. Prove the row's statement (the work); the ties are given (YtgdanenhbjfhaaaGreatDoorTie.lean); close each card by the builder's one call (the guide's Derived/Test/ToyasCard.lean, 'card_holds'). Laid BY PROGRAM, IN A SANDBOX (cutbox-door.mjs). By AI agents, Wed Nov 11 2026. No macro, syntax, notation, axiom, sorry.
-/
import Derived.Test.YtgdanenhbjfhaaaGreatDoorRows
import GoSem.ClaimSeven
namespace Go.Proofs.YtgdanenhbjfhaaaGreatDoor
namespace Rows

/-- THE TIED CARD OF 'cooperagelaw6.JournalPlays'. -/
def journalPlaysCard : Claim7 := { stood := { row := journalPlaysRow, standIns := [], harness := (true, "6b32dd46b0357b8908eecc5a12c521f759c397b1d8f612ec81fd0230d18ad857"), looks := true }, kinds := [], alts := [], laidByText := true, laidKinds := [.data, .data, .data, .data, .sentinel, .sentinel, .pinned], laidTests := true, laidLooks := .later }
def JournalPlaysCardSaid : Prop := Claim7.holds Tryz.pinned (.plain (OpenSpec.ofChange journalPlaysSpec)) journalPlaysCard

/-- THE SECOND FORM's CARD OF 'cooperagelaw6.JournalPlays'. -/
def journalPlaysUptoCard : Claim7 := { stood := { row := journalPlaysUptoRow, standIns := [], harness := (true, "6b32dd46b0357b8908eecc5a12c521f759c397b1d8f612ec81fd0230d18ad857"), looks := true }, kinds := [], alts := [], laidByText := true, laidKinds := [.data, .data, .data, .data, .sentinel, .sentinel, .pinned], laidTests := true, laidLooks := .later }
def JournalPlaysUptoCardSaid : Prop := Claim7.holds Tryz.pinned (.plain (OpenSpec.upto journalPlaysSpec)) journalPlaysUptoCard
end Rows
end Go.Proofs.YtgdanenhbjfhaaaGreatDoor
