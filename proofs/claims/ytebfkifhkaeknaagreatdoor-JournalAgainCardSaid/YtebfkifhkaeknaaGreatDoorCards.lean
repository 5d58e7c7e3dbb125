/-
  DERIVED. GIVEN WITH THE SEED: THE CARDS: each row of YtebfkifhkaeknaaGreatDoorRows.lean that lists a variable, with what it lists TIED to the program's text (the seventh form; the later family's looks); each row that meets fmt, with fmt's text TOLD by the authors' own Lean function (tested against real Go, not proved from fmt's source: count such statements apart). THE CARD IS WHAT COUNTS. Prove the row's statement (the work); the ties are given (YtebfkifhkaeknaaGreatDoorTie.lean); close each card by the builder's one call (the guide's Derived/Test/ToyasCard.lean, 'card_holds'). Laid BY PROGRAM, IN A SANDBOX (cutbox-door.mjs). By AI agents, Wed Nov 11 2026. No macro, syntax, notation, axiom, sorry.
-/
import Derived.Test.YtebfkifhkaeknaaGreatDoorRows
import GoSem.ClaimSeven
namespace Go.Proofs.YtebfkifhkaeknaaGreatDoor
namespace Rows

/-- THE TIED CARD OF 'cooperagelaw6.JournalApart'. -/
def journalApartCard : Claim7 := { stood := { row := journalApartRow, standIns := [], harness := (true, "4ee15aafa290f659c8ba366dad9cad8ea16e1211242dc646485f2704effee997"), looks := true }, kinds := [], alts := [], laidByText := true, laidKinds := [.data, .data, .data, .data, .sentinel, .sentinel, .pinned], laidTests := true, laidLooks := .later }
def JournalApartCardSaid : Prop := Claim7.holds Tryz.pinned (.plain (OpenSpec.ofChange journalApartSpec)) journalApartCard

/-- THE TIED CARD OF 'cooperagelaw6.JournalAgain'. -/
def journalAgainCard : Claim7 := { stood := { row := journalAgainRow, standIns := [], harness := (true, "4ee15aafa290f659c8ba366dad9cad8ea16e1211242dc646485f2704effee997"), looks := true }, kinds := [], alts := [], laidByText := true, laidKinds := [.data, .data, .data, .data, .sentinel, .sentinel, .pinned], laidTests := true, laidLooks := .later }
def JournalAgainCardSaid : Prop := Claim7.holds Tryz.pinned (.plain (OpenSpec.ofChange journalAgainSpec)) journalAgainCard

/-- THE TIED CARD OF 'cooperagelaw6.JournalKeeps'. -/
def journalKeepsCard : Claim7 := { stood := { row := journalKeepsRow, standIns := [], harness := (true, "4ee15aafa290f659c8ba366dad9cad8ea16e1211242dc646485f2704effee997"), looks := true }, kinds := [], alts := [], laidByText := true, laidKinds := [.data, .data, .data, .data, .sentinel, .sentinel, .pinned], laidTests := true, laidLooks := .later }
def JournalKeepsCardSaid : Prop := Claim7.holds Tryz.pinned (.plain (OpenSpec.ofChange journalKeepsSpec)) journalKeepsCard

/-- THE TIED CARD OF 'cooperagelaw6.JournalAnew'. -/
def journalAnewCard : Claim7 := { stood := { row := journalAnewRow, standIns := [], harness := (true, "4ee15aafa290f659c8ba366dad9cad8ea16e1211242dc646485f2704effee997"), looks := true }, kinds := [], alts := [], laidByText := true, laidKinds := [.data, .data, .data, .data, .sentinel, .sentinel, .pinned], laidTests := true, laidLooks := .later }
def JournalAnewCardSaid : Prop := Claim7.holds Tryz.pinned (.plain (OpenSpec.ofChange journalAnewSpec)) journalAnewCard

/-- THE TIED CARD OF 'cooperagelaw6.JournalPlays'. -/
def journalPlaysCard : Claim7 := { stood := { row := journalPlaysRow, standIns := [], harness := (true, "4ee15aafa290f659c8ba366dad9cad8ea16e1211242dc646485f2704effee997"), looks := true }, kinds := [], alts := [], laidByText := true, laidKinds := [.data, .data, .data, .data, .sentinel, .sentinel, .pinned], laidTests := true, laidLooks := .later }
def JournalPlaysCardSaid : Prop := Claim7.holds Tryz.pinned (.plain (OpenSpec.ofChange journalPlaysSpec)) journalPlaysCard

/-- THE SECOND FORM's CARD OF 'cooperagelaw6.JournalApart'. -/
def journalApartUptoCard : Claim7 := { stood := { row := journalApartUptoRow, standIns := [], harness := (true, "4ee15aafa290f659c8ba366dad9cad8ea16e1211242dc646485f2704effee997"), looks := true }, kinds := [], alts := [], laidByText := true, laidKinds := [.data, .data, .data, .data, .sentinel, .sentinel, .pinned], laidTests := true, laidLooks := .later }
def JournalApartUptoCardSaid : Prop := Claim7.holds Tryz.pinned (.plain (OpenSpec.upto journalApartSpec)) journalApartUptoCard

/-- THE SECOND FORM's CARD OF 'cooperagelaw6.JournalAgain'. -/
def journalAgainUptoCard : Claim7 := { stood := { row := journalAgainUptoRow, standIns := [], harness := (true, "4ee15aafa290f659c8ba366dad9cad8ea16e1211242dc646485f2704effee997"), looks := true }, kinds := [], alts := [], laidByText := true, laidKinds := [.data, .data, .data, .data, .sentinel, .sentinel, .pinned], laidTests := true, laidLooks := .later }
def JournalAgainUptoCardSaid : Prop := Claim7.holds Tryz.pinned (.plain (OpenSpec.upto journalAgainSpec)) journalAgainUptoCard

/-- THE SECOND FORM's CARD OF 'cooperagelaw6.JournalKeeps'. -/
def journalKeepsUptoCard : Claim7 := { stood := { row := journalKeepsUptoRow, standIns := [], harness := (true, "4ee15aafa290f659c8ba366dad9cad8ea16e1211242dc646485f2704effee997"), looks := true }, kinds := [], alts := [], laidByText := true, laidKinds := [.data, .data, .data, .data, .sentinel, .sentinel, .pinned], laidTests := true, laidLooks := .later }
def JournalKeepsUptoCardSaid : Prop := Claim7.holds Tryz.pinned (.plain (OpenSpec.upto journalKeepsSpec)) journalKeepsUptoCard

/-- THE SECOND FORM's CARD OF 'cooperagelaw6.JournalAnew'. -/
def journalAnewUptoCard : Claim7 := { stood := { row := journalAnewUptoRow, standIns := [], harness := (true, "4ee15aafa290f659c8ba366dad9cad8ea16e1211242dc646485f2704effee997"), looks := true }, kinds := [], alts := [], laidByText := true, laidKinds := [.data, .data, .data, .data, .sentinel, .sentinel, .pinned], laidTests := true, laidLooks := .later }
def JournalAnewUptoCardSaid : Prop := Claim7.holds Tryz.pinned (.plain (OpenSpec.upto journalAnewSpec)) journalAnewUptoCard

/-- THE SECOND FORM's CARD OF 'cooperagelaw6.JournalPlays'. -/
def journalPlaysUptoCard : Claim7 := { stood := { row := journalPlaysUptoRow, standIns := [], harness := (true, "4ee15aafa290f659c8ba366dad9cad8ea16e1211242dc646485f2704effee997"), looks := true }, kinds := [], alts := [], laidByText := true, laidKinds := [.data, .data, .data, .data, .sentinel, .sentinel, .pinned], laidTests := true, laidLooks := .later }
def JournalPlaysUptoCardSaid : Prop := Claim7.holds Tryz.pinned (.plain (OpenSpec.upto journalPlaysSpec)) journalPlaysUptoCard
end Rows
end Go.Proofs.YtebfkifhkaeknaaGreatDoor
