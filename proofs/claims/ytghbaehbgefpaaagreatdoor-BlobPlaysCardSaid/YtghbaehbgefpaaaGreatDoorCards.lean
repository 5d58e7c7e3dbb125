/-
  DERIVED. GIVEN WITH THE SEED: THE CARDS: each row of YtghbaehbgefpaaaGreatDoorRows.lean that lists a variable, with what it lists TIED to the program's text (the seventh form; the later family's looks); each row that meets fmt, with fmt's text TOLD by the authors' own Lean function (tested against real Go, not proved from fmt's source: count such statements apart). THE CARD IS WHAT COUNTS. Prove the row's statement (the work); the ties are given (YtghbaehbgefpaaaGreatDoorTie.lean); close each card by the builder's one call (the guide's Derived/Test/ToyasCard.lean, 'card_holds'). Laid BY PROGRAM, IN A SANDBOX (cutbox-door.mjs). By AI agents, Wed Nov 11 2026. No macro, syntax, notation, axiom, sorry.
-/
import Derived.Test.YtghbaehbgefpaaaGreatDoorRows
import GoSem.ClaimSeven
namespace Go.Proofs.YtghbaehbgefpaaaGreatDoor
namespace Rows

/-- THE TIED CARD OF 'cooperagelaw7.BlobOne'. -/
def blobOneCard : Claim7 := { stood := { row := blobOneRow, standIns := [], harness := (true, "1c708cb6b97e5658c4241b8f01b9301bd1292ca5f7617722cb80af9cdf31b9bd"), looks := true }, kinds := [], alts := [], laidByText := true, laidKinds := [.data, .data, .data, .data, .sentinel, .sentinel, .pinned], laidTests := true, laidLooks := .later }
def BlobOneCardSaid : Prop := Claim7.holds Tryz.pinned (.plain (OpenSpec.ofChange blobOneSpec)) blobOneCard

/-- THE TIED CARD OF 'cooperagelaw7.BlobOrder'. -/
def blobOrderCard : Claim7 := { stood := { row := blobOrderRow, standIns := [], harness := (true, "1c708cb6b97e5658c4241b8f01b9301bd1292ca5f7617722cb80af9cdf31b9bd"), looks := true }, kinds := [], alts := [], laidByText := true, laidKinds := [.data, .data, .data, .data, .sentinel, .sentinel, .pinned], laidTests := true, laidLooks := .later }
def BlobOrderCardSaid : Prop := Claim7.holds Tryz.pinned (.plain (OpenSpec.ofChange blobOrderSpec)) blobOrderCard

/-- THE TIED CARD OF 'cooperagelaw7.BlobAgain'. -/
def blobAgainCard : Claim7 := { stood := { row := blobAgainRow, standIns := [], harness := (true, "1c708cb6b97e5658c4241b8f01b9301bd1292ca5f7617722cb80af9cdf31b9bd"), looks := true }, kinds := [], alts := [], laidByText := true, laidKinds := [.data, .data, .data, .data, .sentinel, .sentinel, .pinned], laidTests := true, laidLooks := .later }
def BlobAgainCardSaid : Prop := Claim7.holds Tryz.pinned (.plain (OpenSpec.ofChange blobAgainSpec)) blobAgainCard

/-- THE TIED CARD OF 'cooperagelaw7.BlobKeeps'. -/
def blobKeepsCard : Claim7 := { stood := { row := blobKeepsRow, standIns := [], harness := (true, "1c708cb6b97e5658c4241b8f01b9301bd1292ca5f7617722cb80af9cdf31b9bd"), looks := true }, kinds := [], alts := [], laidByText := true, laidKinds := [.data, .data, .data, .data, .sentinel, .sentinel, .pinned], laidTests := true, laidLooks := .later }
def BlobKeepsCardSaid : Prop := Claim7.holds Tryz.pinned (.plain (OpenSpec.ofChange blobKeepsSpec)) blobKeepsCard

/-- THE TIED CARD OF 'cooperagelaw7.BlobPlays'. -/
def blobPlaysCard : Claim7 := { stood := { row := blobPlaysRow, standIns := [], harness := (true, "1c708cb6b97e5658c4241b8f01b9301bd1292ca5f7617722cb80af9cdf31b9bd"), looks := true }, kinds := [], alts := [], laidByText := true, laidKinds := [.data, .data, .data, .data, .sentinel, .sentinel, .pinned], laidTests := true, laidLooks := .later }
def BlobPlaysCardSaid : Prop := Claim7.holds Tryz.pinned (.plain (OpenSpec.ofChange blobPlaysSpec)) blobPlaysCard

/-- THE SECOND FORM's CARD OF 'cooperagelaw7.BlobOne'. -/
def blobOneUptoCard : Claim7 := { stood := { row := blobOneUptoRow, standIns := [], harness := (true, "1c708cb6b97e5658c4241b8f01b9301bd1292ca5f7617722cb80af9cdf31b9bd"), looks := true }, kinds := [], alts := [], laidByText := true, laidKinds := [.data, .data, .data, .data, .sentinel, .sentinel, .pinned], laidTests := true, laidLooks := .later }
def BlobOneUptoCardSaid : Prop := Claim7.holds Tryz.pinned (.plain (OpenSpec.upto blobOneSpec)) blobOneUptoCard

/-- THE SECOND FORM's CARD OF 'cooperagelaw7.BlobOrder'. -/
def blobOrderUptoCard : Claim7 := { stood := { row := blobOrderUptoRow, standIns := [], harness := (true, "1c708cb6b97e5658c4241b8f01b9301bd1292ca5f7617722cb80af9cdf31b9bd"), looks := true }, kinds := [], alts := [], laidByText := true, laidKinds := [.data, .data, .data, .data, .sentinel, .sentinel, .pinned], laidTests := true, laidLooks := .later }
def BlobOrderUptoCardSaid : Prop := Claim7.holds Tryz.pinned (.plain (OpenSpec.upto blobOrderSpec)) blobOrderUptoCard

/-- THE SECOND FORM's CARD OF 'cooperagelaw7.BlobAgain'. -/
def blobAgainUptoCard : Claim7 := { stood := { row := blobAgainUptoRow, standIns := [], harness := (true, "1c708cb6b97e5658c4241b8f01b9301bd1292ca5f7617722cb80af9cdf31b9bd"), looks := true }, kinds := [], alts := [], laidByText := true, laidKinds := [.data, .data, .data, .data, .sentinel, .sentinel, .pinned], laidTests := true, laidLooks := .later }
def BlobAgainUptoCardSaid : Prop := Claim7.holds Tryz.pinned (.plain (OpenSpec.upto blobAgainSpec)) blobAgainUptoCard

/-- THE SECOND FORM's CARD OF 'cooperagelaw7.BlobKeeps'. -/
def blobKeepsUptoCard : Claim7 := { stood := { row := blobKeepsUptoRow, standIns := [], harness := (true, "1c708cb6b97e5658c4241b8f01b9301bd1292ca5f7617722cb80af9cdf31b9bd"), looks := true }, kinds := [], alts := [], laidByText := true, laidKinds := [.data, .data, .data, .data, .sentinel, .sentinel, .pinned], laidTests := true, laidLooks := .later }
def BlobKeepsUptoCardSaid : Prop := Claim7.holds Tryz.pinned (.plain (OpenSpec.upto blobKeepsSpec)) blobKeepsUptoCard

/-- THE SECOND FORM's CARD OF 'cooperagelaw7.BlobPlays'. -/
def blobPlaysUptoCard : Claim7 := { stood := { row := blobPlaysUptoRow, standIns := [], harness := (true, "1c708cb6b97e5658c4241b8f01b9301bd1292ca5f7617722cb80af9cdf31b9bd"), looks := true }, kinds := [], alts := [], laidByText := true, laidKinds := [.data, .data, .data, .data, .sentinel, .sentinel, .pinned], laidTests := true, laidLooks := .later }
def BlobPlaysUptoCardSaid : Prop := Claim7.holds Tryz.pinned (.plain (OpenSpec.upto blobPlaysSpec)) blobPlaysUptoCard
end Rows
end Go.Proofs.YtghbaehbgefpaaaGreatDoor
