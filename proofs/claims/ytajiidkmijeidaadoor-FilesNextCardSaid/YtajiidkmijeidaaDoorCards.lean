/-
  DERIVED. GIVEN WITH THE SEED: THE CARDS: each row of YtajiidkmijeidaaDoorRows.lean that lists a variable, with what it lists TIED to the program's text (the seventh form; the later family's looks); each row that meets fmt, with fmt's text TOLD by the authors' own Lean function (tested against real Go, not proved from fmt's source: count such statements apart). THE CARD IS WHAT COUNTS. Prove the row's statement (the work); the ties are given (YtajiidkmijeidaaDoorTie.lean); close each card by the builder's one call (the guide's Derived/Test/ToyasCard.lean, 'card_holds'). Laid BY PROGRAM, IN A SANDBOX (cutbox-door.mjs). By AI agents, Wed Nov 11 2026. No macro, syntax, notation, axiom, sorry.
-/
import Derived.Test.YtajiidkmijeidaaDoorRows
import GoSem.ClaimSeven
namespace Go.Proofs.YtajiidkmijeidaaDoor
namespace Rows

/-- THE TIED CARD OF 'cooperagelaw5.FilesWays'. -/
def filesWaysCard : Claim7 := { stood := { row := filesWaysRow, standIns := [], harness := (true, "a5b1464211e142a5ccb44d6f1e85cf127c47afe7c6e1dc40431e56aabfe17cfc"), looks := true }, kinds := [], alts := [], laidByText := true, laidKinds := [.data, .pinned], laidTests := true, laidLooks := .later }
def FilesWaysCardSaid : Prop := Claim7.holds Tryd.pinned (.plain (OpenSpec.ofChange filesWaysSpec)) filesWaysCard

/-- THE TIED CARD OF 'cooperagelaw5.FilesLast'. -/
def filesLastCard : Claim7 := { stood := { row := filesLastRow, standIns := [], harness := (true, "a5b1464211e142a5ccb44d6f1e85cf127c47afe7c6e1dc40431e56aabfe17cfc"), looks := true }, kinds := [], alts := [], laidByText := true, laidKinds := [.data, .pinned], laidTests := true, laidLooks := .later }
def FilesLastCardSaid : Prop := Claim7.holds Tryd.pinned (.plain (OpenSpec.ofChange filesLastSpec)) filesLastCard

/-- THE TIED CARD OF 'cooperagelaw5.FilesTimes'. -/
def filesTimesCard : Claim7 := { stood := { row := filesTimesRow, standIns := [], harness := (true, "a5b1464211e142a5ccb44d6f1e85cf127c47afe7c6e1dc40431e56aabfe17cfc"), looks := true }, kinds := [], alts := [], laidByText := true, laidKinds := [.data, .pinned], laidTests := true, laidLooks := .later }
def FilesTimesCardSaid : Prop := Claim7.holds Tryd.pinned (.plain (OpenSpec.ofChange filesTimesSpec)) filesTimesCard

/-- THE TIED CARD OF 'cooperagelaw5.FilesCopy'. -/
def filesCopyCard : Claim7 := { stood := { row := filesCopyRow, standIns := [], harness := (true, "a5b1464211e142a5ccb44d6f1e85cf127c47afe7c6e1dc40431e56aabfe17cfc"), looks := true }, kinds := [], alts := [], laidByText := true, laidKinds := [.data, .pinned], laidTests := true, laidLooks := .later }
def FilesCopyCardSaid : Prop := Claim7.holds Tryd.pinned (.plain (OpenSpec.ofChange filesCopySpec)) filesCopyCard

/-- THE TIED CARD OF 'cooperagelaw5.FilesNext'. -/
def filesNextCard : Claim7 := { stood := { row := filesNextRow, standIns := [], harness := (true, "a5b1464211e142a5ccb44d6f1e85cf127c47afe7c6e1dc40431e56aabfe17cfc"), looks := true }, kinds := [], alts := [], laidByText := true, laidKinds := [.data, .pinned], laidTests := true, laidLooks := .later }
def FilesNextCardSaid : Prop := Claim7.holds Tryd.pinned (.plain (OpenSpec.ofChange filesNextSpec)) filesNextCard

/-- THE TIED CARD OF 'cooperagelaw5.FilesTurn'. -/
def filesTurnCard : Claim7 := { stood := { row := filesTurnRow, standIns := [], harness := (true, "a5b1464211e142a5ccb44d6f1e85cf127c47afe7c6e1dc40431e56aabfe17cfc"), looks := true }, kinds := [], alts := [], laidByText := true, laidKinds := [.data, .pinned], laidTests := true, laidLooks := .later }
def FilesTurnCardSaid : Prop := Claim7.holds Tryd.pinned (.plain (OpenSpec.ofChange filesTurnSpec)) filesTurnCard

/-- THE TIED CARD OF 'cooperagelaw5.FilesWhole'. -/
def filesWholeCard : Claim7 := { stood := { row := filesWholeRow, standIns := [], harness := (true, "a5b1464211e142a5ccb44d6f1e85cf127c47afe7c6e1dc40431e56aabfe17cfc"), looks := true }, kinds := [], alts := [], laidByText := true, laidKinds := [.data, .pinned], laidTests := true, laidLooks := .later }
def FilesWholeCardSaid : Prop := Claim7.holds Tryd.pinned (.plain (OpenSpec.ofChange filesWholeSpec)) filesWholeCard

/-- THE TIED CARD OF 'cooperagelaw5.FilesPlays'. -/
def filesPlaysCard : Claim7 := { stood := { row := filesPlaysRow, standIns := [], harness := (true, "a5b1464211e142a5ccb44d6f1e85cf127c47afe7c6e1dc40431e56aabfe17cfc"), looks := true }, kinds := [], alts := [], laidByText := true, laidKinds := [.data, .pinned], laidTests := true, laidLooks := .later }
def FilesPlaysCardSaid : Prop := Claim7.holds Tryd.pinned (.plain (OpenSpec.ofChange filesPlaysSpec)) filesPlaysCard

/-- THE SECOND FORM's CARD OF 'cooperagelaw5.FilesWays'. -/
def filesWaysUptoCard : Claim7 := { stood := { row := filesWaysUptoRow, standIns := [], harness := (true, "a5b1464211e142a5ccb44d6f1e85cf127c47afe7c6e1dc40431e56aabfe17cfc"), looks := true }, kinds := [], alts := [], laidByText := true, laidKinds := [.data, .pinned], laidTests := true, laidLooks := .later }
def FilesWaysUptoCardSaid : Prop := Claim7.holds Tryd.pinned (.plain (OpenSpec.upto filesWaysSpec)) filesWaysUptoCard

/-- THE SECOND FORM's CARD OF 'cooperagelaw5.FilesLast'. -/
def filesLastUptoCard : Claim7 := { stood := { row := filesLastUptoRow, standIns := [], harness := (true, "a5b1464211e142a5ccb44d6f1e85cf127c47afe7c6e1dc40431e56aabfe17cfc"), looks := true }, kinds := [], alts := [], laidByText := true, laidKinds := [.data, .pinned], laidTests := true, laidLooks := .later }
def FilesLastUptoCardSaid : Prop := Claim7.holds Tryd.pinned (.plain (OpenSpec.upto filesLastSpec)) filesLastUptoCard

/-- THE SECOND FORM's CARD OF 'cooperagelaw5.FilesTimes'. -/
def filesTimesUptoCard : Claim7 := { stood := { row := filesTimesUptoRow, standIns := [], harness := (true, "a5b1464211e142a5ccb44d6f1e85cf127c47afe7c6e1dc40431e56aabfe17cfc"), looks := true }, kinds := [], alts := [], laidByText := true, laidKinds := [.data, .pinned], laidTests := true, laidLooks := .later }
def FilesTimesUptoCardSaid : Prop := Claim7.holds Tryd.pinned (.plain (OpenSpec.upto filesTimesSpec)) filesTimesUptoCard

/-- THE SECOND FORM's CARD OF 'cooperagelaw5.FilesCopy'. -/
def filesCopyUptoCard : Claim7 := { stood := { row := filesCopyUptoRow, standIns := [], harness := (true, "a5b1464211e142a5ccb44d6f1e85cf127c47afe7c6e1dc40431e56aabfe17cfc"), looks := true }, kinds := [], alts := [], laidByText := true, laidKinds := [.data, .pinned], laidTests := true, laidLooks := .later }
def FilesCopyUptoCardSaid : Prop := Claim7.holds Tryd.pinned (.plain (OpenSpec.upto filesCopySpec)) filesCopyUptoCard

/-- THE SECOND FORM's CARD OF 'cooperagelaw5.FilesNext'. -/
def filesNextUptoCard : Claim7 := { stood := { row := filesNextUptoRow, standIns := [], harness := (true, "a5b1464211e142a5ccb44d6f1e85cf127c47afe7c6e1dc40431e56aabfe17cfc"), looks := true }, kinds := [], alts := [], laidByText := true, laidKinds := [.data, .pinned], laidTests := true, laidLooks := .later }
def FilesNextUptoCardSaid : Prop := Claim7.holds Tryd.pinned (.plain (OpenSpec.upto filesNextSpec)) filesNextUptoCard

/-- THE SECOND FORM's CARD OF 'cooperagelaw5.FilesTurn'. -/
def filesTurnUptoCard : Claim7 := { stood := { row := filesTurnUptoRow, standIns := [], harness := (true, "a5b1464211e142a5ccb44d6f1e85cf127c47afe7c6e1dc40431e56aabfe17cfc"), looks := true }, kinds := [], alts := [], laidByText := true, laidKinds := [.data, .pinned], laidTests := true, laidLooks := .later }
def FilesTurnUptoCardSaid : Prop := Claim7.holds Tryd.pinned (.plain (OpenSpec.upto filesTurnSpec)) filesTurnUptoCard

/-- THE SECOND FORM's CARD OF 'cooperagelaw5.FilesWhole'. -/
def filesWholeUptoCard : Claim7 := { stood := { row := filesWholeUptoRow, standIns := [], harness := (true, "a5b1464211e142a5ccb44d6f1e85cf127c47afe7c6e1dc40431e56aabfe17cfc"), looks := true }, kinds := [], alts := [], laidByText := true, laidKinds := [.data, .pinned], laidTests := true, laidLooks := .later }
def FilesWholeUptoCardSaid : Prop := Claim7.holds Tryd.pinned (.plain (OpenSpec.upto filesWholeSpec)) filesWholeUptoCard

/-- THE SECOND FORM's CARD OF 'cooperagelaw5.FilesPlays'. -/
def filesPlaysUptoCard : Claim7 := { stood := { row := filesPlaysUptoRow, standIns := [], harness := (true, "a5b1464211e142a5ccb44d6f1e85cf127c47afe7c6e1dc40431e56aabfe17cfc"), looks := true }, kinds := [], alts := [], laidByText := true, laidKinds := [.data, .pinned], laidTests := true, laidLooks := .later }
def FilesPlaysUptoCardSaid : Prop := Claim7.holds Tryd.pinned (.plain (OpenSpec.upto filesPlaysSpec)) filesPlaysUptoCard
end Rows
end Go.Proofs.YtajiidkmijeidaaDoor
