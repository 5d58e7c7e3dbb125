/-
  DERIVED. GIVEN WITH THE SEED: THE CARDS: each row of YtocpfgdajomjiaaDoorRows.lean that lists a variable, with what it lists TIED to the program's text (the seventh form; the later family's looks); each row that meets fmt, with fmt's text TOLD by the authors' own Lean function (tested against real Go, not proved from fmt's source: count such statements apart). THE CARD IS WHAT COUNTS. Prove the row's statement (the work); the ties are given (YtocpfgdajomjiaaDoorTie.lean); close each card by the builder's one call (the guide's Derived/Test/ToyasCard.lean, 'card_holds'). Laid BY PROGRAM, IN A SANDBOX (cutbox-door.mjs). By AI agents, Wed Nov 11 2026. No macro, syntax, notation, axiom, sorry.
-/
import Derived.Test.YtocpfgdajomjiaaDoorRows
import GoSem.ClaimSeven
namespace Go.Proofs.YtocpfgdajomjiaaDoor
namespace Rows

/-- THE TIED CARD OF 'cooperagelaw1.TextLines'. -/
def textLinesCard : Claim7 := { stood := { row := textLinesRow, standIns := [], harness := (true, "a5caf523629c7d6ac0a5769ee02216c08da343d325dcdf1e735eb7743167cef3"), looks := true }, kinds := [], alts := [], laidByText := true, laidKinds := [.data, .pinned], laidTests := true, laidLooks := .later }
def TextLinesCardSaid : Prop := Claim7.holds Tryd.pinned (.plain (OpenSpec.ofChange textLinesSpec)) textLinesCard

/-- THE TIED CARD OF 'cooperagelaw1.TextPaths'. -/
def textPathsCard : Claim7 := { stood := { row := textPathsRow, standIns := [], harness := (true, "a5caf523629c7d6ac0a5769ee02216c08da343d325dcdf1e735eb7743167cef3"), looks := true }, kinds := [], alts := [], laidByText := true, laidKinds := [.data, .pinned], laidTests := true, laidLooks := .later }
def TextPathsCardSaid : Prop := Claim7.holds Tryd.pinned (.plain (OpenSpec.ofChange textPathsSpec)) textPathsCard

/-- THE TIED CARD OF 'cooperagelaw1.TextSigns'. -/
def textSignsCard : Claim7 := { stood := { row := textSignsRow, standIns := [], harness := (true, "a5caf523629c7d6ac0a5769ee02216c08da343d325dcdf1e735eb7743167cef3"), looks := true }, kinds := [], alts := [], laidByText := true, laidKinds := [.data, .pinned], laidTests := true, laidLooks := .later }
def TextSignsCardSaid : Prop := Claim7.holds Tryd.pinned (.plain (OpenSpec.ofChange textSignsSpec)) textSignsCard

/-- THE TIED CARD OF 'cooperagelaw1.TextCuts'. -/
def textCutsCard : Claim7 := { stood := { row := textCutsRow, standIns := [], harness := (true, "a5caf523629c7d6ac0a5769ee02216c08da343d325dcdf1e735eb7743167cef3"), looks := true }, kinds := [], alts := [], laidByText := true, laidKinds := [.data, .pinned], laidTests := true, laidLooks := .later }
def TextCutsCardSaid : Prop := Claim7.holds Tryd.pinned (.plain (OpenSpec.ofChange textCutsSpec)) textCutsCard

/-- THE TIED CARD OF 'cooperagelaw1.TextWords'. -/
def textWordsCard : Claim7 := { stood := { row := textWordsRow, standIns := [], harness := (true, "a5caf523629c7d6ac0a5769ee02216c08da343d325dcdf1e735eb7743167cef3"), looks := true }, kinds := [], alts := [], laidByText := true, laidKinds := [.data, .pinned], laidTests := true, laidLooks := .later }
def TextWordsCardSaid : Prop := Claim7.holds Tryd.pinned (.plain (OpenSpec.ofChange textWordsSpec)) textWordsCard

/-- THE TIED CARD OF 'cooperagelaw1.TextTells'. -/
def textTellsCard : Claim7 := { stood := { row := textTellsRow, standIns := [], harness := (true, "a5caf523629c7d6ac0a5769ee02216c08da343d325dcdf1e735eb7743167cef3"), looks := true }, kinds := [], alts := [], laidByText := true, laidKinds := [.data, .data, .data, .data, .sentinel, .sentinel, .pinned], laidTests := true, laidLooks := .later }
def TextTellsCardSaid : Prop := Claim7.holds Tryd.pinned (.plain (OpenSpec.ofChange textTellsSpec)) textTellsCard

/-- THE TIED CARD OF 'cooperagelaw1.TextNumbers'. -/
def textNumbersCard : Claim7 := { stood := { row := textNumbersRow, standIns := [], harness := (true, "a5caf523629c7d6ac0a5769ee02216c08da343d325dcdf1e735eb7743167cef3"), looks := true }, kinds := [], alts := [], laidByText := true, laidKinds := [.data, .data, .data, .data, .sentinel, .sentinel, .pinned], laidTests := true, laidLooks := .later }
def TextNumbersCardSaid : Prop := Claim7.holds Tryd.pinned (.plain (OpenSpec.ofChange textNumbersSpec)) textNumbersCard

/-- THE TIED CARD OF 'cooperagelaw1.TextQuotes'. -/
def textQuotesCard : Claim7 := { stood := { row := textQuotesRow, standIns := [], harness := (true, "a5caf523629c7d6ac0a5769ee02216c08da343d325dcdf1e735eb7743167cef3"), looks := true }, kinds := [], alts := [], laidByText := true, laidKinds := [.data, .data, .data, .data, .sentinel, .sentinel, .pinned], laidTests := true, laidLooks := .later }
def TextQuotesCardSaid : Prop := Claim7.holds Tryd.pinned (.plain (OpenSpec.ofChange textQuotesSpec)) textQuotesCard

/-- THE TIED CARD OF 'cooperagelaw1.TextBack'. -/
def textBackCard : Claim7 := { stood := { row := textBackRow, standIns := [], harness := (true, "a5caf523629c7d6ac0a5769ee02216c08da343d325dcdf1e735eb7743167cef3"), looks := true }, kinds := [], alts := [], laidByText := true, laidKinds := [.data, .data, .data, .data, .sentinel, .sentinel, .pinned], laidTests := true, laidLooks := .later }
def TextBackCardSaid : Prop := Claim7.holds Tryd.pinned (.plain (OpenSpec.ofChange textBackSpec)) textBackCard

/-- THE TIED CARD OF 'cooperagelaw4.LinePuts'. -/
def linePutsCard : Claim7 := { stood := { row := linePutsRow, standIns := [], harness := (true, "a5caf523629c7d6ac0a5769ee02216c08da343d325dcdf1e735eb7743167cef3"), looks := true }, kinds := [], alts := [], laidByText := true, laidKinds := [.data, .data, .data, .data, .sentinel, .sentinel, .pinned], laidTests := true, laidLooks := .later }
def LinePutsCardSaid : Prop := Claim7.holds Tryd.pinned (.plain (OpenSpec.ofChange linePutsSpec)) linePutsCard

/-- THE TIED CARD OF 'cooperagelaw4.LineTakes'. -/
def lineTakesCard : Claim7 := { stood := { row := lineTakesRow, standIns := [], harness := (true, "a5caf523629c7d6ac0a5769ee02216c08da343d325dcdf1e735eb7743167cef3"), looks := true }, kinds := [], alts := [], laidByText := true, laidKinds := [.data, .data, .data, .data, .sentinel, .sentinel, .pinned], laidTests := true, laidLooks := .later }
def LineTakesCardSaid : Prop := Claim7.holds Tryd.pinned (.plain (OpenSpec.ofChange lineTakesSpec)) lineTakesCard

/-- THE TIED CARD OF 'cooperagelaw4.LineTorn'. -/
def lineTornCard : Claim7 := { stood := { row := lineTornRow, standIns := [], harness := (true, "a5caf523629c7d6ac0a5769ee02216c08da343d325dcdf1e735eb7743167cef3"), looks := true }, kinds := [], alts := [], laidByText := true, laidKinds := [.data, .data, .data, .data, .sentinel, .sentinel, .pinned], laidTests := true, laidLooks := .later }
def LineTornCardSaid : Prop := Claim7.holds Tryd.pinned (.plain (OpenSpec.ofChange lineTornSpec)) lineTornCard

/-- THE TIED CARD OF 'cooperagelaw4.LineTurns'. -/
def lineTurnsCard : Claim7 := { stood := { row := lineTurnsRow, standIns := [], harness := (true, "a5caf523629c7d6ac0a5769ee02216c08da343d325dcdf1e735eb7743167cef3"), looks := true }, kinds := [], alts := [], laidByText := true, laidKinds := [.data, .data, .data, .data, .sentinel, .sentinel, .pinned], laidTests := true, laidLooks := .later }
def LineTurnsCardSaid : Prop := Claim7.holds Tryd.pinned (.plain (OpenSpec.ofChange lineTurnsSpec)) lineTurnsCard

/-- THE TIED CARD OF 'cooperagelaw4.LineOnce'. -/
def lineOnceCard : Claim7 := { stood := { row := lineOnceRow, standIns := [], harness := (true, "a5caf523629c7d6ac0a5769ee02216c08da343d325dcdf1e735eb7743167cef3"), looks := true }, kinds := [], alts := [], laidByText := true, laidKinds := [.data, .data, .data, .data, .sentinel, .sentinel, .pinned], laidTests := true, laidLooks := .later }
def LineOnceCardSaid : Prop := Claim7.holds Tryd.pinned (.plain (OpenSpec.ofChange lineOnceSpec)) lineOnceCard

/-- THE TIED CARD OF 'cooperagelaw4.LineBounds'. -/
def lineBoundsCard : Claim7 := { stood := { row := lineBoundsRow, standIns := [], harness := (true, "a5caf523629c7d6ac0a5769ee02216c08da343d325dcdf1e735eb7743167cef3"), looks := true }, kinds := [], alts := [], laidByText := true, laidKinds := [.data, .data, .data, .data, .sentinel, .sentinel, .pinned], laidTests := true, laidLooks := .later }
def LineBoundsCardSaid : Prop := Claim7.holds Tryd.pinned (.plain (OpenSpec.ofChange lineBoundsSpec)) lineBoundsCard

/-- THE TIED CARD OF 'cooperagelaw4.LineMany'. -/
def lineManyCard : Claim7 := { stood := { row := lineManyRow, standIns := [], harness := (true, "a5caf523629c7d6ac0a5769ee02216c08da343d325dcdf1e735eb7743167cef3"), looks := true }, kinds := [], alts := [], laidByText := true, laidKinds := [.data, .data, .data, .data, .sentinel, .sentinel, .pinned], laidTests := true, laidLooks := .later }
def LineManyCardSaid : Prop := Claim7.holds Tryd.pinned (.plain (OpenSpec.ofChange lineManySpec)) lineManyCard

/-- THE SECOND FORM's CARD OF 'cooperagelaw1.TextLines'. -/
def textLinesUptoCard : Claim7 := { stood := { row := textLinesUptoRow, standIns := [], harness := (true, "a5caf523629c7d6ac0a5769ee02216c08da343d325dcdf1e735eb7743167cef3"), looks := true }, kinds := [], alts := [], laidByText := true, laidKinds := [.data, .pinned], laidTests := true, laidLooks := .later }
def TextLinesUptoCardSaid : Prop := Claim7.holds Tryd.pinned (.plain (OpenSpec.upto textLinesSpec)) textLinesUptoCard

/-- THE SECOND FORM's CARD OF 'cooperagelaw1.TextPaths'. -/
def textPathsUptoCard : Claim7 := { stood := { row := textPathsUptoRow, standIns := [], harness := (true, "a5caf523629c7d6ac0a5769ee02216c08da343d325dcdf1e735eb7743167cef3"), looks := true }, kinds := [], alts := [], laidByText := true, laidKinds := [.data, .pinned], laidTests := true, laidLooks := .later }
def TextPathsUptoCardSaid : Prop := Claim7.holds Tryd.pinned (.plain (OpenSpec.upto textPathsSpec)) textPathsUptoCard

/-- THE SECOND FORM's CARD OF 'cooperagelaw1.TextSigns'. -/
def textSignsUptoCard : Claim7 := { stood := { row := textSignsUptoRow, standIns := [], harness := (true, "a5caf523629c7d6ac0a5769ee02216c08da343d325dcdf1e735eb7743167cef3"), looks := true }, kinds := [], alts := [], laidByText := true, laidKinds := [.data, .pinned], laidTests := true, laidLooks := .later }
def TextSignsUptoCardSaid : Prop := Claim7.holds Tryd.pinned (.plain (OpenSpec.upto textSignsSpec)) textSignsUptoCard

/-- THE SECOND FORM's CARD OF 'cooperagelaw1.TextCuts'. -/
def textCutsUptoCard : Claim7 := { stood := { row := textCutsUptoRow, standIns := [], harness := (true, "a5caf523629c7d6ac0a5769ee02216c08da343d325dcdf1e735eb7743167cef3"), looks := true }, kinds := [], alts := [], laidByText := true, laidKinds := [.data, .pinned], laidTests := true, laidLooks := .later }
def TextCutsUptoCardSaid : Prop := Claim7.holds Tryd.pinned (.plain (OpenSpec.upto textCutsSpec)) textCutsUptoCard

/-- THE SECOND FORM's CARD OF 'cooperagelaw1.TextWords'. -/
def textWordsUptoCard : Claim7 := { stood := { row := textWordsUptoRow, standIns := [], harness := (true, "a5caf523629c7d6ac0a5769ee02216c08da343d325dcdf1e735eb7743167cef3"), looks := true }, kinds := [], alts := [], laidByText := true, laidKinds := [.data, .pinned], laidTests := true, laidLooks := .later }
def TextWordsUptoCardSaid : Prop := Claim7.holds Tryd.pinned (.plain (OpenSpec.upto textWordsSpec)) textWordsUptoCard

/-- THE SECOND FORM's CARD OF 'cooperagelaw1.TextTells'. -/
def textTellsUptoCard : Claim7 := { stood := { row := textTellsUptoRow, standIns := [], harness := (true, "a5caf523629c7d6ac0a5769ee02216c08da343d325dcdf1e735eb7743167cef3"), looks := true }, kinds := [], alts := [], laidByText := true, laidKinds := [.data, .data, .data, .data, .sentinel, .sentinel, .pinned], laidTests := true, laidLooks := .later }
def TextTellsUptoCardSaid : Prop := Claim7.holds Tryd.pinned (.plain (OpenSpec.upto textTellsSpec)) textTellsUptoCard

/-- THE SECOND FORM's CARD OF 'cooperagelaw1.TextNumbers'. -/
def textNumbersUptoCard : Claim7 := { stood := { row := textNumbersUptoRow, standIns := [], harness := (true, "a5caf523629c7d6ac0a5769ee02216c08da343d325dcdf1e735eb7743167cef3"), looks := true }, kinds := [], alts := [], laidByText := true, laidKinds := [.data, .data, .data, .data, .sentinel, .sentinel, .pinned], laidTests := true, laidLooks := .later }
def TextNumbersUptoCardSaid : Prop := Claim7.holds Tryd.pinned (.plain (OpenSpec.upto textNumbersSpec)) textNumbersUptoCard

/-- THE SECOND FORM's CARD OF 'cooperagelaw1.TextQuotes'. -/
def textQuotesUptoCard : Claim7 := { stood := { row := textQuotesUptoRow, standIns := [], harness := (true, "a5caf523629c7d6ac0a5769ee02216c08da343d325dcdf1e735eb7743167cef3"), looks := true }, kinds := [], alts := [], laidByText := true, laidKinds := [.data, .data, .data, .data, .sentinel, .sentinel, .pinned], laidTests := true, laidLooks := .later }
def TextQuotesUptoCardSaid : Prop := Claim7.holds Tryd.pinned (.plain (OpenSpec.upto textQuotesSpec)) textQuotesUptoCard

/-- THE SECOND FORM's CARD OF 'cooperagelaw1.TextBack'. -/
def textBackUptoCard : Claim7 := { stood := { row := textBackUptoRow, standIns := [], harness := (true, "a5caf523629c7d6ac0a5769ee02216c08da343d325dcdf1e735eb7743167cef3"), looks := true }, kinds := [], alts := [], laidByText := true, laidKinds := [.data, .data, .data, .data, .sentinel, .sentinel, .pinned], laidTests := true, laidLooks := .later }
def TextBackUptoCardSaid : Prop := Claim7.holds Tryd.pinned (.plain (OpenSpec.upto textBackSpec)) textBackUptoCard

/-- THE SECOND FORM's CARD OF 'cooperagelaw4.LinePuts'. -/
def linePutsUptoCard : Claim7 := { stood := { row := linePutsUptoRow, standIns := [], harness := (true, "a5caf523629c7d6ac0a5769ee02216c08da343d325dcdf1e735eb7743167cef3"), looks := true }, kinds := [], alts := [], laidByText := true, laidKinds := [.data, .data, .data, .data, .sentinel, .sentinel, .pinned], laidTests := true, laidLooks := .later }
def LinePutsUptoCardSaid : Prop := Claim7.holds Tryd.pinned (.plain (OpenSpec.upto linePutsSpec)) linePutsUptoCard

/-- THE SECOND FORM's CARD OF 'cooperagelaw4.LineTakes'. -/
def lineTakesUptoCard : Claim7 := { stood := { row := lineTakesUptoRow, standIns := [], harness := (true, "a5caf523629c7d6ac0a5769ee02216c08da343d325dcdf1e735eb7743167cef3"), looks := true }, kinds := [], alts := [], laidByText := true, laidKinds := [.data, .data, .data, .data, .sentinel, .sentinel, .pinned], laidTests := true, laidLooks := .later }
def LineTakesUptoCardSaid : Prop := Claim7.holds Tryd.pinned (.plain (OpenSpec.upto lineTakesSpec)) lineTakesUptoCard

/-- THE SECOND FORM's CARD OF 'cooperagelaw4.LineTorn'. -/
def lineTornUptoCard : Claim7 := { stood := { row := lineTornUptoRow, standIns := [], harness := (true, "a5caf523629c7d6ac0a5769ee02216c08da343d325dcdf1e735eb7743167cef3"), looks := true }, kinds := [], alts := [], laidByText := true, laidKinds := [.data, .data, .data, .data, .sentinel, .sentinel, .pinned], laidTests := true, laidLooks := .later }
def LineTornUptoCardSaid : Prop := Claim7.holds Tryd.pinned (.plain (OpenSpec.upto lineTornSpec)) lineTornUptoCard

/-- THE SECOND FORM's CARD OF 'cooperagelaw4.LineTurns'. -/
def lineTurnsUptoCard : Claim7 := { stood := { row := lineTurnsUptoRow, standIns := [], harness := (true, "a5caf523629c7d6ac0a5769ee02216c08da343d325dcdf1e735eb7743167cef3"), looks := true }, kinds := [], alts := [], laidByText := true, laidKinds := [.data, .data, .data, .data, .sentinel, .sentinel, .pinned], laidTests := true, laidLooks := .later }
def LineTurnsUptoCardSaid : Prop := Claim7.holds Tryd.pinned (.plain (OpenSpec.upto lineTurnsSpec)) lineTurnsUptoCard

/-- THE SECOND FORM's CARD OF 'cooperagelaw4.LineOnce'. -/
def lineOnceUptoCard : Claim7 := { stood := { row := lineOnceUptoRow, standIns := [], harness := (true, "a5caf523629c7d6ac0a5769ee02216c08da343d325dcdf1e735eb7743167cef3"), looks := true }, kinds := [], alts := [], laidByText := true, laidKinds := [.data, .data, .data, .data, .sentinel, .sentinel, .pinned], laidTests := true, laidLooks := .later }
def LineOnceUptoCardSaid : Prop := Claim7.holds Tryd.pinned (.plain (OpenSpec.upto lineOnceSpec)) lineOnceUptoCard

/-- THE SECOND FORM's CARD OF 'cooperagelaw4.LineBounds'. -/
def lineBoundsUptoCard : Claim7 := { stood := { row := lineBoundsUptoRow, standIns := [], harness := (true, "a5caf523629c7d6ac0a5769ee02216c08da343d325dcdf1e735eb7743167cef3"), looks := true }, kinds := [], alts := [], laidByText := true, laidKinds := [.data, .data, .data, .data, .sentinel, .sentinel, .pinned], laidTests := true, laidLooks := .later }
def LineBoundsUptoCardSaid : Prop := Claim7.holds Tryd.pinned (.plain (OpenSpec.upto lineBoundsSpec)) lineBoundsUptoCard

/-- THE SECOND FORM's CARD OF 'cooperagelaw4.LineMany'. -/
def lineManyUptoCard : Claim7 := { stood := { row := lineManyUptoRow, standIns := [], harness := (true, "a5caf523629c7d6ac0a5769ee02216c08da343d325dcdf1e735eb7743167cef3"), looks := true }, kinds := [], alts := [], laidByText := true, laidKinds := [.data, .data, .data, .data, .sentinel, .sentinel, .pinned], laidTests := true, laidLooks := .later }
def LineManyUptoCardSaid : Prop := Claim7.holds Tryd.pinned (.plain (OpenSpec.upto lineManySpec)) lineManyUptoCard
end Rows
end Go.Proofs.YtocpfgdajomjiaaDoor
