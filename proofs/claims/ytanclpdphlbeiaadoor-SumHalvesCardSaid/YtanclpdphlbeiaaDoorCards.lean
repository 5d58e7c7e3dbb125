/-
  DERIVED. GIVEN WITH THE SEED: THE CARDS: each row of YtanclpdphlbeiaaDoorRows.lean that lists a variable, with what it lists TIED to the program's text (the seventh form; the later family's looks); each row that meets fmt, with fmt's text TOLD by the authors' own Lean function (tested against real Go, not proved from fmt's source: count such statements apart). THE CARD IS WHAT COUNTS. Prove the row's statement (the work); the ties are given (YtanclpdphlbeiaaDoorTie.lean); close each card by the builder's one call (the guide's Derived/Test/ToyasCard.lean, 'card_holds'). Laid BY PROGRAM, IN A SANDBOX (cutbox-door.mjs). By AI agents, Wed Nov 11 2026. No macro, syntax, notation, axiom, sorry.
-/
import Derived.Test.YtanclpdphlbeiaaDoorRows
import GoSem.ClaimSeven
namespace Go.Proofs.YtanclpdphlbeiaaDoor
namespace Rows

/-- THE TIED CARD OF 'cooperagelaw3.SumAdds'. -/
def sumAddsCard : Claim7 := { stood := { row := sumAddsRow, standIns := [], harness := (true, "91c0585933e0fd670ea72a2447d915ffe241667824cd974d452a6b688cabe5c6"), looks := false }, kinds := [], alts := [], laidByText := true, laidKinds := [.data, .data, .data], laidTests := true, laidLooks := .later }
def SumAddsCardSaid : Prop := Claim7.holds Tryd.pinned (.plain (OpenSpec.ofChange sumAddsSpec)) sumAddsCard

/-- THE TIED CARD OF 'cooperagelaw3.SumJoins'. -/
def sumJoinsCard : Claim7 := { stood := { row := sumJoinsRow, standIns := [], harness := (true, "91c0585933e0fd670ea72a2447d915ffe241667824cd974d452a6b688cabe5c6"), looks := false }, kinds := [], alts := [], laidByText := true, laidKinds := [.data, .data, .data], laidTests := true, laidLooks := .later }
def SumJoinsCardSaid : Prop := Claim7.holds Tryd.pinned (.plain (OpenSpec.ofChange sumJoinsSpec)) sumJoinsCard

/-- THE TIED CARD OF 'cooperagelaw3.SumFinds'. -/
def sumFindsCard : Claim7 := { stood := { row := sumFindsRow, standIns := [], harness := (true, "91c0585933e0fd670ea72a2447d915ffe241667824cd974d452a6b688cabe5c6"), looks := false }, kinds := [], alts := [], laidByText := true, laidKinds := [.data, .data, .data], laidTests := true, laidLooks := .later }
def SumFindsCardSaid : Prop := Claim7.holds Tryd.pinned (.plain (OpenSpec.ofChange sumFindsSpec)) sumFindsCard

/-- THE TIED CARD OF 'cooperagelaw3.SumHalves'. -/
def sumHalvesCard : Claim7 := { stood := { row := sumHalvesRow, standIns := [], harness := (true, "91c0585933e0fd670ea72a2447d915ffe241667824cd974d452a6b688cabe5c6"), looks := false }, kinds := [], alts := [], laidByText := true, laidKinds := [.data, .data, .data], laidTests := true, laidLooks := .later }
def SumHalvesCardSaid : Prop := Claim7.holds Tryd.pinned (.plain (OpenSpec.ofChange sumHalvesSpec)) sumHalvesCard

/-- THE TIED CARD OF 'cooperagelaw3.SumDigits'. -/
def sumDigitsCard : Claim7 := { stood := { row := sumDigitsRow, standIns := [], harness := (true, "91c0585933e0fd670ea72a2447d915ffe241667824cd974d452a6b688cabe5c6"), looks := false }, kinds := [], alts := [], laidByText := true, laidKinds := [.data, .data, .data], laidTests := true, laidLooks := .later }
def SumDigitsCardSaid : Prop := Claim7.holds Tryd.pinned (.plain (OpenSpec.ofChange sumDigitsSpec)) sumDigitsCard

/-- THE SECOND FORM's CARD OF 'cooperagelaw3.SumAdds'. -/
def sumAddsUptoCard : Claim7 := { stood := { row := sumAddsUptoRow, standIns := [], harness := (true, "91c0585933e0fd670ea72a2447d915ffe241667824cd974d452a6b688cabe5c6"), looks := false }, kinds := [], alts := [], laidByText := true, laidKinds := [.data, .data, .data], laidTests := true, laidLooks := .later }
def SumAddsUptoCardSaid : Prop := Claim7.holds Tryd.pinned (.plain (OpenSpec.upto sumAddsSpec)) sumAddsUptoCard

/-- THE SECOND FORM's CARD OF 'cooperagelaw3.SumJoins'. -/
def sumJoinsUptoCard : Claim7 := { stood := { row := sumJoinsUptoRow, standIns := [], harness := (true, "91c0585933e0fd670ea72a2447d915ffe241667824cd974d452a6b688cabe5c6"), looks := false }, kinds := [], alts := [], laidByText := true, laidKinds := [.data, .data, .data], laidTests := true, laidLooks := .later }
def SumJoinsUptoCardSaid : Prop := Claim7.holds Tryd.pinned (.plain (OpenSpec.upto sumJoinsSpec)) sumJoinsUptoCard

/-- THE SECOND FORM's CARD OF 'cooperagelaw3.SumFinds'. -/
def sumFindsUptoCard : Claim7 := { stood := { row := sumFindsUptoRow, standIns := [], harness := (true, "91c0585933e0fd670ea72a2447d915ffe241667824cd974d452a6b688cabe5c6"), looks := false }, kinds := [], alts := [], laidByText := true, laidKinds := [.data, .data, .data], laidTests := true, laidLooks := .later }
def SumFindsUptoCardSaid : Prop := Claim7.holds Tryd.pinned (.plain (OpenSpec.upto sumFindsSpec)) sumFindsUptoCard

/-- THE SECOND FORM's CARD OF 'cooperagelaw3.SumHalves'. -/
def sumHalvesUptoCard : Claim7 := { stood := { row := sumHalvesUptoRow, standIns := [], harness := (true, "91c0585933e0fd670ea72a2447d915ffe241667824cd974d452a6b688cabe5c6"), looks := false }, kinds := [], alts := [], laidByText := true, laidKinds := [.data, .data, .data], laidTests := true, laidLooks := .later }
def SumHalvesUptoCardSaid : Prop := Claim7.holds Tryd.pinned (.plain (OpenSpec.upto sumHalvesSpec)) sumHalvesUptoCard

/-- THE SECOND FORM's CARD OF 'cooperagelaw3.SumDigits'. -/
def sumDigitsUptoCard : Claim7 := { stood := { row := sumDigitsUptoRow, standIns := [], harness := (true, "91c0585933e0fd670ea72a2447d915ffe241667824cd974d452a6b688cabe5c6"), looks := false }, kinds := [], alts := [], laidByText := true, laidKinds := [.data, .data, .data], laidTests := true, laidLooks := .later }
def SumDigitsUptoCardSaid : Prop := Claim7.holds Tryd.pinned (.plain (OpenSpec.upto sumDigitsSpec)) sumDigitsUptoCard
end Rows
end Go.Proofs.YtanclpdphlbeiaaDoor
