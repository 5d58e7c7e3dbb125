/-
  DERIVED. GIVEN WITH THE SEED: THE CARDS: each row of YtnjjnfbkilgidaaDoorRows.lean that lists a variable, with what it lists TIED to the program's text (the seventh form; the later family's looks); each row that meets fmt, with fmt's text TOLD by the authors' own Lean function (tested against real Go, not proved from fmt's source: count such statements apart). THE CARD IS WHAT COUNTS. Prove the row's statement (the work); the ties are given (YtnjjnfbkilgidaaDoorTie.lean); close each card by the builder's one call (the guide's Derived/Test/ToyasCard.lean, 'card_holds'). Laid BY PROGRAM, IN A SANDBOX (cutbox-door.mjs). By AI agents, Wed Nov 11 2026. No macro, syntax, notation, axiom, sorry.
-/
import Derived.Test.YtnjjnfbkilgidaaDoorRows
import GoSem.ClaimSeven
namespace Go.Proofs.YtnjjnfbkilgidaaDoor
namespace Rows

/-- THE TIED CARD OF 'cooperagelaw15.RecipeOnly'. -/
def recipeOnlyCard : Claim7 := { stood := { row := recipeOnlyRow, standIns := [], harness := (true, "93977c5df8a345e35c9611c0046806db89f8cc56eb16e913360669e34314284d"), looks := false }, kinds := [], alts := [], laidByText := true, laidKinds := [.data, .pinned], laidTests := true, laidLooks := .later }
def RecipeOnlyCardSaid : Prop := Claim7.holds Tryd.pinned (.plain (OpenSpec.ofChange recipeOnlySpec)) recipeOnlyCard

/-- THE TIED CARD OF 'cooperagelaw15.RecipeTurns'. -/
def recipeTurnsCard : Claim7 := { stood := { row := recipeTurnsRow, standIns := [], harness := (true, "93977c5df8a345e35c9611c0046806db89f8cc56eb16e913360669e34314284d"), looks := false }, kinds := [], alts := [], laidByText := true, laidKinds := [.data, .pinned], laidTests := true, laidLooks := .later }
def RecipeTurnsCardSaid : Prop := Claim7.holds Tryd.pinned (.plain (OpenSpec.ofChange recipeTurnsSpec)) recipeTurnsCard

/-- THE TIED CARD OF 'cooperagelaw15.RecipeFails'. -/
def recipeFailsCard : Claim7 := { stood := { row := recipeFailsRow, standIns := [], harness := (true, "93977c5df8a345e35c9611c0046806db89f8cc56eb16e913360669e34314284d"), looks := false }, kinds := [], alts := [], laidByText := true, laidKinds := [.data, .pinned], laidTests := true, laidLooks := .later }
def RecipeFailsCardSaid : Prop := Claim7.holds Tryd.pinned (.plain (OpenSpec.ofChange recipeFailsSpec)) recipeFailsCard

/-- THE TIED CARD OF 'cooperagelaw15.RecipeSays'. -/
def recipeSaysCard : Claim7 := { stood := { row := recipeSaysRow, standIns := [], harness := (true, "93977c5df8a345e35c9611c0046806db89f8cc56eb16e913360669e34314284d"), looks := false }, kinds := [], alts := [], laidByText := true, laidKinds := [.data, .pinned], laidTests := true, laidLooks := .later }
def RecipeSaysCardSaid : Prop := Claim7.holds Tryd.pinned (.plain (OpenSpec.ofChange recipeSaysSpec)) recipeSaysCard

/-- THE TIED CARD OF 'cooperagelaw15.RecipeBench'. -/
def recipeBenchCard : Claim7 := { stood := { row := recipeBenchRow, standIns := [], harness := (true, "93977c5df8a345e35c9611c0046806db89f8cc56eb16e913360669e34314284d"), looks := false }, kinds := [], alts := [], laidByText := true, laidKinds := [.data, .pinned], laidTests := true, laidLooks := .later }
def RecipeBenchCardSaid : Prop := Claim7.holds Tryd.pinned (.plain (OpenSpec.ofChange recipeBenchSpec)) recipeBenchCard

/-- THE SECOND FORM's CARD OF 'cooperagelaw15.RecipeOnly'. -/
def recipeOnlyUptoCard : Claim7 := { stood := { row := recipeOnlyUptoRow, standIns := [], harness := (true, "93977c5df8a345e35c9611c0046806db89f8cc56eb16e913360669e34314284d"), looks := false }, kinds := [], alts := [], laidByText := true, laidKinds := [.data, .pinned], laidTests := true, laidLooks := .later }
def RecipeOnlyUptoCardSaid : Prop := Claim7.holds Tryd.pinned (.plain (OpenSpec.upto recipeOnlySpec)) recipeOnlyUptoCard

/-- THE SECOND FORM's CARD OF 'cooperagelaw15.RecipeTurns'. -/
def recipeTurnsUptoCard : Claim7 := { stood := { row := recipeTurnsUptoRow, standIns := [], harness := (true, "93977c5df8a345e35c9611c0046806db89f8cc56eb16e913360669e34314284d"), looks := false }, kinds := [], alts := [], laidByText := true, laidKinds := [.data, .pinned], laidTests := true, laidLooks := .later }
def RecipeTurnsUptoCardSaid : Prop := Claim7.holds Tryd.pinned (.plain (OpenSpec.upto recipeTurnsSpec)) recipeTurnsUptoCard

/-- THE SECOND FORM's CARD OF 'cooperagelaw15.RecipeFails'. -/
def recipeFailsUptoCard : Claim7 := { stood := { row := recipeFailsUptoRow, standIns := [], harness := (true, "93977c5df8a345e35c9611c0046806db89f8cc56eb16e913360669e34314284d"), looks := false }, kinds := [], alts := [], laidByText := true, laidKinds := [.data, .pinned], laidTests := true, laidLooks := .later }
def RecipeFailsUptoCardSaid : Prop := Claim7.holds Tryd.pinned (.plain (OpenSpec.upto recipeFailsSpec)) recipeFailsUptoCard

/-- THE SECOND FORM's CARD OF 'cooperagelaw15.RecipeSays'. -/
def recipeSaysUptoCard : Claim7 := { stood := { row := recipeSaysUptoRow, standIns := [], harness := (true, "93977c5df8a345e35c9611c0046806db89f8cc56eb16e913360669e34314284d"), looks := false }, kinds := [], alts := [], laidByText := true, laidKinds := [.data, .pinned], laidTests := true, laidLooks := .later }
def RecipeSaysUptoCardSaid : Prop := Claim7.holds Tryd.pinned (.plain (OpenSpec.upto recipeSaysSpec)) recipeSaysUptoCard

/-- THE SECOND FORM's CARD OF 'cooperagelaw15.RecipeBench'. -/
def recipeBenchUptoCard : Claim7 := { stood := { row := recipeBenchUptoRow, standIns := [], harness := (true, "93977c5df8a345e35c9611c0046806db89f8cc56eb16e913360669e34314284d"), looks := false }, kinds := [], alts := [], laidByText := true, laidKinds := [.data, .pinned], laidTests := true, laidLooks := .later }
def RecipeBenchUptoCardSaid : Prop := Claim7.holds Tryd.pinned (.plain (OpenSpec.upto recipeBenchSpec)) recipeBenchUptoCard
end Rows
end Go.Proofs.YtnjjnfbkilgidaaDoor
