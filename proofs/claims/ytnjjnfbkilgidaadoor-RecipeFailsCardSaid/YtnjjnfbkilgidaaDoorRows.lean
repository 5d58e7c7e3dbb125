/-
  NARROWER THAN 'FOR EVERY INPUT', by the rows' own cells (each row's printed sentence says how): RecipeOnly: laid · RecipeTurns: laid · RecipeFails: laid · RecipeSays: laid · RecipeBench: laid.
  DERIVED. THE GIVEN ROWS OF THIS SEAT. 5 by the template 'for every input the law returns true; each argument reads behind the call as it read before'; 0 by the template 'total and deterministic' (their statements: YtnjjnfbkilgidaaDoorTotals.lean).
  GIVEN WITH THE SEED: the statements are not yours to turn. If you find one false, say at which input.
  Laid BY PROGRAM, IN A SANDBOX (cutbox-rows.mjs): the forced cells as the released guide's own fill.sh prints them over the translation a51c8e3e14dcfedd… (all of the seat's roots in one cut). By AI agents, Wed Nov 11 2026. No macro, syntax, notation, axiom, sorry.
-/
import Derived.Test.YtnjjnfbkilgidaaDoorChecked
import GoSem.PinnedTables
import GoSem.Claim
import GoSem.ClaimJoined
import GoSem.ClaimMapViews
import Derived.JoinedTies
import Derived.KernelRfl
namespace Go.Proofs.YtnjjnfbkilgidaaDoor
/- THE CELL 'sum', in the pinned program and in every row, IS THE sha256 OF THE DUMP (.gsa) THAT YtnjjnfbkilgidaaDoorProg.lean LOADS. Nothing in Lean hashes anything: it is a label: what it is worth is what the hold of that sum in a sandbox is worth. -/
noncomputable def Tryd.pinned : Pinned := { name := "ytnjjnfbkilgidaadoor", sum := "a51c8e3e14dcfedd5f87c34d75d1ec5ebd0ef28385f283a4401fa342c41815fe", checked := Tryd.checked }
namespace Rows
def none {H : Type} : Left H := { results := [], args := [] }

/- WHAT THE LISTED PACKAGE-LEVEL VARIABLES READ AS WHEN THE CALL BEGINS. Each datum BY PROGRAM (the guide's laid-datum.mjs) off the statement by which the dump's own 'gosem.cut.vars' lays the variable. In a bare row this is a premise. The card (YtnjjnfbkilgidaaDoorCards.lean) ties it to the program's text. -/
def laid_unicode_utf8_acceptRanges {H : Type} : DataW H := .agg [.agg [.lit (.int .u8 128), .lit (.int .u8 191)], .agg [.lit (.int .u8 160), .lit (.int .u8 191)], .agg [.lit (.int .u8 128), .lit (.int .u8 159)], .agg [.lit (.int .u8 144), .lit (.int .u8 191)], .agg [.lit (.int .u8 128), .lit (.int .u8 143)], .agg [.lit (.int .u8 0), .lit (.int .u8 0)], .agg [.lit (.int .u8 0), .lit (.int .u8 0)], .agg [.lit (.int .u8 0), .lit (.int .u8 0)], .agg [.lit (.int .u8 0), .lit (.int .u8 0)], .agg [.lit (.int .u8 0), .lit (.int .u8 0)], .agg [.lit (.int .u8 0), .lit (.int .u8 0)], .agg [.lit (.int .u8 0), .lit (.int .u8 0)], .agg [.lit (.int .u8 0), .lit (.int .u8 0)], .agg [.lit (.int .u8 0), .lit (.int .u8 0)], .agg [.lit (.int .u8 0), .lit (.int .u8 0)], .agg [.lit (.int .u8 0), .lit (.int .u8 0)]]
/-- One of Go's own tables, pinned by name: the form's constant. -/
def laid_unicode_utf8_first : DataW Unit := Go.Pinned.utf8First

/-- 'cooperagelaw15.RecipeOnly': WHATEVER THE INPUT: true; the input reads as it did. -/
def recipeOnlySpec : ChangeSpec := { name := "recipeOnly", fn := fun _ => fun
  | [d1, d2, d3, d4] => { results := [.lit (.bool true)], args := [d1, d2, d3, d4] }
  | _ => none }
def recipeOnlyRow : OpenClaim := { program := "ytnjjnfbkilgidaadoor", sum := "a51c8e3e14dcfedd5f87c34d75d1ec5ebd0ef28385f283a4401fa342c41815fe", func := "cooperage/cooperagelaw15.RecipeOnly", spec := "recipeOnly", inPlace := ["internal/bytealg.IndexByteString", "internal/bytealg.IndexString", "internal/bytealg.CountString", "internal/abi.NoEscape", "internal/bytealg.MakeNoZero"], unfollowed := true, recurses := true, named := ["unicode/utf8.first", "unicode/utf8.acceptRanges", "internal/bytealg.MaxLen"], apart := false, laid := [("unicode/utf8.acceptRanges", laid_unicode_utf8_acceptRanges), ("unicode/utf8.first", laid_unicode_utf8_first)] }
def RecipeOnlySaid : Prop := recipeOnlyRow.holds Tryd.pinned (OpenSpec.ofChange recipeOnlySpec)

/-- ITS FALSE NEIGHBOUR: 'it returns false'. Refute it at one input. -/
def recipeOnlyWrong : ChangeSpec := { name := "recipeOnly", fn := fun _ => fun
  | [d1, d2, d3, d4] => { results := [.lit (.bool false)], args := [d1, d2, d3, d4] }
  | _ => none }
def RecipeOnlyWrongFalsely : Prop := recipeOnlyRow.holds Tryd.pinned (OpenSpec.ofChange recipeOnlyWrong)

/-- 'cooperagelaw15.RecipeTurns': WHATEVER THE INPUT: true; the input reads as it did. -/
def recipeTurnsSpec : ChangeSpec := { name := "recipeTurns", fn := fun _ => fun
  | [d] => { results := [.lit (.bool true)], args := [d] }
  | _ => none }
def recipeTurnsRow : OpenClaim := { program := "ytnjjnfbkilgidaadoor", sum := "a51c8e3e14dcfedd5f87c34d75d1ec5ebd0ef28385f283a4401fa342c41815fe", func := "cooperage/cooperagelaw15.RecipeTurns", spec := "recipeTurns", inPlace := ["internal/bytealg.IndexByteString", "internal/bytealg.IndexString", "internal/bytealg.CountString", "internal/abi.NoEscape", "internal/bytealg.MakeNoZero"], unfollowed := true, recurses := true, named := ["unicode/utf8.first", "unicode/utf8.acceptRanges", "internal/bytealg.MaxLen"], apart := false, laid := [("unicode/utf8.acceptRanges", laid_unicode_utf8_acceptRanges), ("unicode/utf8.first", laid_unicode_utf8_first)] }
def RecipeTurnsSaid : Prop := recipeTurnsRow.holds Tryd.pinned (OpenSpec.ofChange recipeTurnsSpec)

/-- ITS FALSE NEIGHBOUR: 'it returns false'. Refute it at one input. -/
def recipeTurnsWrong : ChangeSpec := { name := "recipeTurns", fn := fun _ => fun
  | [d] => { results := [.lit (.bool false)], args := [d] }
  | _ => none }
def RecipeTurnsWrongFalsely : Prop := recipeTurnsRow.holds Tryd.pinned (OpenSpec.ofChange recipeTurnsWrong)

/-- 'cooperagelaw15.RecipeFails': WHATEVER THE INPUT: true; the input reads as it did. -/
def recipeFailsSpec : ChangeSpec := { name := "recipeFails", fn := fun _ => fun
  | [d1, d2] => { results := [.lit (.bool true)], args := [d1, d2] }
  | _ => none }
def recipeFailsRow : OpenClaim := { program := "ytnjjnfbkilgidaadoor", sum := "a51c8e3e14dcfedd5f87c34d75d1ec5ebd0ef28385f283a4401fa342c41815fe", func := "cooperage/cooperagelaw15.RecipeFails", spec := "recipeFails", inPlace := ["internal/bytealg.IndexByteString", "internal/bytealg.IndexString", "internal/bytealg.CountString", "internal/abi.NoEscape", "internal/bytealg.MakeNoZero"], unfollowed := true, recurses := true, named := ["unicode/utf8.first", "unicode/utf8.acceptRanges", "internal/bytealg.MaxLen"], apart := false, laid := [("unicode/utf8.acceptRanges", laid_unicode_utf8_acceptRanges), ("unicode/utf8.first", laid_unicode_utf8_first)] }
def RecipeFailsSaid : Prop := recipeFailsRow.holds Tryd.pinned (OpenSpec.ofChange recipeFailsSpec)

/-- ITS FALSE NEIGHBOUR: 'it returns false'. Refute it at one input. -/
def recipeFailsWrong : ChangeSpec := { name := "recipeFails", fn := fun _ => fun
  | [d1, d2] => { results := [.lit (.bool false)], args := [d1, d2] }
  | _ => none }
def RecipeFailsWrongFalsely : Prop := recipeFailsRow.holds Tryd.pinned (OpenSpec.ofChange recipeFailsWrong)

/-- 'cooperagelaw15.RecipeSays': WHATEVER THE INPUT: true; the input reads as it did. -/
def recipeSaysSpec : ChangeSpec := { name := "recipeSays", fn := fun _ => fun
  | [d] => { results := [.lit (.bool true)], args := [d] }
  | _ => none }
def recipeSaysRow : OpenClaim := { program := "ytnjjnfbkilgidaadoor", sum := "a51c8e3e14dcfedd5f87c34d75d1ec5ebd0ef28385f283a4401fa342c41815fe", func := "cooperage/cooperagelaw15.RecipeSays", spec := "recipeSays", inPlace := ["internal/bytealg.IndexByteString", "internal/bytealg.IndexString", "internal/bytealg.CountString", "internal/abi.NoEscape", "internal/bytealg.MakeNoZero"], unfollowed := true, recurses := true, named := ["unicode/utf8.first", "unicode/utf8.acceptRanges", "internal/bytealg.MaxLen"], apart := false, laid := [("unicode/utf8.acceptRanges", laid_unicode_utf8_acceptRanges), ("unicode/utf8.first", laid_unicode_utf8_first)] }
def RecipeSaysSaid : Prop := recipeSaysRow.holds Tryd.pinned (OpenSpec.ofChange recipeSaysSpec)

/-- ITS FALSE NEIGHBOUR: 'it returns false'. Refute it at one input. -/
def recipeSaysWrong : ChangeSpec := { name := "recipeSays", fn := fun _ => fun
  | [d] => { results := [.lit (.bool false)], args := [d] }
  | _ => none }
def RecipeSaysWrongFalsely : Prop := recipeSaysRow.holds Tryd.pinned (OpenSpec.ofChange recipeSaysWrong)

/-- 'cooperagelaw15.RecipeBench': WHATEVER THE INPUT: true; the input reads as it did. -/
def recipeBenchSpec : ChangeSpec := { name := "recipeBench", fn := fun _ => fun
  | [d1, d2, d3] => { results := [.lit (.bool true)], args := [d1, d2, d3] }
  | _ => none }
def recipeBenchRow : OpenClaim := { program := "ytnjjnfbkilgidaadoor", sum := "a51c8e3e14dcfedd5f87c34d75d1ec5ebd0ef28385f283a4401fa342c41815fe", func := "cooperage/cooperagelaw15.RecipeBench", spec := "recipeBench", inPlace := ["internal/bytealg.IndexByteString", "internal/bytealg.IndexString", "internal/bytealg.CountString", "internal/abi.NoEscape", "internal/bytealg.MakeNoZero"], unfollowed := true, recurses := true, named := ["unicode/utf8.first", "unicode/utf8.acceptRanges", "internal/bytealg.MaxLen"], apart := false, laid := [("unicode/utf8.acceptRanges", laid_unicode_utf8_acceptRanges), ("unicode/utf8.first", laid_unicode_utf8_first)] }
def RecipeBenchSaid : Prop := recipeBenchRow.holds Tryd.pinned (OpenSpec.ofChange recipeBenchSpec)

/-- ITS FALSE NEIGHBOUR: 'it returns false'. Refute it at one input. -/
def recipeBenchWrong : ChangeSpec := { name := "recipeBench", fn := fun _ => fun
  | [d1, d2, d3] => { results := [.lit (.bool false)], args := [d1, d2, d3] }
  | _ => none }
def RecipeBenchWrongFalsely : Prop := recipeBenchRow.holds Tryd.pinned (OpenSpec.ofChange recipeBenchWrong)

/- THE SECOND FORM. 'bulk': how many values and letters a reading holds, each counted each time it is reached (what is shared counts as often as it is met; a slice's spare places count too). A statement '..UptoSaid' is the law's where the arguments, and the package variables that the reading takes, are together of bulk at most 1048576: NARROWER than '..Said'. Prove '..Said' where nothing that the law and all that it calls make is longer than what came in: it says more and counts as full. Else prove '..UptoSaid'. A law counts once. -/
mutual
def uptoBulk {H : Type} : DataW H → Nat
  | .lit (.string bytes) => bytes.length + 1
  | .lit _ => 1
  | .nil => 1
  | .ptr d => uptoBulk d + 1
  | .slice elems spare => uptoBulkAll elems + uptoBulkAll spare + 1
  | .agg parts => uptoBulkAll parts + 1
  | .iface _ d => uptoBulk d + 1
  | .map entries => uptoBulkEntries entries + 1
  | .held _ => 1
def uptoBulkAll {H : Type} : List (DataW H) → Nat
  | [] => 0
  | d :: r => uptoBulk d + uptoBulkAll r
def uptoBulkEntries {H : Type} : List (Lit × DataW H) → Nat
  | [] => 0
  | x :: r => uptoBulkEntry x + uptoBulkEntries r
def uptoBulkEntry {H : Type} : Lit × DataW H → Nat
  | (.string bytes, d) => bytes.length + uptoBulk d + 1
  | (_, d) => uptoBulk d + 1
 end
def uptoSmall : (H : Type) → List (DataW H) → Bool := fun _ ds => decide (uptoBulkAll ds ≤ 1048576)
def OpenSpec.upto (s : _root_.Go.ChangeSpec) : _root_.Go.OpenSpec := { _root_.Go.OpenSpec.ofChange s with cond := some uptoSmall }

/-- 'cooperagelaw15.RecipeOnly', WHERE WHAT IT READS IS OF BULK AT MOST 1048576: true; the input reads as it did. -/
def recipeOnlyUptoRow : OpenClaim := { program := "ytnjjnfbkilgidaadoor", sum := "a51c8e3e14dcfedd5f87c34d75d1ec5ebd0ef28385f283a4401fa342c41815fe", func := "cooperage/cooperagelaw15.RecipeOnly", spec := "recipeOnly", inPlace := ["internal/bytealg.IndexByteString", "internal/bytealg.IndexString", "internal/bytealg.CountString", "internal/abi.NoEscape", "internal/bytealg.MakeNoZero"], unfollowed := true, recurses := true, named := ["unicode/utf8.first", "unicode/utf8.acceptRanges", "internal/bytealg.MaxLen"], apart := false, laid := [("unicode/utf8.acceptRanges", laid_unicode_utf8_acceptRanges), ("unicode/utf8.first", laid_unicode_utf8_first)], narrowed := true }
def RecipeOnlyUptoSaid : Prop := recipeOnlyUptoRow.holds Tryd.pinned (OpenSpec.upto recipeOnlySpec)

/-- 'cooperagelaw15.RecipeTurns', WHERE WHAT IT READS IS OF BULK AT MOST 1048576: true; the input reads as it did. -/
def recipeTurnsUptoRow : OpenClaim := { program := "ytnjjnfbkilgidaadoor", sum := "a51c8e3e14dcfedd5f87c34d75d1ec5ebd0ef28385f283a4401fa342c41815fe", func := "cooperage/cooperagelaw15.RecipeTurns", spec := "recipeTurns", inPlace := ["internal/bytealg.IndexByteString", "internal/bytealg.IndexString", "internal/bytealg.CountString", "internal/abi.NoEscape", "internal/bytealg.MakeNoZero"], unfollowed := true, recurses := true, named := ["unicode/utf8.first", "unicode/utf8.acceptRanges", "internal/bytealg.MaxLen"], apart := false, laid := [("unicode/utf8.acceptRanges", laid_unicode_utf8_acceptRanges), ("unicode/utf8.first", laid_unicode_utf8_first)], narrowed := true }
def RecipeTurnsUptoSaid : Prop := recipeTurnsUptoRow.holds Tryd.pinned (OpenSpec.upto recipeTurnsSpec)

/-- 'cooperagelaw15.RecipeFails', WHERE WHAT IT READS IS OF BULK AT MOST 1048576: true; the input reads as it did. -/
def recipeFailsUptoRow : OpenClaim := { program := "ytnjjnfbkilgidaadoor", sum := "a51c8e3e14dcfedd5f87c34d75d1ec5ebd0ef28385f283a4401fa342c41815fe", func := "cooperage/cooperagelaw15.RecipeFails", spec := "recipeFails", inPlace := ["internal/bytealg.IndexByteString", "internal/bytealg.IndexString", "internal/bytealg.CountString", "internal/abi.NoEscape", "internal/bytealg.MakeNoZero"], unfollowed := true, recurses := true, named := ["unicode/utf8.first", "unicode/utf8.acceptRanges", "internal/bytealg.MaxLen"], apart := false, laid := [("unicode/utf8.acceptRanges", laid_unicode_utf8_acceptRanges), ("unicode/utf8.first", laid_unicode_utf8_first)], narrowed := true }
def RecipeFailsUptoSaid : Prop := recipeFailsUptoRow.holds Tryd.pinned (OpenSpec.upto recipeFailsSpec)

/-- 'cooperagelaw15.RecipeSays', WHERE WHAT IT READS IS OF BULK AT MOST 1048576: true; the input reads as it did. -/
def recipeSaysUptoRow : OpenClaim := { program := "ytnjjnfbkilgidaadoor", sum := "a51c8e3e14dcfedd5f87c34d75d1ec5ebd0ef28385f283a4401fa342c41815fe", func := "cooperage/cooperagelaw15.RecipeSays", spec := "recipeSays", inPlace := ["internal/bytealg.IndexByteString", "internal/bytealg.IndexString", "internal/bytealg.CountString", "internal/abi.NoEscape", "internal/bytealg.MakeNoZero"], unfollowed := true, recurses := true, named := ["unicode/utf8.first", "unicode/utf8.acceptRanges", "internal/bytealg.MaxLen"], apart := false, laid := [("unicode/utf8.acceptRanges", laid_unicode_utf8_acceptRanges), ("unicode/utf8.first", laid_unicode_utf8_first)], narrowed := true }
def RecipeSaysUptoSaid : Prop := recipeSaysUptoRow.holds Tryd.pinned (OpenSpec.upto recipeSaysSpec)

/-- 'cooperagelaw15.RecipeBench', WHERE WHAT IT READS IS OF BULK AT MOST 1048576: true; the input reads as it did. -/
def recipeBenchUptoRow : OpenClaim := { program := "ytnjjnfbkilgidaadoor", sum := "a51c8e3e14dcfedd5f87c34d75d1ec5ebd0ef28385f283a4401fa342c41815fe", func := "cooperage/cooperagelaw15.RecipeBench", spec := "recipeBench", inPlace := ["internal/bytealg.IndexByteString", "internal/bytealg.IndexString", "internal/bytealg.CountString", "internal/abi.NoEscape", "internal/bytealg.MakeNoZero"], unfollowed := true, recurses := true, named := ["unicode/utf8.first", "unicode/utf8.acceptRanges", "internal/bytealg.MaxLen"], apart := false, laid := [("unicode/utf8.acceptRanges", laid_unicode_utf8_acceptRanges), ("unicode/utf8.first", laid_unicode_utf8_first)], narrowed := true }
def RecipeBenchUptoSaid : Prop := recipeBenchUptoRow.holds Tryd.pinned (OpenSpec.upto recipeBenchSpec)

end Rows
end Go.Proofs.YtnjjnfbkilgidaaDoor
