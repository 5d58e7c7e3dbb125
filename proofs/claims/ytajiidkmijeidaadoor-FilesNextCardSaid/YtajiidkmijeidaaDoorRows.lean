/-
  NARROWER THAN 'FOR EVERY INPUT', by the rows' own cells (each row's printed sentence says how): FilesWays: laid · FilesLast: laid · FilesTimes: laid · FilesCopy: laid · FilesNext: laid · FilesTurn: laid · FilesWhole: laid · FilesPlays: laid.
  DERIVED. THE GIVEN ROWS OF THIS SEAT. 8 by the template 'for every input the law returns true; each argument reads behind the call as it read before'; 0 by the template 'total and deterministic' (their statements: YtajiidkmijeidaaDoorTotals.lean).
  GIVEN WITH THE SEED: the statements are not yours to turn. If you find one false, say at which input.
  Laid BY PROGRAM, IN A SANDBOX (cutbox-rows.mjs): the forced cells as the released guide's own fill.sh prints them over the translation 6fb4641924546170… (all of the seat's roots in one cut). By AI agents, Wed Nov 11 2026. No macro, syntax, notation, axiom, sorry.
-/
import Derived.Test.YtajiidkmijeidaaDoorChecked
import GoSem.PinnedTables
import GoSem.Claim
import GoSem.ClaimJoined
import GoSem.ClaimMapViews
import Derived.JoinedTies
import Derived.KernelRfl
namespace Go.Proofs.YtajiidkmijeidaaDoor
/- THE CELL 'sum', in the pinned program and in every row, IS THE sha256 OF THE DUMP (.gsa) THAT YtajiidkmijeidaaDoorProg.lean LOADS. Nothing in Lean hashes anything: it is a label: what it is worth is what the hold of that sum in a sandbox is worth. -/
noncomputable def Tryd.pinned : Pinned := { name := "ytajiidkmijeidaadoor", sum := "6fb4641924546170258b180c75597a5dd5dbefc6604a805b71aea1fba4e42b24", checked := Tryd.checked }
namespace Rows
def none {H : Type} : Left H := { results := [], args := [] }

/- WHAT THE LISTED PACKAGE-LEVEL VARIABLES READ AS WHEN THE CALL BEGINS. Each datum BY PROGRAM (the guide's laid-datum.mjs) off the statement by which the dump's own 'gosem.cut.vars' lays the variable. In a bare row this is a premise. The card (YtajiidkmijeidaaDoorCards.lean) ties it to the program's text. -/
def laid_unicode_utf8_acceptRanges {H : Type} : DataW H := .agg [.agg [.lit (.int .u8 128), .lit (.int .u8 191)], .agg [.lit (.int .u8 160), .lit (.int .u8 191)], .agg [.lit (.int .u8 128), .lit (.int .u8 159)], .agg [.lit (.int .u8 144), .lit (.int .u8 191)], .agg [.lit (.int .u8 128), .lit (.int .u8 143)], .agg [.lit (.int .u8 0), .lit (.int .u8 0)], .agg [.lit (.int .u8 0), .lit (.int .u8 0)], .agg [.lit (.int .u8 0), .lit (.int .u8 0)], .agg [.lit (.int .u8 0), .lit (.int .u8 0)], .agg [.lit (.int .u8 0), .lit (.int .u8 0)], .agg [.lit (.int .u8 0), .lit (.int .u8 0)], .agg [.lit (.int .u8 0), .lit (.int .u8 0)], .agg [.lit (.int .u8 0), .lit (.int .u8 0)], .agg [.lit (.int .u8 0), .lit (.int .u8 0)], .agg [.lit (.int .u8 0), .lit (.int .u8 0)], .agg [.lit (.int .u8 0), .lit (.int .u8 0)]]
/-- One of Go's own tables, pinned by name: the form's constant. -/
def laid_unicode_utf8_first : DataW Unit := Go.Pinned.utf8First

/-- 'cooperagelaw5.FilesWays': WHATEVER THE INPUT: true; the input reads as it did. -/
def filesWaysSpec : ChangeSpec := { name := "filesWays", fn := fun _ => fun
  | [d1, d2] => { results := [.lit (.bool true)], args := [d1, d2] }
  | _ => none }
def filesWaysRow : OpenClaim := { program := "ytajiidkmijeidaadoor", sum := "6fb4641924546170258b180c75597a5dd5dbefc6604a805b71aea1fba4e42b24", func := "cooperage/cooperagelaw5.FilesWays", spec := "filesWays", inPlace := ["internal/bytealg.CountString", "internal/bytealg.IndexByteString", "internal/bytealg.IndexString", "maps.clone"], unfollowed := true, recurses := true, named := ["unicode/utf8.first", "unicode/utf8.acceptRanges", "internal/bytealg.MaxLen"], apart := false, laid := [("unicode/utf8.acceptRanges", laid_unicode_utf8_acceptRanges), ("unicode/utf8.first", laid_unicode_utf8_first)] }
def FilesWaysSaid : Prop := filesWaysRow.holds Tryd.pinned (OpenSpec.ofChange filesWaysSpec)

/-- ITS FALSE NEIGHBOUR: 'it returns false'. Refute it at one input. -/
def filesWaysWrong : ChangeSpec := { name := "filesWays", fn := fun _ => fun
  | [d1, d2] => { results := [.lit (.bool false)], args := [d1, d2] }
  | _ => none }
def FilesWaysWrongFalsely : Prop := filesWaysRow.holds Tryd.pinned (OpenSpec.ofChange filesWaysWrong)

/-- 'cooperagelaw5.FilesLast': WHATEVER THE INPUT: true; the input reads as it did. -/
def filesLastSpec : ChangeSpec := { name := "filesLast", fn := fun _ => fun
  | [d1, d2] => { results := [.lit (.bool true)], args := [d1, d2] }
  | _ => none }
def filesLastRow : OpenClaim := { program := "ytajiidkmijeidaadoor", sum := "6fb4641924546170258b180c75597a5dd5dbefc6604a805b71aea1fba4e42b24", func := "cooperage/cooperagelaw5.FilesLast", spec := "filesLast", inPlace := ["internal/bytealg.CountString", "internal/bytealg.IndexByteString", "internal/bytealg.IndexString", "maps.clone"], unfollowed := true, recurses := true, named := ["unicode/utf8.first", "unicode/utf8.acceptRanges", "internal/bytealg.MaxLen"], apart := false, laid := [("unicode/utf8.acceptRanges", laid_unicode_utf8_acceptRanges), ("unicode/utf8.first", laid_unicode_utf8_first)] }
def FilesLastSaid : Prop := filesLastRow.holds Tryd.pinned (OpenSpec.ofChange filesLastSpec)

/-- ITS FALSE NEIGHBOUR: 'it returns false'. Refute it at one input. -/
def filesLastWrong : ChangeSpec := { name := "filesLast", fn := fun _ => fun
  | [d1, d2] => { results := [.lit (.bool false)], args := [d1, d2] }
  | _ => none }
def FilesLastWrongFalsely : Prop := filesLastRow.holds Tryd.pinned (OpenSpec.ofChange filesLastWrong)

/-- 'cooperagelaw5.FilesTimes': WHATEVER THE INPUT: true; the input reads as it did. -/
def filesTimesSpec : ChangeSpec := { name := "filesTimes", fn := fun _ => fun
  | [d] => { results := [.lit (.bool true)], args := [d] }
  | _ => none }
def filesTimesRow : OpenClaim := { program := "ytajiidkmijeidaadoor", sum := "6fb4641924546170258b180c75597a5dd5dbefc6604a805b71aea1fba4e42b24", func := "cooperage/cooperagelaw5.FilesTimes", spec := "filesTimes", inPlace := ["internal/bytealg.CountString", "internal/bytealg.IndexByteString", "internal/bytealg.IndexString", "maps.clone"], unfollowed := true, recurses := true, named := ["unicode/utf8.first", "unicode/utf8.acceptRanges", "internal/bytealg.MaxLen"], apart := false, laid := [("unicode/utf8.acceptRanges", laid_unicode_utf8_acceptRanges), ("unicode/utf8.first", laid_unicode_utf8_first)] }
def FilesTimesSaid : Prop := filesTimesRow.holds Tryd.pinned (OpenSpec.ofChange filesTimesSpec)

/-- ITS FALSE NEIGHBOUR: 'it returns false'. Refute it at one input. -/
def filesTimesWrong : ChangeSpec := { name := "filesTimes", fn := fun _ => fun
  | [d] => { results := [.lit (.bool false)], args := [d] }
  | _ => none }
def FilesTimesWrongFalsely : Prop := filesTimesRow.holds Tryd.pinned (OpenSpec.ofChange filesTimesWrong)

/-- 'cooperagelaw5.FilesCopy': WHATEVER THE INPUT: true; the input reads as it did. -/
def filesCopySpec : ChangeSpec := { name := "filesCopy", fn := fun _ => fun
  | [d1, d2] => { results := [.lit (.bool true)], args := [d1, d2] }
  | _ => none }
def filesCopyRow : OpenClaim := { program := "ytajiidkmijeidaadoor", sum := "6fb4641924546170258b180c75597a5dd5dbefc6604a805b71aea1fba4e42b24", func := "cooperage/cooperagelaw5.FilesCopy", spec := "filesCopy", inPlace := ["internal/bytealg.CountString", "internal/bytealg.IndexByteString", "internal/bytealg.IndexString", "maps.clone"], unfollowed := true, recurses := true, named := ["unicode/utf8.first", "unicode/utf8.acceptRanges", "internal/bytealg.MaxLen"], apart := false, laid := [("unicode/utf8.acceptRanges", laid_unicode_utf8_acceptRanges), ("unicode/utf8.first", laid_unicode_utf8_first)] }
def FilesCopySaid : Prop := filesCopyRow.holds Tryd.pinned (OpenSpec.ofChange filesCopySpec)

/-- ITS FALSE NEIGHBOUR: 'it returns false'. Refute it at one input. -/
def filesCopyWrong : ChangeSpec := { name := "filesCopy", fn := fun _ => fun
  | [d1, d2] => { results := [.lit (.bool false)], args := [d1, d2] }
  | _ => none }
def FilesCopyWrongFalsely : Prop := filesCopyRow.holds Tryd.pinned (OpenSpec.ofChange filesCopyWrong)

/-- 'cooperagelaw5.FilesNext': WHATEVER THE INPUT: true; the input reads as it did. -/
def filesNextSpec : ChangeSpec := { name := "filesNext", fn := fun _ => fun
  | [d] => { results := [.lit (.bool true)], args := [d] }
  | _ => none }
def filesNextRow : OpenClaim := { program := "ytajiidkmijeidaadoor", sum := "6fb4641924546170258b180c75597a5dd5dbefc6604a805b71aea1fba4e42b24", func := "cooperage/cooperagelaw5.FilesNext", spec := "filesNext", inPlace := ["internal/bytealg.CountString", "internal/bytealg.IndexByteString", "internal/bytealg.IndexString", "maps.clone"], unfollowed := true, recurses := true, named := ["unicode/utf8.first", "unicode/utf8.acceptRanges", "internal/bytealg.MaxLen"], apart := false, laid := [("unicode/utf8.acceptRanges", laid_unicode_utf8_acceptRanges), ("unicode/utf8.first", laid_unicode_utf8_first)] }
def FilesNextSaid : Prop := filesNextRow.holds Tryd.pinned (OpenSpec.ofChange filesNextSpec)

/-- ITS FALSE NEIGHBOUR: 'it returns false'. Refute it at one input. -/
def filesNextWrong : ChangeSpec := { name := "filesNext", fn := fun _ => fun
  | [d] => { results := [.lit (.bool false)], args := [d] }
  | _ => none }
def FilesNextWrongFalsely : Prop := filesNextRow.holds Tryd.pinned (OpenSpec.ofChange filesNextWrong)

/-- 'cooperagelaw5.FilesTurn': WHATEVER THE INPUT: true; the input reads as it did. -/
def filesTurnSpec : ChangeSpec := { name := "filesTurn", fn := fun _ => fun
  | [d1, d2, d3] => { results := [.lit (.bool true)], args := [d1, d2, d3] }
  | _ => none }
def filesTurnRow : OpenClaim := { program := "ytajiidkmijeidaadoor", sum := "6fb4641924546170258b180c75597a5dd5dbefc6604a805b71aea1fba4e42b24", func := "cooperage/cooperagelaw5.FilesTurn", spec := "filesTurn", inPlace := ["internal/bytealg.CountString", "internal/bytealg.IndexByteString", "internal/bytealg.IndexString", "maps.clone"], unfollowed := true, recurses := true, named := ["unicode/utf8.first", "unicode/utf8.acceptRanges", "internal/bytealg.MaxLen"], apart := false, laid := [("unicode/utf8.acceptRanges", laid_unicode_utf8_acceptRanges), ("unicode/utf8.first", laid_unicode_utf8_first)] }
def FilesTurnSaid : Prop := filesTurnRow.holds Tryd.pinned (OpenSpec.ofChange filesTurnSpec)

/-- ITS FALSE NEIGHBOUR: 'it returns false'. Refute it at one input. -/
def filesTurnWrong : ChangeSpec := { name := "filesTurn", fn := fun _ => fun
  | [d1, d2, d3] => { results := [.lit (.bool false)], args := [d1, d2, d3] }
  | _ => none }
def FilesTurnWrongFalsely : Prop := filesTurnRow.holds Tryd.pinned (OpenSpec.ofChange filesTurnWrong)

/-- 'cooperagelaw5.FilesWhole': WHATEVER THE INPUT: true; the input reads as it did. -/
def filesWholeSpec : ChangeSpec := { name := "filesWhole", fn := fun _ => fun
  | [d1, d2, d3, d4, d5] => { results := [.lit (.bool true)], args := [d1, d2, d3, d4, d5] }
  | _ => none }
def filesWholeRow : OpenClaim := { program := "ytajiidkmijeidaadoor", sum := "6fb4641924546170258b180c75597a5dd5dbefc6604a805b71aea1fba4e42b24", func := "cooperage/cooperagelaw5.FilesWhole", spec := "filesWhole", inPlace := ["internal/bytealg.CountString", "internal/bytealg.IndexByteString", "internal/bytealg.IndexString", "maps.clone"], unfollowed := true, recurses := true, named := ["unicode/utf8.first", "unicode/utf8.acceptRanges", "internal/bytealg.MaxLen"], apart := false, laid := [("unicode/utf8.acceptRanges", laid_unicode_utf8_acceptRanges), ("unicode/utf8.first", laid_unicode_utf8_first)] }
def FilesWholeSaid : Prop := filesWholeRow.holds Tryd.pinned (OpenSpec.ofChange filesWholeSpec)

/-- ITS FALSE NEIGHBOUR: 'it returns false'. Refute it at one input. -/
def filesWholeWrong : ChangeSpec := { name := "filesWhole", fn := fun _ => fun
  | [d1, d2, d3, d4, d5] => { results := [.lit (.bool false)], args := [d1, d2, d3, d4, d5] }
  | _ => none }
def FilesWholeWrongFalsely : Prop := filesWholeRow.holds Tryd.pinned (OpenSpec.ofChange filesWholeWrong)

/-- 'cooperagelaw5.FilesPlays': WHATEVER THE INPUT: true; the input reads as it did. -/
def filesPlaysSpec : ChangeSpec := { name := "filesPlays", fn := fun _ => fun
  | [d1, d2] => { results := [.lit (.bool true)], args := [d1, d2] }
  | _ => none }
def filesPlaysRow : OpenClaim := { program := "ytajiidkmijeidaadoor", sum := "6fb4641924546170258b180c75597a5dd5dbefc6604a805b71aea1fba4e42b24", func := "cooperage/cooperagelaw5.FilesPlays", spec := "filesPlays", inPlace := ["internal/bytealg.CountString", "internal/bytealg.IndexByteString", "internal/bytealg.IndexString", "maps.clone"], unfollowed := true, recurses := true, named := ["unicode/utf8.first", "unicode/utf8.acceptRanges", "internal/bytealg.MaxLen"], apart := false, laid := [("unicode/utf8.acceptRanges", laid_unicode_utf8_acceptRanges), ("unicode/utf8.first", laid_unicode_utf8_first)] }
def FilesPlaysSaid : Prop := filesPlaysRow.holds Tryd.pinned (OpenSpec.ofChange filesPlaysSpec)

/-- ITS FALSE NEIGHBOUR: 'it returns false'. Refute it at one input. -/
def filesPlaysWrong : ChangeSpec := { name := "filesPlays", fn := fun _ => fun
  | [d1, d2] => { results := [.lit (.bool false)], args := [d1, d2] }
  | _ => none }
def FilesPlaysWrongFalsely : Prop := filesPlaysRow.holds Tryd.pinned (OpenSpec.ofChange filesPlaysWrong)

/- THE SECOND FORM. 'bulk': how many values and letters a reading holds, each counted each time it is reached (what is shared counts as often as it is met; a slice's spare places count too). A statement '..UptoSaid' is the law's where the arguments, and the package variables that the reading takes, are together of bulk at most 1048576: NARROWER than '..Said'. Prove '..Said' where nothing that the law and all that it calls make is longer than what came in: it says more and counts as full. Else prove '..UptoSaid'. A law counts once. -/
mutual
def uptoBulk {H : Type} : DataW H → Nat
  | .lit (.string bytes) => bytes.length + 1
  | .lit _ => 1
  | .nil => 1
  | .ptr d => uptoBulk d + 1
  | .slice elems spare => uptoBulkAll elems + uptoBulkAll spare + 1
  | .agg parts => uptoBulkAll parts + 1
  | .iface _ d => uptoBulk d + 1
  | .map entries => uptoBulkEntries entries + 1
  | .held _ => 1
def uptoBulkAll {H : Type} : List (DataW H) → Nat
  | [] => 0
  | d :: r => uptoBulk d + uptoBulkAll r
def uptoBulkEntries {H : Type} : List (Lit × DataW H) → Nat
  | [] => 0
  | x :: r => uptoBulkEntry x + uptoBulkEntries r
def uptoBulkEntry {H : Type} : Lit × DataW H → Nat
  | (.string bytes, d) => bytes.length + uptoBulk d + 1
  | (_, d) => uptoBulk d + 1
 end
def uptoSmall : (H : Type) → List (DataW H) → Bool := fun _ ds => decide (uptoBulkAll ds ≤ 1048576)
def OpenSpec.upto (s : _root_.Go.ChangeSpec) : _root_.Go.OpenSpec := { _root_.Go.OpenSpec.ofChange s with cond := some uptoSmall }

/-- 'cooperagelaw5.FilesWays', WHERE WHAT IT READS IS OF BULK AT MOST 1048576: true; the input reads as it did. -/
def filesWaysUptoRow : OpenClaim := { program := "ytajiidkmijeidaadoor", sum := "6fb4641924546170258b180c75597a5dd5dbefc6604a805b71aea1fba4e42b24", func := "cooperage/cooperagelaw5.FilesWays", spec := "filesWays", inPlace := ["internal/bytealg.CountString", "internal/bytealg.IndexByteString", "internal/bytealg.IndexString", "maps.clone"], unfollowed := true, recurses := true, named := ["unicode/utf8.first", "unicode/utf8.acceptRanges", "internal/bytealg.MaxLen"], apart := false, laid := [("unicode/utf8.acceptRanges", laid_unicode_utf8_acceptRanges), ("unicode/utf8.first", laid_unicode_utf8_first)], narrowed := true }
def FilesWaysUptoSaid : Prop := filesWaysUptoRow.holds Tryd.pinned (OpenSpec.upto filesWaysSpec)

/-- 'cooperagelaw5.FilesLast', WHERE WHAT IT READS IS OF BULK AT MOST 1048576: true; the input reads as it did. -/
def filesLastUptoRow : OpenClaim := { program := "ytajiidkmijeidaadoor", sum := "6fb4641924546170258b180c75597a5dd5dbefc6604a805b71aea1fba4e42b24", func := "cooperage/cooperagelaw5.FilesLast", spec := "filesLast", inPlace := ["internal/bytealg.CountString", "internal/bytealg.IndexByteString", "internal/bytealg.IndexString", "maps.clone"], unfollowed := true, recurses := true, named := ["unicode/utf8.first", "unicode/utf8.acceptRanges", "internal/bytealg.MaxLen"], apart := false, laid := [("unicode/utf8.acceptRanges", laid_unicode_utf8_acceptRanges), ("unicode/utf8.first", laid_unicode_utf8_first)], narrowed := true }
def FilesLastUptoSaid : Prop := filesLastUptoRow.holds Tryd.pinned (OpenSpec.upto filesLastSpec)

/-- 'cooperagelaw5.FilesTimes', WHERE WHAT IT READS IS OF BULK AT MOST 1048576: true; the input reads as it did. -/
def filesTimesUptoRow : OpenClaim := { program := "ytajiidkmijeidaadoor", sum := "6fb4641924546170258b180c75597a5dd5dbefc6604a805b71aea1fba4e42b24", func := "cooperage/cooperagelaw5.FilesTimes", spec := "filesTimes", inPlace := ["internal/bytealg.CountString", "internal/bytealg.IndexByteString", "internal/bytealg.IndexString", "maps.clone"], unfollowed := true, recurses := true, named := ["unicode/utf8.first", "unicode/utf8.acceptRanges", "internal/bytealg.MaxLen"], apart := false, laid := [("unicode/utf8.acceptRanges", laid_unicode_utf8_acceptRanges), ("unicode/utf8.first", laid_unicode_utf8_first)], narrowed := true }
def FilesTimesUptoSaid : Prop := filesTimesUptoRow.holds Tryd.pinned (OpenSpec.upto filesTimesSpec)

/-- 'cooperagelaw5.FilesCopy', WHERE WHAT IT READS IS OF BULK AT MOST 1048576: true; the input reads as it did. -/
def filesCopyUptoRow : OpenClaim := { program := "ytajiidkmijeidaadoor", sum := "6fb4641924546170258b180c75597a5dd5dbefc6604a805b71aea1fba4e42b24", func := "cooperage/cooperagelaw5.FilesCopy", spec := "filesCopy", inPlace := ["internal/bytealg.CountString", "internal/bytealg.IndexByteString", "internal/bytealg.IndexString", "maps.clone"], unfollowed := true, recurses := true, named := ["unicode/utf8.first", "unicode/utf8.acceptRanges", "internal/bytealg.MaxLen"], apart := false, laid := [("unicode/utf8.acceptRanges", laid_unicode_utf8_acceptRanges), ("unicode/utf8.first", laid_unicode_utf8_first)], narrowed := true }
def FilesCopyUptoSaid : Prop := filesCopyUptoRow.holds Tryd.pinned (OpenSpec.upto filesCopySpec)

/-- 'cooperagelaw5.FilesNext', WHERE WHAT IT READS IS OF BULK AT MOST 1048576: true; the input reads as it did. -/
def filesNextUptoRow : OpenClaim := { program := "ytajiidkmijeidaadoor", sum := "6fb4641924546170258b180c75597a5dd5dbefc6604a805b71aea1fba4e42b24", func := "cooperage/cooperagelaw5.FilesNext", spec := "filesNext", inPlace := ["internal/bytealg.CountString", "internal/bytealg.IndexByteString", "internal/bytealg.IndexString", "maps.clone"], unfollowed := true, recurses := true, named := ["unicode/utf8.first", "unicode/utf8.acceptRanges", "internal/bytealg.MaxLen"], apart := false, laid := [("unicode/utf8.acceptRanges", laid_unicode_utf8_acceptRanges), ("unicode/utf8.first", laid_unicode_utf8_first)], narrowed := true }
def FilesNextUptoSaid : Prop := filesNextUptoRow.holds Tryd.pinned (OpenSpec.upto filesNextSpec)

/-- 'cooperagelaw5.FilesTurn', WHERE WHAT IT READS IS OF BULK AT MOST 1048576: true; the input reads as it did. -/
def filesTurnUptoRow : OpenClaim := { program := "ytajiidkmijeidaadoor", sum := "6fb4641924546170258b180c75597a5dd5dbefc6604a805b71aea1fba4e42b24", func := "cooperage/cooperagelaw5.FilesTurn", spec := "filesTurn", inPlace := ["internal/bytealg.CountString", "internal/bytealg.IndexByteString", "internal/bytealg.IndexString", "maps.clone"], unfollowed := true, recurses := true, named := ["unicode/utf8.first", "unicode/utf8.acceptRanges", "internal/bytealg.MaxLen"], apart := false, laid := [("unicode/utf8.acceptRanges", laid_unicode_utf8_acceptRanges), ("unicode/utf8.first", laid_unicode_utf8_first)], narrowed := true }
def FilesTurnUptoSaid : Prop := filesTurnUptoRow.holds Tryd.pinned (OpenSpec.upto filesTurnSpec)

/-- 'cooperagelaw5.FilesWhole', WHERE WHAT IT READS IS OF BULK AT MOST 1048576: true; the input reads as it did. -/
def filesWholeUptoRow : OpenClaim := { program := "ytajiidkmijeidaadoor", sum := "6fb4641924546170258b180c75597a5dd5dbefc6604a805b71aea1fba4e42b24", func := "cooperage/cooperagelaw5.FilesWhole", spec := "filesWhole", inPlace := ["internal/bytealg.CountString", "internal/bytealg.IndexByteString", "internal/bytealg.IndexString", "maps.clone"], unfollowed := true, recurses := true, named := ["unicode/utf8.first", "unicode/utf8.acceptRanges", "internal/bytealg.MaxLen"], apart := false, laid := [("unicode/utf8.acceptRanges", laid_unicode_utf8_acceptRanges), ("unicode/utf8.first", laid_unicode_utf8_first)], narrowed := true }
def FilesWholeUptoSaid : Prop := filesWholeUptoRow.holds Tryd.pinned (OpenSpec.upto filesWholeSpec)

/-- 'cooperagelaw5.FilesPlays', WHERE WHAT IT READS IS OF BULK AT MOST 1048576: true; the input reads as it did. -/
def filesPlaysUptoRow : OpenClaim := { program := "ytajiidkmijeidaadoor", sum := "6fb4641924546170258b180c75597a5dd5dbefc6604a805b71aea1fba4e42b24", func := "cooperage/cooperagelaw5.FilesPlays", spec := "filesPlays", inPlace := ["internal/bytealg.CountString", "internal/bytealg.IndexByteString", "internal/bytealg.IndexString", "maps.clone"], unfollowed := true, recurses := true, named := ["unicode/utf8.first", "unicode/utf8.acceptRanges", "internal/bytealg.MaxLen"], apart := false, laid := [("unicode/utf8.acceptRanges", laid_unicode_utf8_acceptRanges), ("unicode/utf8.first", laid_unicode_utf8_first)], narrowed := true }
def FilesPlaysUptoSaid : Prop := filesPlaysUptoRow.holds Tryd.pinned (OpenSpec.upto filesPlaysSpec)

end Rows
end Go.Proofs.YtajiidkmijeidaaDoor
