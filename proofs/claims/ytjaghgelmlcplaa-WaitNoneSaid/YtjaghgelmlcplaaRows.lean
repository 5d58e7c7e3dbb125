/-
  No cell of these rows narrows 'for every input' (looked for: loops, veiled, ifaces, maps, wideKeys, modest, calm, conditions, laid).
  DERIVED. THE GIVEN ROWS OF THIS SEAT. 4 by the template 'for every input the law returns true; each argument reads behind the call as it read before'; 0 by the template 'total and deterministic' (their statements: YtjaghgelmlcplaaTotals.lean).
  GIVEN WITH THE SEED: the statements are not yours to turn. If you find one false, say at which input.
  Laid BY PROGRAM, IN A SANDBOX (cutbox-rows.mjs): the forced cells as the released guide's own fill.sh prints them over the translation e82adfb6af5b6a55… (all of the seat's roots in one cut). By AI agents, Wed Nov 11 2026. No macro, syntax, notation, axiom, sorry.
-/
import Derived.Test.YtjaghgelmlcplaaChecked
import GoSem.Claim
import GoSem.ClaimJoined
import GoSem.ClaimMapViews
import Derived.JoinedTies
import Derived.KernelRfl
namespace Go.Proofs.Ytjaghgelmlcplaa
/- THE CELL 'sum', in the pinned program and in every row, IS THE sha256 OF THE DUMP (.gsa) THAT YtjaghgelmlcplaaProg.lean LOADS. Nothing in Lean hashes anything: it is a label: what it is worth is what the hold of that sum in a sandbox is worth. -/
noncomputable def Try.pinned : Pinned := { name := "ytjaghgelmlcplaa", sum := "e82adfb6af5b6a556e8a6a116edaa09576e89cd462c410b2c7c0e5dc96a50058", checked := Try.checked }
namespace Rows
def none {H : Type} : Left H := { results := [], args := [] }

/-- 'cooperagelaw17.WaitRings': WHATEVER THE INPUT: true; the input reads as it did. -/
def waitRingsSpec : ChangeSpec := { name := "waitRings", fn := fun _ => fun
  | [d1, d2, d3, d4] => { results := [.lit (.bool true)], args := [d1, d2, d3, d4] }
  | _ => none }
def waitRingsRow : OpenClaim := { program := "ytjaghgelmlcplaa", sum := "e82adfb6af5b6a556e8a6a116edaa09576e89cd462c410b2c7c0e5dc96a50058", func := "cooperage/cooperagelaw17.WaitRings", spec := "waitRings", unfollowed := true, recurses := true, apart := false }
def WaitRingsSaid : Prop := waitRingsRow.holds Try.pinned (OpenSpec.ofChange waitRingsSpec)

/-- ITS FALSE NEIGHBOUR: 'it returns false'. Refute it at one input. -/
def waitRingsWrong : ChangeSpec := { name := "waitRings", fn := fun _ => fun
  | [d1, d2, d3, d4] => { results := [.lit (.bool false)], args := [d1, d2, d3, d4] }
  | _ => none }
def WaitRingsWrongFalsely : Prop := waitRingsRow.holds Try.pinned (OpenSpec.ofChange waitRingsWrong)

/-- 'cooperagelaw17.WaitGives': WHATEVER THE INPUT: true; the input reads as it did. -/
def waitGivesSpec : ChangeSpec := { name := "waitGives", fn := fun _ => fun
  | [d1, d2] => { results := [.lit (.bool true)], args := [d1, d2] }
  | _ => none }
def waitGivesRow : OpenClaim := { program := "ytjaghgelmlcplaa", sum := "e82adfb6af5b6a556e8a6a116edaa09576e89cd462c410b2c7c0e5dc96a50058", func := "cooperage/cooperagelaw17.WaitGives", spec := "waitGives", unfollowed := true, recurses := true, apart := false }
def WaitGivesSaid : Prop := waitGivesRow.holds Try.pinned (OpenSpec.ofChange waitGivesSpec)

/-- ITS FALSE NEIGHBOUR: 'it returns false'. Refute it at one input. -/
def waitGivesWrong : ChangeSpec := { name := "waitGives", fn := fun _ => fun
  | [d1, d2] => { results := [.lit (.bool false)], args := [d1, d2] }
  | _ => none }
def WaitGivesWrongFalsely : Prop := waitGivesRow.holds Try.pinned (OpenSpec.ofChange waitGivesWrong)

/-- 'cooperagelaw17.WaitWays': WHATEVER THE INPUT: true; the input reads as it did. -/
def waitWaysSpec : ChangeSpec := { name := "waitWays", fn := fun _ => fun
  | [d1, d2, d3, d4] => { results := [.lit (.bool true)], args := [d1, d2, d3, d4] }
  | _ => none }
def waitWaysRow : OpenClaim := { program := "ytjaghgelmlcplaa", sum := "e82adfb6af5b6a556e8a6a116edaa09576e89cd462c410b2c7c0e5dc96a50058", func := "cooperage/cooperagelaw17.WaitWays", spec := "waitWays", unfollowed := true, recurses := true, apart := false }
def WaitWaysSaid : Prop := waitWaysRow.holds Try.pinned (OpenSpec.ofChange waitWaysSpec)

/-- ITS FALSE NEIGHBOUR: 'it returns false'. Refute it at one input. -/
def waitWaysWrong : ChangeSpec := { name := "waitWays", fn := fun _ => fun
  | [d1, d2, d3, d4] => { results := [.lit (.bool false)], args := [d1, d2, d3, d4] }
  | _ => none }
def WaitWaysWrongFalsely : Prop := waitWaysRow.holds Try.pinned (OpenSpec.ofChange waitWaysWrong)

/-- 'cooperagelaw17.WaitNone': WHATEVER THE INPUT: true; the input reads as it did. -/
def waitNoneSpec : ChangeSpec := { name := "waitNone", fn := fun _ => fun
  | [d1, d2] => { results := [.lit (.bool true)], args := [d1, d2] }
  | _ => none }
def waitNoneRow : OpenClaim := { program := "ytjaghgelmlcplaa", sum := "e82adfb6af5b6a556e8a6a116edaa09576e89cd462c410b2c7c0e5dc96a50058", func := "cooperage/cooperagelaw17.WaitNone", spec := "waitNone", unfollowed := true, recurses := true, apart := false }
def WaitNoneSaid : Prop := waitNoneRow.holds Try.pinned (OpenSpec.ofChange waitNoneSpec)

/-- ITS FALSE NEIGHBOUR: 'it returns false'. Refute it at one input. -/
def waitNoneWrong : ChangeSpec := { name := "waitNone", fn := fun _ => fun
  | [d1, d2] => { results := [.lit (.bool false)], args := [d1, d2] }
  | _ => none }
def WaitNoneWrongFalsely : Prop := waitNoneRow.holds Try.pinned (OpenSpec.ofChange waitNoneWrong)

/- THE SECOND FORM. 'bulk': how many values and letters a reading holds, each counted each time it is reached (what is shared counts as often as it is met; a slice's spare places count too). A statement '..UptoSaid' is the law's where the arguments, and the package variables that the reading takes, are together of bulk at most 1048576: NARROWER than '..Said'. Prove '..Said' where nothing that the law and all that it calls make is longer than what came in: it says more and counts as full. Else prove '..UptoSaid'. A law counts once. -/
mutual
def uptoBulk {H : Type} : DataW H → Nat
  | .lit (.string bytes) => bytes.length + 1
  | .lit _ => 1
  | .nil => 1
  | .ptr d => uptoBulk d + 1
  | .slice elems spare => uptoBulkAll elems + uptoBulkAll spare + 1
  | .agg parts => uptoBulkAll parts + 1
  | .iface _ d => uptoBulk d + 1
  | .map entries => uptoBulkEntries entries + 1
  | .held _ => 1
def uptoBulkAll {H : Type} : List (DataW H) → Nat
  | [] => 0
  | d :: r => uptoBulk d + uptoBulkAll r
def uptoBulkEntries {H : Type} : List (Lit × DataW H) → Nat
  | [] => 0
  | x :: r => uptoBulkEntry x + uptoBulkEntries r
def uptoBulkEntry {H : Type} : Lit × DataW H → Nat
  | (.string bytes, d) => bytes.length + uptoBulk d + 1
  | (_, d) => uptoBulk d + 1
 end
def uptoSmall : (H : Type) → List (DataW H) → Bool := fun _ ds => decide (uptoBulkAll ds ≤ 1048576)
def OpenSpec.upto (s : _root_.Go.ChangeSpec) : _root_.Go.OpenSpec := { _root_.Go.OpenSpec.ofChange s with cond := some uptoSmall }

/-- 'cooperagelaw17.WaitRings', WHERE WHAT IT READS IS OF BULK AT MOST 1048576: true; the input reads as it did. -/
def waitRingsUptoRow : OpenClaim := { program := "ytjaghgelmlcplaa", sum := "e82adfb6af5b6a556e8a6a116edaa09576e89cd462c410b2c7c0e5dc96a50058", func := "cooperage/cooperagelaw17.WaitRings", spec := "waitRings", unfollowed := true, recurses := true, apart := false, narrowed := true }
def WaitRingsUptoSaid : Prop := waitRingsUptoRow.holds Try.pinned (OpenSpec.upto waitRingsSpec)

/-- 'cooperagelaw17.WaitGives', WHERE WHAT IT READS IS OF BULK AT MOST 1048576: true; the input reads as it did. -/
def waitGivesUptoRow : OpenClaim := { program := "ytjaghgelmlcplaa", sum := "e82adfb6af5b6a556e8a6a116edaa09576e89cd462c410b2c7c0e5dc96a50058", func := "cooperage/cooperagelaw17.WaitGives", spec := "waitGives", unfollowed := true, recurses := true, apart := false, narrowed := true }
def WaitGivesUptoSaid : Prop := waitGivesUptoRow.holds Try.pinned (OpenSpec.upto waitGivesSpec)

/-- 'cooperagelaw17.WaitWays', WHERE WHAT IT READS IS OF BULK AT MOST 1048576: true; the input reads as it did. -/
def waitWaysUptoRow : OpenClaim := { program := "ytjaghgelmlcplaa", sum := "e82adfb6af5b6a556e8a6a116edaa09576e89cd462c410b2c7c0e5dc96a50058", func := "cooperage/cooperagelaw17.WaitWays", spec := "waitWays", unfollowed := true, recurses := true, apart := false, narrowed := true }
def WaitWaysUptoSaid : Prop := waitWaysUptoRow.holds Try.pinned (OpenSpec.upto waitWaysSpec)

/-- 'cooperagelaw17.WaitNone', WHERE WHAT IT READS IS OF BULK AT MOST 1048576: true; the input reads as it did. -/
def waitNoneUptoRow : OpenClaim := { program := "ytjaghgelmlcplaa", sum := "e82adfb6af5b6a556e8a6a116edaa09576e89cd462c410b2c7c0e5dc96a50058", func := "cooperage/cooperagelaw17.WaitNone", spec := "waitNone", unfollowed := true, recurses := true, apart := false, narrowed := true }
def WaitNoneUptoSaid : Prop := waitNoneUptoRow.holds Try.pinned (OpenSpec.upto waitNoneSpec)

end Rows
end Go.Proofs.Ytjaghgelmlcplaa
