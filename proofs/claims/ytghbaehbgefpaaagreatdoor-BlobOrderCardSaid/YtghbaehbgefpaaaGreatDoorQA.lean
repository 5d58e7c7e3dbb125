import Derived.WalkKit
import Derived.Below
import Derived.Lib.Hide
import Derived.Deep.QuietTactic
import Derived.Maps.RangeWalk
import Derived.Maps.OwnSet
import Derived.Maps.OwnOps
import Derived.Test.YtghbaehbgefpaaaGreatDoorProg
import Derived.Deep.Draws
import Derived.Deep.AppendLies
import Derived.Maps.AppendAt
import Derived.OwnWalk
import Derived.Laws.BytesArg
import Derived.Laws.MakeOwn
import Derived.Laws.OwnMore
import Derived.Deep.OwnRows
import Derived.Tactics
import Derived.Lib.ConvBytes
import Derived.Laws.Slices
import Derived.KernelRfl
import Derived.RowKit3
import Derived.Deep.LoopGhost
import Derived.BigQuiet
import Derived.WideLaws
import Derived.Deep.DeepCutAuto
import Derived.Deep.CutBlock
import Derived.Deep.RegionHeld3
import Derived.Laws.Rows
import Derived.Lib.AppendStr
import Derived.ArgAppend
import Derived.Laws.IdiomCopy
import Derived.OrdersHeld
import Derived.Laws.BitsLemmas
import Derived.RowKit
import Derived.Test.YtghbaehbgefpaaaGreatDoorWWords
import Derived.Test.YtghbaehbgefpaaaGreatDoorWLast
import Derived.Test.YtghbaehbgefpaaaGreatDoorWTab
import Derived.Test.YtghbaehbgefpaaaGreatDoorWFour
import Derived.Test.YtghbaehbgefpaaaGreatDoorWQPut
import Derived.Test.YtghbaehbgefpaaaGreatDoorWApart
import Derived.Test.YtghbaehbgefpaaaGreatDoorWArr
import Derived.Test.YtghbaehbgefpaaaGreatDoorWZeros
import Derived.Test.YtghbaehbgefpaaaGreatDoorWFoot
import Derived.Test.YtghbaehbgefpaaaGreatDoorWKept
import Derived.Test.YtghbaehbgefpaaaGreatDoorWShare
import Derived.Test.YtghbaehbgefpaaaGreatDoorWN
import Derived.Test.YtghbaehbgefpaaaGreatDoorWFootNe
import Derived.Test.YtghbaehbgefpaaaGreatDoorWAt
import Derived.Test.YtghbaehbgefpaaaGreatDoorWEqStruct
import Derived.Test.YtghbaehbgefpaaaGreatDoorWRepsOne
import Derived.Test.YtghbaehbgefpaaaGreatDoorWInv
import Derived.Test.YtghbaehbgefpaaaGreatDoorWInvWords
import Derived.Test.YtghbaehbgefpaaaGreatDoorWGuard
import Derived.Test.YtghbaehbgefpaaaGreatDoorWNEv
import Derived.Test.YtghbaehbgefpaaaGreatDoorWMore
import Derived.Test.YtghbaehbgefpaaaGreatDoorWSized
import Derived.Maps.Own
import Derived.Sort.KeysCollected
import Derived.Shelf.Strings.Builder1
import Derived.Shelf.Strings.Trim
import Derived.Shelf.Small.Utf8
import Derived.Shelf.Small.Strs
import Derived.Shelf.Strings.BuilderF
import Derived.Shelf.Strings.BuilderK
import Derived.Shelf.LaysM
import Derived.Shelf.Strconv.Clone
import Derived.Shelf.Strconv.SyntaxError
import Derived.Shelf.LaysC
import Derived.Shelf.Strconv.ToError
import Derived.Shelf.Strconv.Lower
import Derived.Ground.MpProg
import Derived.Shelf.Pu.ParseUintPublic10
import Derived.Shelf.Strings.Search1
import Derived.Shelf.Strings.Search2
import Derived.Shelf.Strings.Search3
import Derived.Shelf.Strings.Cut
import Derived.Shelf.Strings.Count
import Derived.Shelf.Strings.Shaped
import Derived.Shelf.Strings.Prefix
import Derived.Shelf.Strings.Split
import Derived.Shelf.Strings.SplitShaped
import Derived.Shelf.Strings.Runes
import Derived.Shelf.Strings.AsciiSet
import Derived.Shelf.Unicode.DecodeSlow
import Derived.Ground.SlgmProg
import Derived.Shelf.SortM.Plain
import Derived.Shelf.SortM.SortNone
import Derived.Shelf.SlIter.Nil
import Derived.Shelf.SlMaps.Clone
import Derived.Ground.GgzProg
import Derived.Ground.SlmcProg
import Derived.OwnWalkIn
import Derived.StringKeys
import Derived.Outline
import Derived.WalkLawsBesides
import Derived.Deep.RegionLaw
import Derived.StillTailTactics
import Derived.RegionTactic
import Derived.BigRegion
import Derived.Deep.RegionWith
import Derived.Deep.Cut
import Derived.Deep.CutRange
import Derived.Lib.Builder
import Derived.IntWalk
import Derived.Deep.Onto
/- Several texts of this session in one: the walks of the functions that the laws reach, and what they tell. -/
/- What a call may change: the blocks of a set, and whatever is new. -/
namespace Go.Proofs.YtghbaehbgefpaaaGreatDoor.Fr
set_option linter.unusedVariables false
set_option linter.unusedSimpArgs false
open Go.RowKit
/-- W is w, but for blocks of S, and blocks that are new. -/
structure Chg (S : Nat → Prop) (w W : World) : Prop where
  os : W.os = w.os
  tape : W.tape = w.tape
  output : W.output = w.output
  size : w.heap.size ≤ W.heap.size
  block : ∀ k, k < w.heap.size → ¬ S k → W.heap[k]? = w.heap[k]?
section
variable {S S' : Nat → Prop} {w W W2 : World}
theorem Chg.refl (S : Nat → Prop) (w : World) : Chg S w w := ⟨rfl, rfl, rfl, Nat.le_refl _, fun _ _ _ => rfl⟩
theorem Chg.of_below (h : Below w.heap.size w W) (S : Nat → Prop) : Chg S w W := ⟨h.os, h.tape, h.output, h.size, fun k hk _ => h.block k hk⟩
theorem Chg.mono (h : Chg S w W) (hs : ∀ k, k < w.heap.size → S k → S' k) : Chg S' w W := ⟨h.os, h.tape, h.output, h.size, fun k hk hn => h.block k hk fun e => hn (hs k hk e)⟩
theorem Chg.trans (h : Chg S w W) (k : Chg S' W W2) (hs : ∀ i, i < w.heap.size → S' i → S i) : Chg S w W2 :=
  ⟨k.os.trans h.os, k.tape.trans h.tape, k.output.trans h.output, Nat.le_trans h.size k.size, fun i hi hn => (k.block i (Nat.lt_of_lt_of_le hi h.size) fun e => hn (hs i hi e)).trans (h.block i hi hn)⟩
theorem Chg.below (h : Chg S w W) (hb : Below W.heap.size W W2) : Chg S w W2 := h.trans (Chg.of_below hb fun _ => False) fun _ _ e => e.elim
theorem Chg.alloc (h : Chg S w W) (o : Obj) : Chg S w (W.alloc o) := h.below ((Below.refl _ _).alloc (Nat.le_refl _) _)
theorem Chg.drew (h : Chg S w W) : Chg S w W.drew := ⟨h.os, h.tape, h.output, h.size, h.block⟩
theorem Chg.drewN (h : Chg S w W) (n : Nat) : Chg S w (W.drewN n) := ⟨h.os, h.tape, h.output, h.size, h.block⟩
theorem Chg.setCell (h : Chg S w W) {p : Addr} (hp : p.block < w.heap.size → S p.block) (u : Value) : Chg S w (W.setCell p u) :=
  ⟨h.os, h.tape, h.output, by simpa using h.size, fun k hk hn => (Below.heap_setCell W p u k fun e => hn (by subst e; exact hp hk)).trans (h.block k hk hn)⟩
theorem Chg.grown (h : Chg S w W) {row : Option Nat} (hg : W.grownBy W2 row) (hr : ∀ k, row = some k → k < w.heap.size → S k) : Chg S w W2 :=
  ⟨hg.os.trans h.os, hg.tape.trans h.tape, hg.output.trans h.output, Nat.le_trans h.size hg.size, fun k hk hn => (hg.block k (Nat.lt_of_lt_of_le hk h.size) fun e => hn (hr k e.symm hk)).trans (h.block k hk hn)⟩
/-- All that may change is new since B: it is as it was below B. -/
theorem Chg.to_below (h : Chg S w W) {B : Nat} (hB : B ≤ w.heap.size) (hs : ∀ k, S k → B ≤ k) : Below B w W :=
  ⟨h.os, h.tape, h.output, h.size, fun k hk => h.block k (by omega) fun e => by have := hs k e; omega⟩
theorem Chg.cell (h : Chg S w W) {p : Addr} (hp : p.block < w.heap.size) (hn : ¬ S p.block) : W.cell? p = w.cell? p := World.cell?_of_block (h.block _ hp hn)
theorem Chg.frozen (h : Chg S w W) {p : Addr} (hp : p.block < w.heap.size) (hn : ¬ S p.block) : W.frozen? p = w.frozen? p := World.frozen?_of_block (h.block _ hp hn)
end
end Go.Proofs.YtghbaehbgefpaaaGreatDoor.Fr
namespace Go.Proofs.YtghbaehbgefpaaaGreatDoor.F
open Go.RowKit Go.Proofs.YtghbaehbgefpaaaGreatDoorW.PrintWords Go.Proofs.YtghbaehbgefpaaaGreatDoorW.PrintLast Go.Proofs.YtghbaehbgefpaaaGreatDoorW.PrintMore
attribute [local go_sem] max2_int min2_int max_two min_two max_three min_three max_four min_four   -- for this text's walks alone
set_option linter.unusedVariables false
set_option linter.unusedSimpArgs false

-- the values' own types

/-! #### struct type 53 -/
structure S53 where
  f0 : Int
  f1 : Int
  f2 : Int
  f3 : ByteArray
  f4 : (List ByteArray)
def z53 : S53 := ⟨(0 : Int), (0 : Int), (0 : Int), (⟨#[]⟩ : ByteArray), ([] : List ByteArray)⟩

/-! #### struct type 89 -/
structure S89 where
  f0 : ByteArray
  f1 : ByteArray
  f2 : Int
def k89 : Kd S89 := Kd.iso (Kd.pair Kd.string (Kd.pair Kd.string (Kd.int .i64))) (fun x : S89 => (x.f0, x.f1, x.f2))

end Go.Proofs.YtghbaehbgefpaaaGreatDoor.F
/- A tree of files, plain: rows of files in the order of their paths, and what changes make of them. -/
namespace Go.Proofs.YtghbaehbgefpaaaGreatDoor.Fr
open Go.RowKit Go.Proofs.YtghbaehbgefpaaaGreatDoor.F
set_option linter.unusedVariables false
set_option linter.unusedSimpArgs false
/-- A file: its path (f0), its text (f1), its time (f2). -/
abbrev Fl := S89
/-- A change: its kind (f0: 1 written, 2 appended, 3 removed, 4 renamed), path (f1), text (f2), time (f3). -/
structure Cg where
  f0 : Int
  f1 : ByteArray
  f2 : ByteArray
  f3 : Int
def ltB (a b : ByteArray) : Bool := bytesBefore a.data.toList b.data.toList
def dropF (l : List Fl) (p : ByteArray) : List Fl := l.filter fun f => !(f.f0.data.toList == p.data.toList)
def insF (f : Fl) : List Fl → List Fl
  | [] => [f]
  | g :: r => if ltB f.f0 g.f0 = true then f :: g :: r else g :: insF f r
def putF (l : List Fl) (f : Fl) : List Fl := insF f (dropF l f.f0)
def findF (l : List Fl) (p : ByteArray) : Option Fl := l.find? fun f => f.f0.data.toList == p.data.toList
def textF (l : List Fl) (p : ByteArray) : ByteArray := match findF l p with | some f => f.f1 | none => ⟨#[]⟩
/-- Files after a change. -/
def afterF (l : List Fl) (c : Cg) : List Fl :=
  if c.f0 = 1 then putF l ⟨c.f1, c.f2, c.f3⟩
  else if c.f0 = 2 then putF l ⟨c.f1, textF l c.f1 ++ c.f2, c.f3⟩
  else if c.f0 = 3 then dropF l c.f1
  else match findF l c.f1 with
    | none => l
    | some f => putF (dropF l c.f1) ⟨c.f2, f.f1, f.f2⟩
def usedF (l : List Fl) : Nat := (l.map fun f => f.f1.size).sum
/-- Is a one of the directories of b? -/
def wayF (a b : ByteArray) : Bool := (a.data.toList ++ [47]).isPrefixOf b.data.toList
/-! ### the map's datum -/
abbrev DW := DataW Unit
def fval (f : Fl) : DW := .agg [.lit (.string f.f1.data.toList), .lit (.int .i64 f.f2)]
def fent (f : Fl) : Lit × DW := (.string f.f0.data.toList, fval f)
def fdat (l : List Fl) : DW := .map (l.map fent)
theorem fent_before (f g : Fl) : (fent f).1.before (fent g).1 = ltB f.f0 g.f0 := rfl
theorem fdat_ins (f : Fl) (l : List Fl) : DataW.insert (fent f) (l.map fent) = (insF f l).map fent := by
  induction l with
  | nil => rfl
  | cons g r ih =>
    rw [List.map_cons, DataW.insert, fent_before, insF]
    by_cases h : ltB f.f0 g.f0 = true
    · rw [if_pos h, if_pos h]; rfl
    · rw [if_neg h, if_neg h, ih]; rfl
theorem fdat_filter (l : List Fl) (p : ByteArray) : (l.map fent).filter (fun x => !x.1.sameKey (.string p.data.toList)) = (dropF l p).map fent := by
  unfold dropF
  rw [List.filter_map]
  rfl
theorem fdat_put (l : List Fl) (f : Fl) : (fdat l).put (.string f.f0.data.toList) (fval f) = fdat (putF l f) := by
  show DataW.map (DataW.insert (fent f) ((l.map fent).filter _)) = DataW.map ((insF f (dropF l f.f0)).map fent)
  rw [fdat_filter, fdat_ins]
theorem fdat_del (l : List Fl) (p : ByteArray) : (fdat l).del (.string p.data.toList) = fdat (dropF l p) := by
  show DataW.map ((l.map fent).filter _) = DataW.map ((dropF l p).map fent)
  rw [fdat_filter]
theorem fdat_find (l : List Fl) (p : ByteArray) (z : DW) : (fdat l).atKey (.string p.data.toList) z = match findF l p with | some f => fval f | none => z := by
  unfold fdat DataW.atKey findF
  simp only [List.find?_map]
  have e : ((fun x : Lit × DW => x.1.sameKey (.string p.data.toList)) ∘ fent) = fun f : Fl => f.f0.data.toList == p.data.toList := rfl
  rw [e]
  cases l.find? fun f => f.f0.data.toList == p.data.toList <;> rfl
theorem fdat_has (l : List Fl) (p : ByteArray) : Maps.has (fdat l) (.string p.data.toList) = (findF l p).isSome := by
  show (l.map fent).any _ = _
  unfold findF
  rw [List.any_map]
  show l.any (fun f : Fl => f.f0.data.toList == p.data.toList) = _
  induction l with
  | nil => rfl
  | cons f r ih =>
    rw [List.any_cons, List.find?_cons]
    cases h : f.f0.data.toList == p.data.toList
    · rw [Bool.false_or]; exact ih
    · rfl
theorem fdat_size (l : List Fl) : Maps.size (fdat l) = l.length := by
  show (l.map fent).length = _
  rw [List.length_map]
end Go.Proofs.YtghbaehbgefpaaaGreatDoor.Fr
/-
  DERIVED: THE SHELF's CONTRACTS AT THIS DUMP, IN PLAIN WORDS (tools/lay-plain.mjs out of 'TryzShelf.lean', which tools/lay-shelf.mjs wrote): THE SAME DECLARATIONS UNDER THE SAME NAMES: 'import', 'namespace', 'open', 'def', 'theorem' AND NOTHING ELSE: no command of the shelf's: FOR A HAND-IN. Each laying: the table of numbers ('.._ren') and one theorem, a field a fact of the dump's own or the kernel's comparison; each contract: ONE APPLICATION.
-/
namespace Go.Proofs
open Go.Shelf
def Tryz.lays170_ren : Go.Shelf.Ren := ⟨fun | 170 => 73 | n => n, fun | 70 => 123 | 3 => 3 | 0 => 0 | 72 => 125 | 37 => 120 | 5 => 5 | n => n, fun | n => n⟩
theorem Tryz.lays170 : Go.Proofs.Lays.n170 Tryz.prog Tryz.lays170_ren := {
  mixed := by kernel_rfl
  f170 := Tryz.func73.trans (congrArg some (by kernel_rfl))
  t0 := Tryz.underlying0
  a0 := Tryz.isAgg0
  z0 := Tryz.sizeOf0
  v0 := Tryz.zeroValue0
  t3 := Tryz.underlying3
  a3 := Tryz.isAgg3
  z3 := Tryz.sizeOf3
  v3 := Tryz.zeroValue3
  t37 := Tryz.underlying120
  a37 := Tryz.isAgg120
  z37 := Tryz.sizeOf120
  v37 := Tryz.zeroValue120
  t70 := Tryz.underlying123
  a70 := Tryz.isAgg123
  z70 := Tryz.sizeOf123
  v70 := Tryz.zeroValue123
  t72 := Tryz.underlying125
  a72 := Tryz.isAgg125
  z72 := Tryz.sizeOf125
  v72 := Tryz.zeroValue125 }
def Tryz.lays169_ren : Go.Shelf.Ren := ⟨fun | 169 => 72 | n => n, fun | 70 => 123 | 9 => 9 | 0 => 0 | 72 => 125 | 37 => 120 | 127 => 150 | 3 => 3 | 5 => 5 | n => n, fun | n => n⟩
theorem Tryz.lays169 : Go.Proofs.Lays.n169 Tryz.prog Tryz.lays169_ren := {
  mixed := by kernel_rfl
  f169 := Tryz.func72.trans (congrArg some (by kernel_rfl))
  t0 := Tryz.underlying0
  a0 := Tryz.isAgg0
  z0 := Tryz.sizeOf0
  v0 := Tryz.zeroValue0
  t3 := Tryz.underlying3
  a3 := Tryz.isAgg3
  z3 := Tryz.sizeOf3
  v3 := Tryz.zeroValue3
  t9 := Tryz.underlying9
  a9 := Tryz.isAgg9
  z9 := Tryz.sizeOf9
  v9 := Tryz.zeroValue9
  t37 := Tryz.underlying120
  a37 := Tryz.isAgg120
  z37 := Tryz.sizeOf120
  v37 := Tryz.zeroValue120
  t70 := Tryz.underlying123
  a70 := Tryz.isAgg123
  z70 := Tryz.sizeOf123
  v70 := Tryz.zeroValue123
  t72 := Tryz.underlying125
  a72 := Tryz.isAgg125
  z72 := Tryz.sizeOf125
  v72 := Tryz.zeroValue125
  t127 := Tryz.underlying150
  a127 := Tryz.isAgg150
  z127 := Tryz.sizeOf150
  v127 := Tryz.zeroValue150 }
theorem Tryz.Builder_Extra_169 : Builder.Extra Tryz.prog Tryz.lays169_ren := {
  sizeBuilder := by kernel_rfl
  liesBuilder := by kernel_rfl
  t5 := Tryz.underlying5
  a5 := Tryz.isAgg5
  z5 := Tryz.sizeOf5
  v5 := Tryz.zeroValue5
  infoByte := by kernel_rfl
  cellsByte := by kernel_rfl
  sizeByte := by kernel_rfl
  neB5 := by decide }
def Tryz.lays160_ren : Go.Shelf.Ren := ⟨fun | 160 => 135 | 232 => 155 | 231 => 154 | 227 => 156 | 234 => 158 | 233 => 157 | 236 => 160 | 235 => 159 | 228 => 167 | 271 => 169 | 151 => 168 | 197 => 127 | 120 => 173 | 152 => 172 | 260 => 144 | 137 => 180 | 119 => 181 | 224 => 147 | 225 => 146 | 217 => 145 | 266 => 163 | n => n, fun | 9 => 9 | 4 => 4 | 3 => 3 | 5 => 5 | 117 => 201 | 116 => 200 | 0 => 0 | 124 => 204 | 21 => 21 | 105 => 175 | 46 => 146 | 119 => 210 | 139 => 213 | 138 => 212 | n => n, fun | 3 => 2 | 4 => 3 | n => n⟩
theorem Tryz.lays160 : Go.Proofs.Lays.n160 Tryz.prog Tryz.lays160_ren := {
  mixed := by kernel_rfl
  f119 := Tryz.func181.trans (congrArg some (by kernel_rfl))
  f120 := Tryz.func173.trans (congrArg some (by kernel_rfl))
  f137 := Tryz.func180.trans (congrArg some (by kernel_rfl))
  f151 := Tryz.func168.trans (congrArg some (by kernel_rfl))
  f152 := Tryz.func172.trans (congrArg some (by kernel_rfl))
  f160 := Tryz.func135.trans (congrArg some (by kernel_rfl))
  f197 := Tryz.func127.trans (congrArg some (by kernel_rfl))
  f217 := Tryz.func145.trans (congrArg some (by kernel_rfl))
  f224 := Tryz.func147.trans (congrArg some (by kernel_rfl))
  f225 := Tryz.func146.trans (congrArg some (by kernel_rfl))
  f227 := Tryz.func156.trans (congrArg some (by kernel_rfl))
  f228 := Tryz.func167.trans (congrArg some (by kernel_rfl))
  f231 := Tryz.func154.trans (congrArg some (by kernel_rfl))
  f232 := Tryz.func155.trans (congrArg some (by kernel_rfl))
  f233 := Tryz.func157.trans (congrArg some (by kernel_rfl))
  f234 := Tryz.func158.trans (congrArg some (by kernel_rfl))
  f235 := Tryz.func159.trans (congrArg some (by kernel_rfl))
  f236 := Tryz.func160.trans (congrArg some (by kernel_rfl))
  f260 := Tryz.func144.trans (congrArg some (by kernel_rfl))
  f266 := Tryz.func163.trans (congrArg some (by kernel_rfl))
  f271 := Tryz.func169.trans (congrArg some (by kernel_rfl))
  t0 := Tryz.underlying0
  a0 := Tryz.isAgg0
  z0 := Tryz.sizeOf0
  v0 := Tryz.zeroValue0
  t3 := Tryz.underlying3
  a3 := Tryz.isAgg3
  z3 := Tryz.sizeOf3
  v3 := Tryz.zeroValue3
  t4 := Tryz.underlying4
  a4 := Tryz.isAgg4
  z4 := Tryz.sizeOf4
  v4 := Tryz.zeroValue4
  t5 := Tryz.underlying5
  a5 := Tryz.isAgg5
  z5 := Tryz.sizeOf5
  v5 := Tryz.zeroValue5
  t9 := Tryz.underlying9
  a9 := Tryz.isAgg9
  z9 := Tryz.sizeOf9
  v9 := Tryz.zeroValue9
  t21 := Tryz.underlying21
  a21 := Tryz.isAgg21
  z21 := Tryz.sizeOf21
  v21 := Tryz.zeroValue21
  t46 := Tryz.underlying146
  a46 := Tryz.isAgg146
  z46 := Tryz.sizeOf146
  v46 := Tryz.zeroValue146
  t105 := Tryz.underlying175
  a105 := Tryz.isAgg175
  z105 := Tryz.sizeOf175
  v105 := Tryz.zeroValue175
  t116 := Tryz.underlying200
  a116 := Tryz.isAgg200
  z116 := Tryz.sizeOf200
  t117 := Tryz.underlying201
  a117 := Tryz.isAgg201
  z117 := Tryz.sizeOf201
  v117 := Tryz.zeroValue201
  t119 := Tryz.underlying210
  a119 := Tryz.isAgg210
  z119 := Tryz.sizeOf210
  t124 := Tryz.underlying204
  a124 := Tryz.isAgg204
  z124 := Tryz.sizeOf204
  v124 := Tryz.zeroValue204
  t138 := Tryz.underlying212
  a138 := Tryz.isAgg212
  z138 := Tryz.sizeOf212
  v138 := Tryz.zeroValue212
  t139 := Tryz.underlying213
  a139 := Tryz.isAgg213
  z139 := Tryz.sizeOf213
  v139 := Tryz.zeroValue213
  g3 := by kernel_rfl
  g4 := by kernel_rfl }
open Go.RowKit in
/-- (*strings.Builder).Len: "Len returns the number of accumulated bytes; b.Len() == len(b.String()).": the world is as it was. (THE FORM '_f': 'Lib.IsBuilderF'.) (LAID: no walk: one application.) -/
theorem Tryz.Builder_Len_f (B b : Nat) (bs : List Value) (w : World) (h : Lib.IsBuilderF 125 5 B b bs w) :
    Calls Tryz.prog 73 #[.pointer (some ⟨b, 0, none⟩)] w fun e w' => e = .returned (.int .i64 bs.length) ∧ w' = w := Any.Builder_Len_f Tryz.lays170 B b bs w h
open Go.RowKit in
/-- (*strings.Builder).String: "String returns the accumulated string.": WHATEVER THE BUILDER HOLDS; THE FORM '_f': OF A BUILDER THAT MAY HAVE BEEN READ BEFORE; AND IT IS A BUILDER STILL, holding the same bytes: it can be written on. (LAID: no walk: one application.) -/
theorem Tryz.Builder_String_any_f (B b : Nat) (l : List UInt8) (w : World) (h : Lib.IsBuilderF 125 5 B b (Lib.byteCells l) w) (hBw : B ≤ w.heap.size) :
    Calls Tryz.prog 72 #[.pointer (some ⟨b, 0, none⟩)] w fun e w' => e = .returned (.string ⟨l.toArray⟩) ∧ (Lib.IsBuilderF 125 5 B b (Lib.byteCells l) w' ∧ Below B w w') := Any.Builder_String_any_f Tryz.lays169 Tryz.Builder_Extra_169 B b l w h hBw
def Tryz.laysC245_ren : Go.Shelf.Ren := ⟨fun | 245 => 171 | 279 => 176 | 280 => 177 | 281 => 178 | 282 => 179 | 316 => 182 | 171 => 184 | 205 => 183 | 243 => 185 | 246 => 186 | 283 => 130 | 284 => 131 | 285 => 132 | 286 => 133 | 129 => 125 | 317 => 149 | 318 => 150 | 319 => 151 | 320 => 152 | 337 => 165 | 338 => 166 | n => n, fun | 9 => 9 | 3 => 3 | 75 => 127 | 167 => 221 | 4 => 4 | 168 => 223 | 210 => 228 | 37 => 120 | 0 => 0 | 127 => 150 | 145 => 232 | 143 => 230 | 2 => 2 | 171 => 179 | 53 => 148 | 5 => 5 | 173 => 181 | 212 => 195 | 51 => 131 | 20 => 20 | 213 => 196 | 46 => 146 | 232 => 218 | 233 => 219 | 80 => 133 | n => n, fun | 15 => 6 | 16 => 7 | 17 => 1 | 18 => 4 | 19 => 5 | n => n⟩
theorem Tryz.laysC245 : Go.Proofs.LaysC.n245 Tryz.prog Tryz.laysC245_ren := {
  mixed := by kernel_rfl
  f129 := Tryz.func125.trans (congrArg some (by kernel_rfl))
  f171 := Tryz.func184.trans (congrArg some (by kernel_rfl))
  f205 := Tryz.func183.trans (congrArg some (by kernel_rfl))
  f243 := Tryz.func185.trans (congrArg some (by kernel_rfl))
  f245 := Tryz.func171.trans (congrArg some (by kernel_rfl))
  f246 := Tryz.func186.trans (congrArg some (by kernel_rfl))
  f279 := Tryz.func176.trans (congrArg some (by kernel_rfl))
  f280 := Tryz.func177.trans (congrArg some (by kernel_rfl))
  f281 := Tryz.func178.trans (congrArg some (by kernel_rfl))
  f282 := Tryz.func179.trans (congrArg some (by kernel_rfl))
  f283 := Tryz.func130.trans (congrArg some (by kernel_rfl))
  f284 := Tryz.func131.trans (congrArg some (by kernel_rfl))
  f285 := Tryz.func132.trans (congrArg some (by kernel_rfl))
  f286 := Tryz.func133.trans (congrArg some (by kernel_rfl))
  f316 := Tryz.func182.trans (congrArg some (by kernel_rfl))
  f317 := Tryz.func149.trans (congrArg some (by kernel_rfl))
  f318 := Tryz.func150.trans (congrArg some (by kernel_rfl))
  f319 := Tryz.func151.trans (congrArg some (by kernel_rfl))
  f320 := Tryz.func152.trans (congrArg some (by kernel_rfl))
  f337 := Tryz.func165.trans (congrArg some (by kernel_rfl))
  f338 := Tryz.func166.trans (congrArg some (by kernel_rfl))
  t0 := Tryz.underlying0
  a0 := Tryz.isAgg0
  z0 := Tryz.sizeOf0
  v0 := Tryz.zeroValue0
  t2 := Tryz.underlying2
  a2 := Tryz.isAgg2
  z2 := Tryz.sizeOf2
  v2 := Tryz.zeroValue2
  t3 := Tryz.underlying3
  a3 := Tryz.isAgg3
  z3 := Tryz.sizeOf3
  v3 := Tryz.zeroValue3
  t4 := Tryz.underlying4
  a4 := Tryz.isAgg4
  z4 := Tryz.sizeOf4
  v4 := Tryz.zeroValue4
  t5 := Tryz.underlying5
  a5 := Tryz.isAgg5
  z5 := Tryz.sizeOf5
  v5 := Tryz.zeroValue5
  t9 := Tryz.underlying9
  a9 := Tryz.isAgg9
  z9 := Tryz.sizeOf9
  v9 := Tryz.zeroValue9
  t20 := Tryz.underlying20
  a20 := Tryz.isAgg20
  z20 := Tryz.sizeOf20
  v20 := Tryz.zeroValue20
  t37 := Tryz.underlying120
  a37 := Tryz.isAgg120
  z37 := Tryz.sizeOf120
  v37 := Tryz.zeroValue120
  t46 := Tryz.underlying146
  a46 := Tryz.isAgg146
  z46 := Tryz.sizeOf146
  v46 := Tryz.zeroValue146
  t51 := Tryz.underlying131
  a51 := Tryz.isAgg131
  z51 := Tryz.sizeOf131
  v51 := Tryz.zeroValue131
  t53 := Tryz.underlying148
  a53 := Tryz.isAgg148
  z53 := Tryz.sizeOf148
  v53 := Tryz.zeroValue148
  t75 := Tryz.underlying127
  a75 := Tryz.isAgg127
  z75 := Tryz.sizeOf127
  v75 := Tryz.zeroValue127
  t127 := Tryz.underlying150
  a127 := Tryz.isAgg150
  z127 := Tryz.sizeOf150
  v127 := Tryz.zeroValue150
  t143 := Tryz.underlying230
  a143 := Tryz.isAgg230
  z143 := Tryz.sizeOf230
  v143 := Tryz.zeroValue230
  t145 := Tryz.underlying232
  a145 := Tryz.isAgg232
  z145 := Tryz.sizeOf232
  v145 := Tryz.zeroValue232
  t167 := Tryz.underlying221
  a167 := Tryz.isAgg221
  z167 := Tryz.sizeOf221
  v167 := Tryz.zeroValue221
  t168 := Tryz.underlying223
  a168 := Tryz.isAgg223
  z168 := Tryz.sizeOf223
  v168 := Tryz.zeroValue223
  t171 := Tryz.underlying179
  a171 := Tryz.isAgg179
  z171 := Tryz.sizeOf179
  v171 := Tryz.zeroValue179
  t173 := Tryz.underlying181
  a173 := Tryz.isAgg181
  z173 := Tryz.sizeOf181
  v173 := Tryz.zeroValue181
  t210 := Tryz.underlying228
  a210 := Tryz.isAgg228
  z210 := Tryz.sizeOf228
  v210 := Tryz.zeroValue228
  t212 := Tryz.underlying195
  a212 := Tryz.isAgg195
  z212 := Tryz.sizeOf195
  v212 := Tryz.zeroValue195
  t213 := Tryz.underlying196
  a213 := Tryz.isAgg196
  z213 := Tryz.sizeOf196
  t232 := Tryz.underlying218
  a232 := Tryz.isAgg218
  z232 := Tryz.sizeOf218
  v232 := Tryz.zeroValue218
  t233 := Tryz.underlying219
  a233 := Tryz.isAgg219
  z233 := Tryz.sizeOf219
  v233 := Tryz.zeroValue219
  g15 := by kernel_rfl
  g16 := by kernel_rfl
  g17 := by kernel_rfl
  g18 := by kernel_rfl
  g19 := by kernel_rfl
  t80 := Tryz.underlying133
  a80 := Tryz.isAgg133
  z80 := Tryz.sizeOf133
  v80 := Tryz.zeroValue133
  i0 := by kernel_rfl
  i2 := by kernel_rfl
  i3 := by kernel_rfl
  i4 := by kernel_rfl
  i5 := by kernel_rfl
  i9 := by kernel_rfl
  i20 := by kernel_rfl
  i37 := by kernel_rfl
  i46 := by kernel_rfl
  i51 := by kernel_rfl
  i53 := by kernel_rfl
  i75 := by kernel_rfl
  i80 := by kernel_rfl
  i127 := by kernel_rfl
  i143 := by kernel_rfl
  i145 := by kernel_rfl
  i167 := by kernel_rfl
  i168 := by kernel_rfl
  i171 := by kernel_rfl
  i173 := by kernel_rfl
  i210 := by kernel_rfl
  i212 := by kernel_rfl
  i232 := by kernel_rfl
  i233 := by kernel_rfl
  m15 := by kernel_rfl
  m16 := by kernel_rfl
  m17 := by kernel_rfl
  m18 := by kernel_rfl
  m19 := by kernel_rfl
  c0 := by kernel_rfl
  c2 := by kernel_rfl
  c3 := by kernel_rfl
  c4 := by kernel_rfl
  c5 := by kernel_rfl
  c9 := by kernel_rfl
  c20 := by kernel_rfl
  c37 := by kernel_rfl
  c46 := by kernel_rfl
  c51 := by kernel_rfl
  c53 := by kernel_rfl
  c75 := by kernel_rfl
  c80 := by kernel_rfl
  c127 := by kernel_rfl
  c143 := by kernel_rfl
  c145 := by kernel_rfl
  c167 := by kernel_rfl
  c168 := by kernel_rfl
  c171 := by kernel_rfl
  c173 := by kernel_rfl
  c210 := by kernel_rfl
  c212 := by kernel_rfl
  c213 := by kernel_rfl
  c232 := by kernel_rfl
  c233 := by kernel_rfl }
open Go.RowKit in
/-- strconv.toError, at the inner package's ErrSyntax: 'syntaxError(fn, s)' as an error: A *NumError IN A NEW BLOCK. (LAID: no walk: one application.) -/
theorem Tryz.strconv_toError_syntax (fn s : ByteArray) (base bits : Int) (ev : Value) (w : World) (hlim : s.size ≤ 281474976710656) (hv : w.cell? ⟨6, 0, none⟩ = some ev) (hev : ev = .nilIface ∨ ∃ te pe, ev = .iface te pe) :
    Calls Tryz.prog 171 #[.string fn, .string s, .int .i64 base, .int .i64 bits, .iface 221 (.int .i64 2)] w fun e w' => ∃ N, e = .returned (.iface 223 (.pointer (some ⟨N, 0, none⟩))) ∧ w.heap.size ≤ N ∧ w'.heap[N]? = some (.cells #[.string fn, .string s, ev] 228 (0, 0)) ∧ Below w.heap.size w w' := Any.strconv_toError_syntax Tryz.laysC245 fn s base bits ev w hlim hv hev
def Tryz.lays321_ren : Go.Shelf.Ren := ⟨fun | 321 => 174 | n => n, fun | 5 => 5 | n => n, fun | n => n⟩
theorem Tryz.lays321 : Go.Proofs.Lays.n321 Tryz.prog Tryz.lays321_ren := {
  mixed := by kernel_rfl
  f321 := Tryz.func174.trans (congrArg some (by kernel_rfl))
  t5 := Tryz.underlying5
  a5 := Tryz.isAgg5
  z5 := Tryz.sizeOf5
  v5 := Tryz.zeroValue5 }
open Go.RowKit in
/-- internal/strconv.lower: 'c | ('x' - 'X')': the bit 32 set. The world is as it was. (LAID: no walk: one application.) -/
theorem Tryz.internal_strconv_lower (c : Int) (w : World) :
    Calls Tryz.prog 174 #[.int .u8 c] w fun e w' => e = .returned (.int .u8 (bits .or .u8 c 32)) ∧ w' = w := Any.internal_strconv_lower Tryz.lays321 c w
def Tryz.lays145_ren : Go.Shelf.Ren := ⟨fun | 145 => 134 | 220 => 153 | 219 => 129 | 217 => 145 | 225 => 146 | 224 => 147 | 267 => 148 | 266 => 163 | 314 => 164 | n => n, fun | 9 => 9 | 4 => 4 | 59 => 183 | 3 => 3 | 5 => 5 | 46 => 146 | 146 => 214 | 51 => 131 | n => n, fun | 1 => 0 | n => n⟩
theorem Tryz.lays145 : Go.Proofs.Lays.n145 Tryz.prog Tryz.lays145_ren := {
  mixed := by kernel_rfl
  f145 := Tryz.func134.trans (congrArg some (by kernel_rfl))
  f217 := Tryz.func145.trans (congrArg some (by kernel_rfl))
  f219 := Tryz.func129.trans (congrArg some (by kernel_rfl))
  f220 := Tryz.func153.trans (congrArg some (by kernel_rfl))
  f224 := Tryz.func147.trans (congrArg some (by kernel_rfl))
  f225 := Tryz.func146.trans (congrArg some (by kernel_rfl))
  f266 := Tryz.func163.trans (congrArg some (by kernel_rfl))
  f267 := Tryz.func148.trans (congrArg some (by kernel_rfl))
  f314 := Tryz.func164.trans (congrArg some (by kernel_rfl))
  t3 := Tryz.underlying3
  a3 := Tryz.isAgg3
  z3 := Tryz.sizeOf3
  v3 := Tryz.zeroValue3
  t4 := Tryz.underlying4
  a4 := Tryz.isAgg4
  z4 := Tryz.sizeOf4
  v4 := Tryz.zeroValue4
  t5 := Tryz.underlying5
  a5 := Tryz.isAgg5
  z5 := Tryz.sizeOf5
  v5 := Tryz.zeroValue5
  t9 := Tryz.underlying9
  a9 := Tryz.isAgg9
  z9 := Tryz.sizeOf9
  v9 := Tryz.zeroValue9
  t46 := Tryz.underlying146
  a46 := Tryz.isAgg146
  z46 := Tryz.sizeOf146
  v46 := Tryz.zeroValue146
  t51 := Tryz.underlying131
  a51 := Tryz.isAgg131
  z51 := Tryz.sizeOf131
  v51 := Tryz.zeroValue131
  t59 := Tryz.underlying183
  a59 := Tryz.isAgg183
  z59 := Tryz.sizeOf183
  v59 := Tryz.zeroValue183
  t146 := Tryz.underlying214
  a146 := Tryz.isAgg214
  z146 := Tryz.sizeOf214
  v146 := Tryz.zeroValue214
  g1 := by kernel_rfl }
open Go.RowKit Go.Lib in
/-- strings.Cut: "Cut slices s around the first instance of sep, returning the text before and after sep. The found result reports whether sep appears in s. If sep does not appear in s, cut returns s, "", false.": IT RETURNS 'Lib.cut s sep'; the world is as it was but for the count of draws. (LAID: no walk: one application.) -/
theorem Tryz.strings_Cut (s sep : ByteArray) (m : Int) (w : World) (hs : s.size < 4294967281) (hm : w.cell? ⟨0, 0, none⟩ = some (.int .i64 m)) :
    Calls Tryz.prog 134 #[.string s, .string sep] w fun e w' => e = .returned (.tuple #[.string ⟨(Lib.cut s.data.toList sep.data.toList).1.toArray⟩, .string ⟨(Lib.cut s.data.toList sep.data.toList).2.1.toArray⟩, .bool (Lib.cut s.data.toList sep.data.toList).2.2]) ∧ ∃ n, w' = w.drewN n := Any.strings_Cut Tryz.lays145 s sep m w hs hm
def Tryz.lays99_ren : Go.Shelf.Ren := ⟨fun | 99 => 99 | 206 => 112 | n => n, fun | 9 => 9 | 4 => 4 | 3 => 3 | n => n, fun | n => n⟩
theorem Tryz.lays99 : Go.Proofs.Lays.n99 Tryz.prog Tryz.lays99_ren := {
  mixed := by kernel_rfl
  f99 := Tryz.func99.trans (congrArg some (by kernel_rfl))
  f206 := Tryz.func112.trans (congrArg some (by kernel_rfl))
  t3 := Tryz.underlying3
  a3 := Tryz.isAgg3
  z3 := Tryz.sizeOf3
  v3 := Tryz.zeroValue3
  t4 := Tryz.underlying4
  a4 := Tryz.isAgg4
  z4 := Tryz.sizeOf4
  v4 := Tryz.zeroValue4
  t9 := Tryz.underlying9
  a9 := Tryz.isAgg9
  z9 := Tryz.sizeOf9
  v9 := Tryz.zeroValue9 }
open Go.RowKit Go.Lib in
/-- strings.HasPrefix: "HasPrefix reports whether the string s begins with prefix.": IT RETURNS 'Lib.hasPrefix s prefix'; the world is as it was. (LAID: no walk: one application.) -/
theorem Tryz.strings_HasPrefix (s p : ByteArray) (w : World) :
    Calls Tryz.prog 99 #[.string s, .string p] w fun e w' => e = .returned (.bool (Lib.hasPrefix s.data.toList p.data.toList)) ∧ w' = w := Any.strings_HasPrefix Tryz.lays99 s p w
def Tryz.lays146_ren : Go.Shelf.Ren := ⟨fun | 146 => 67 | 221 => 91 | 268 => 105 | 138 => 106 | 143 => 107 | 195 => 126 | 197 => 127 | 218 => 128 | 219 => 129 | 260 => 144 | 217 => 145 | 225 => 146 | 224 => 147 | 267 => 148 | 266 => 163 | 314 => 164 | n => n, fun | 9 => 9 | 31 => 22 | 3 => 3 | 4 => 4 | 0 => 0 | 105 => 175 | 21 => 21 | 5 => 5 | 46 => 146 | 119 => 210 | 139 => 213 | 138 => 212 | 146 => 214 | 51 => 131 | n => n, fun | 1 => 0 | 3 => 2 | 4 => 3 | n => n⟩
theorem Tryz.lays146 : Go.Proofs.Lays.n146 Tryz.prog Tryz.lays146_ren := {
  mixed := by kernel_rfl
  f138 := Tryz.func106.trans (congrArg some (by kernel_rfl))
  f143 := Tryz.func107.trans (congrArg some (by kernel_rfl))
  f146 := Tryz.func67.trans (congrArg some (by kernel_rfl))
  f195 := Tryz.func126.trans (congrArg some (by kernel_rfl))
  f197 := Tryz.func127.trans (congrArg some (by kernel_rfl))
  f217 := Tryz.func145.trans (congrArg some (by kernel_rfl))
  f218 := Tryz.func128.trans (congrArg some (by kernel_rfl))
  f219 := Tryz.func129.trans (congrArg some (by kernel_rfl))
  f221 := Tryz.func91.trans (congrArg some (by kernel_rfl))
  f224 := Tryz.func147.trans (congrArg some (by kernel_rfl))
  f225 := Tryz.func146.trans (congrArg some (by kernel_rfl))
  f260 := Tryz.func144.trans (congrArg some (by kernel_rfl))
  f266 := Tryz.func163.trans (congrArg some (by kernel_rfl))
  f267 := Tryz.func148.trans (congrArg some (by kernel_rfl))
  f268 := Tryz.func105.trans (congrArg some (by kernel_rfl))
  f314 := Tryz.func164.trans (congrArg some (by kernel_rfl))
  t0 := Tryz.underlying0
  a0 := Tryz.isAgg0
  z0 := Tryz.sizeOf0
  v0 := Tryz.zeroValue0
  t3 := Tryz.underlying3
  a3 := Tryz.isAgg3
  z3 := Tryz.sizeOf3
  v3 := Tryz.zeroValue3
  t4 := Tryz.underlying4
  a4 := Tryz.isAgg4
  z4 := Tryz.sizeOf4
  v4 := Tryz.zeroValue4
  t5 := Tryz.underlying5
  a5 := Tryz.isAgg5
  z5 := Tryz.sizeOf5
  v5 := Tryz.zeroValue5
  t9 := Tryz.underlying9
  a9 := Tryz.isAgg9
  z9 := Tryz.sizeOf9
  v9 := Tryz.zeroValue9
  t21 := Tryz.underlying21
  a21 := Tryz.isAgg21
  z21 := Tryz.sizeOf21
  v21 := Tryz.zeroValue21
  t31 := Tryz.underlying22
  a31 := Tryz.isAgg22
  z31 := Tryz.sizeOf22
  v31 := Tryz.zeroValue22
  t46 := Tryz.underlying146
  a46 := Tryz.isAgg146
  z46 := Tryz.sizeOf146
  v46 := Tryz.zeroValue146
  t51 := Tryz.underlying131
  a51 := Tryz.isAgg131
  z51 := Tryz.sizeOf131
  v51 := Tryz.zeroValue131
  t105 := Tryz.underlying175
  a105 := Tryz.isAgg175
  z105 := Tryz.sizeOf175
  v105 := Tryz.zeroValue175
  t119 := Tryz.underlying210
  a119 := Tryz.isAgg210
  z119 := Tryz.sizeOf210
  t138 := Tryz.underlying212
  a138 := Tryz.isAgg212
  z138 := Tryz.sizeOf212
  v138 := Tryz.zeroValue212
  t139 := Tryz.underlying213
  a139 := Tryz.isAgg213
  z139 := Tryz.sizeOf213
  v139 := Tryz.zeroValue213
  t146 := Tryz.underlying214
  a146 := Tryz.isAgg214
  z146 := Tryz.sizeOf214
  v146 := Tryz.zeroValue214
  g1 := by kernel_rfl
  g3 := by kernel_rfl
  g4 := by kernel_rfl }
open Go.RowKit Go.Lib in
/-- strings.Split. (LAID: no walk: one application.) -/
theorem Tryz.strings_Split (s sep : ByteArray) (m : Int) (w : World) (hs : s.size < 4294967281) (hm : w.cell? ⟨0, 0, none⟩ = some (.int .i64 m)) (h1 : 1 ≤ sep.size) :
    Calls Tryz.prog 67 #[.string s, .string sep] w fun e w' =>
      e = .returned (.slice (some ⟨w.heap.size, 0, none⟩) (Lib.countB s sep + 1) (Lib.countB s sep + 1)) ∧ w' = w.alloc (.cells ((Lib.splitB sep 0 (Lib.countB s sep) s).map Value.string).toArray 9) := Any.strings_Split Tryz.lays146 (by kernel_rfl) s sep m w hs hm h1
def Tryz.cloneM_ren : Go.Shelf.Ren := ⟨fun | 5 => 32 | 7 => 54 | n => n, fun | 23 => 71 | 25 => 9 | 3 => 73 | 4 => 4 | 20 => 20 | n => n, fun | n => n⟩
theorem Tryz.cloneM : Go.Proofs.SlLaysW.n5 Tryz.prog Tryz.cloneM_ren := {
  mixed := by kernel_rfl
  f5 := ⟨Tryz.f32.name, by decide, Tryz.func32.trans (congrArg some (by kernel_rfl))⟩
  f7 := Tryz.func54.trans (congrArg some (by kernel_rfl))
  t4 := Tryz.underlying4
  a4 := Tryz.isAgg4
  z4 := Tryz.sizeOf4
  v4 := Tryz.zeroValue4
  t20 := Tryz.underlying20
  a20 := Tryz.isAgg20
  z20 := Tryz.sizeOf20
  v20 := Tryz.zeroValue20
  t23 := Tryz.underlying71
  a23 := Tryz.isAgg71
  z23 := Tryz.sizeOf71
  v23 := Tryz.zeroValue71 }
end Go.Proofs
/- The library's calls on a tree's maps. -/
namespace Go.Proofs.YtghbaehbgefpaaaGreatDoor.Fr
open Go.RowKit Go.Proofs.YtghbaehbgefpaaaGreatDoor.F Go.Sort Go.Shelf
set_option linter.unusedVariables false
set_option linter.unusedSimpArgs false
/-- maps.Clone: another map with the same entries. -/
theorem clone_call {H : Type} (k : TypeId) (R : Value → Option (DataW H × List MemPlace)) (b n : Nat) (D : DataW H) (w : World) (hown : w.ownsMap Tryz.prog k R b n D) :
    Calls Tryz.prog 32 #[.map (some b)] w fun e w' => e = .returned (.map (some w.heap.size)) ∧ w'.ownsMap Tryz.prog k R w.heap.size n D ∧ Below w.heap.size w w' ∧ w'.heap.size = w.heap.size + 1 := by
  have hown' := hown
  obtain ⟨es, clock, hb, F, hs, hD⟩ := hown
  refine (AnyW.maps_Clone Tryz.cloneM b es clock w hb).mono fun e w' ⟨he, hw⟩ => ?_
  subst hw
  exact ⟨he, ⟨es, clock, World.alloc_heap_new w _, F, hs, hD⟩, (Below.refl _ w).alloc (Nat.le_refl _) _, World.size_alloc _ _⟩
theorem prefix_call (s p : ByteArray) (w : World) : Calls Tryz.prog 99 #[.string s, .string p] w fun e w' => e = .returned (.bool (Lib.hasPrefix s.data.toList p.data.toList)) ∧ w = w' :=
  (Tryz.strings_HasPrefix s p w).mono fun e w' ⟨h1, h2⟩ => ⟨h1, h2.symm⟩
end Go.Proofs.YtghbaehbgefpaaaGreatDoor.Fr
/- A map of files: which row of files it holds. -/
namespace Go.Proofs.YtghbaehbgefpaaaGreatDoor.Fr
open Go.RowKit Go.Proofs.YtghbaehbgefpaaaGreatDoor.F Go.Maps Go.ChangeMaps Go.WideMaps
set_option linter.unusedVariables false
set_option linter.unusedSimpArgs false
/-- Which blocks are files, and what they hold: these blocks are never written. -/
abbrev Phi := Nat → Option (ByteArray × Int)
def fagg (f : ByteArray × Int) : DW := .agg [.lit (.string f.1.data.toList), .lit (.int .i64 f.2)]
/-- How a pointer to a file reads. -/
def elemR (φ : Phi) : Value → Option (DW × List MemPlace)
  | .pointer none => some (.lit (.bool false), [])
  | .pointer (some ⟨q, 0, none⟩) => (φ q).map fun f => (fagg f, [])
  | _ => none
theorem elemR_nil (φ : Phi) : elemR φ (.pointer none) = some (.lit (.bool false), []) := rfl
theorem elemR_mk {φ : Phi} {q : Nat} {f : ByteArray × Int} (h : φ q = some f) : elemR φ (.pointer (some ⟨q, 0, none⟩)) = some (fagg f, []) := by
  show (φ q).map _ = _
  rw [h]
  rfl
theorem elemR_inv {φ : Phi} {v : Value} {y : DW × List MemPlace} (h : elemR φ v = some y) : (v = .pointer none ∧ y = (.lit (.bool false), [])) ∨ ∃ q f, v = .pointer (some ⟨q, 0, none⟩) ∧ φ q = some f ∧ y = (fagg f, []) := by
  unfold elemR at h
  split at h
  · exact .inl ⟨rfl, (Option.some.inj h).symm⟩
  · next q =>
    cases hq : φ q with
    | none => rw [hq] at h; cases h
    | some f =>
      rw [hq] at h
      exact .inr ⟨q, f, rfl, hq, (Option.some.inj h).symm⟩
  · cases h
theorem elemR_ext {φ φ' : Phi} (he : ∀ q f, φ q = some f → φ' q = some f) {v : Value} {y : DW × List MemPlace} (h : elemR φ v = some y) : elemR φ' v = some y := by
  rcases elemR_inv h with ⟨rfl, rfl⟩ | ⟨q, f, rfl, hq, rfl⟩
  · rfl
  · exact elemR_mk (he q f hq)
theorem fagg_inj {f g : ByteArray × Int} (h : fagg f = fagg g) : f = g := by
  obtain ⟨⟨⟨a⟩⟩, x⟩ := f
  obtain ⟨⟨⟨b⟩⟩, y⟩ := g
  simp [fagg] at h
  obtain ⟨rfl, rfl⟩ := h
  rfl
theorem fagg_fval (f : Fl) : fagg (f.f1, f.f2) = fval f := rfl
/-- The files are there. -/
def FilesOK (w : World) (φ : Phi) : Prop := ∀ q f, φ q = some f → w.heap[q]? = some (.cells #[.string f.1, .int .i64 f.2] 110 (0, 0))
theorem FilesOK.lt {w : World} {φ : Phi} (h : FilesOK w φ) {q : Nat} (hq : φ q ≠ none) : q < w.heap.size := by
  cases e : φ q with
  | none => exact absurd e hq
  | some f => exact (Array.getElem?_eq_some_iff.1 (h q f e)).1
theorem FilesOK.chg {w w' : World} {φ : Phi} {S : Nat → Prop} (h : FilesOK w φ) (hc : Chg S w w') (hs : ∀ q, φ q ≠ none → ¬ S q) : FilesOK w' φ :=
  fun q f e => (hc.block q (h.lt (by rw [e]; simp)) (hs q (by rw [e]; simp))).trans (h q f e)
theorem FilesOK.below {w w' : World} {φ : Phi} (h : FilesOK w φ) (hb : Below w.heap.size w w') : FilesOK w' φ := h.chg (Chg.of_below hb fun _ => False) fun _ _ e => e
theorem FilesOK.cell0 {w : World} {φ : Phi} (h : FilesOK w φ) {q : Nat} {f : ByteArray × Int} (e : φ q = some f) : w.cell? ⟨q, 0, none⟩ = some (.string f.1) := by
  simp [World.cell?, h q f e]
/-- φ with one file more. -/
def Phi.add (φ : Phi) (q : Nat) (f : ByteArray × Int) : Phi := fun k => if k = q then some f else φ k
/-- φ' has φ's files, and new ones. -/
structure Ext (w : World) (φ φ' : Phi) : Prop where
  keeps : ∀ q f, φ q = some f → φ' q = some f
  new : ∀ q, φ' q ≠ none → φ q ≠ none ∨ w.heap.size ≤ q
theorem Ext.refl (w : World) (φ : Phi) : Ext w φ φ := ⟨fun _ _ h => h, fun _ h => .inl h⟩
theorem Ext.trans {w w' : World} {φ φ' φ'' : Phi} (h : Ext w φ φ') (k : Ext w' φ' φ'') (hs : w.heap.size ≤ w'.heap.size) : Ext w φ φ'' :=
  ⟨fun q f e => k.keeps q f (h.keeps q f e), fun q e => (k.new q e).elim (fun e => h.new q e) fun e => .inr (Nat.le_trans hs e)⟩
theorem Ext.add (w : World) (φ : Phi) (f : ByteArray × Int) (hq : ∀ k, φ k ≠ none → k < w.heap.size) {q : Nat} (h : w.heap.size ≤ q) : Ext w φ (φ.add q f) := by
  refine ⟨fun k g e => ?_, fun k e => ?_⟩
  · have := hq k (by rw [e]; simp)
    unfold Phi.add
    rw [if_neg (by omega)]
    exact e
  · unfold Phi.add at e
    split at e
    next h => exact .inr (by omega)
    next h => exact .inl e
theorem lawK : Keyed Tryz.prog 9 := string_keyed Tryz.underlying9
theorem zeroP (w : World) : (zeroValue 73).run Tryz.prog w = .ok (.pointer none) w := by kernel_rfl
/-- Block b is a map that holds just these files. -/
def Img (w : World) (φ : Phi) (b : Nat) (L : List Fl) : Prop := w.ownsMap Tryz.prog 9 (elemR φ) b L.length (fdat L)
section
variable {w w' : World} {φ φ' : Phi} {b : Nat} {L : List Fl}
theorem owns_norm {n : Nat} {D : DW} (h : w.ownsMap Tryz.prog 9 (elemR φ) b n D) : w.ownsMap Tryz.prog 9 (elemR φ) b (Maps.size D) D := by
  obtain ⟨es, clock, hb, F, hs, rfl⟩ := h
  refine ⟨es, clock, hb, F, ?_, rfl⟩
  show es.size ≤ ((es.toList.map (WideElems.rg Tryz.prog 9 (elemR φ))).foldr DataW.insert []).length
  rw [length_sorted]
  simp
theorem Img.mk {n : Nat} (h : w.ownsMap Tryz.prog 9 (elemR φ) b n (fdat L)) : Img w φ b L := by
  have := owns_norm h
  rw [fdat_size] at this
  exact this
theorem Img.lt (h : Img w φ b L) : b < w.heap.size := World.ownsMap.lt h
theorem Img.block (h : Img w φ b L) (hb : w'.heap[b]? = w.heap[b]?) : Img w' φ b L := by
  obtain ⟨es, clock, h1, h2⟩ := h
  exact ⟨es, clock, hb.trans h1, h2⟩
theorem Img.chg {S : Nat → Prop} (h : Img w φ b L) (hc : Chg S w w') (hs : ¬ S b) : Img w' φ b L := h.block (hc.block b h.lt hs)
theorem Img.below (h : Img w φ b L) (hb : Below w.heap.size w w') : Img w' φ b L := h.block (hb.block b h.lt)
theorem Img.ext (h : Img w φ b L) (he : ∀ q f, φ q = some f → φ' q = some f) : Img w φ' b L := by
  obtain ⟨es, clock, h1, F, h2, h3⟩ := h
  obtain ⟨F', hmap, _⟩ := F.stay (R' := elemR φ') (fun x _ z hz => elemR_ext he hz)
  exact ⟨es, clock, h1, F', h2, by rw [hmap]; exact h3⟩
theorem Img.made (w : World) (φ : Phi) : Img (w.alloc (.map #[] 0)) φ w.heap.size [] := World.ownsMap_made _ _ _ _
theorem Img.look {p : ByteArray} (h : Img w φ b L) (hp : p.size ≤ 100000) {f : Fl} (hf : findF L p = some f) :
    ∃ q, (Instr.lookup 71 (.map (some b)) (.string p) false).run Tryz.prog w = .ok (.pointer (some ⟨q, 0, none⟩)) w ∧ φ q = some (f.f1, f.f2) := by
  obtain ⟨v, ps, hrun, hv⟩ := World.ownsMap.lookup h lawK Tryz.underlying71 (zeroP w) (elemR_nil φ) (keyOf_string_mk Tryz.underlying9 (Nat.le_trans hp (by decide) : p.size ≤ maxLen))
  rw [fdat_find, hf] at hv
  rcases elemR_inv hv with ⟨_, e⟩ | ⟨q, g, rfl, hq, e⟩
  · cases e
  · have := fagg_inj (f := (f.f1, f.f2)) (g := g) (congrArg Prod.fst e)
    exact ⟨q, hrun, by rw [hq, this]⟩
theorem Img.look_none {p : ByteArray} (h : Img w φ b L) (hp : p.size ≤ 100000) (hf : findF L p = none) :
    (Instr.lookup 71 (.map (some b)) (.string p) false).run Tryz.prog w = .ok (.pointer none) w := by
  obtain ⟨v, ps, hrun, hv⟩ := World.ownsMap.lookup h lawK Tryz.underlying71 (zeroP w) (elemR_nil φ) (keyOf_string_mk Tryz.underlying9 (Nat.le_trans hp (by decide) : p.size ≤ maxLen))
  rw [fdat_find, hf] at hv
  rcases elemR_inv hv with ⟨rfl, e⟩ | ⟨q, g, rfl, hq, e⟩
  · exact hrun
  · cases e
theorem Img.len (h : Img w φ b L) (ty : TypeId) : (Builtin.len_ #[71] ty #[.map (some b)]).run Tryz.prog w = .ok (.int .i64 L.length) w := by
  have := World.ownsMap.len h Tryz.underlying71 ty
  rw [fdat_size] at this
  exact this
theorem Img.store (h : Img w φ b L) (hl : L.length ≤ 1000000) {q : Nat} {f : Fl} (hq : φ q = some (f.f1, f.f2)) (hp : f.f0.size ≤ 100000) :
    ∃ w', (Instr.mapUpdate 71 (.map (some b)) (.string f.f0) (.pointer (some ⟨q, 0, none⟩))).run Tryz.prog w = .ok () w' ∧ Img w' φ b (putF L f) ∧ w.mapTurned w' b := by
  obtain ⟨w', h1, h2, h3⟩ := World.ownsMap.store h lawK Tryz.underlying71 (Nat.lt_of_le_of_lt hl (by decide)) (keyOf_string_mk Tryz.underlying9 (Nat.le_trans hp (by decide) : f.f0.size ≤ maxLen)) (elemR_mk hq)
  rw [fagg_fval, fdat_put] at h2
  exact ⟨w', h1, Img.mk h2, h3⟩
theorem Img.drop (h : Img w φ b L) {p : ByteArray} (hp : p.size ≤ 100000) (ty : TypeId) :
    ∃ w', (Builtin.delete_ #[71, 9] ty #[.map (some b), .string p]).run Tryz.prog w = .ok (.tuple #[]) w' ∧ Img w' φ b (dropF L p) ∧ w.mapTurned w' b := by
  obtain ⟨w', h1, h2, h3⟩ := World.ownsMap.drop h lawK Tryz.underlying71 (keyOf_string_mk Tryz.underlying9 (Nat.le_trans hp (by decide) : p.size ≤ maxLen)) ty
  rw [fdat_del] at h2
  exact ⟨w', h1, Img.mk h2, h3⟩
end
theorem turned_chg {w w' : World} {b : Nat} (h : w.mapTurned w' b) : Chg (fun k => k = b) w w' :=
  (Chg.refl _ w).grown h.grown (fun k e _ => (Option.some.inj e).symm)
section
variable {ops : Array Oper} {rest : List Oper} {o : Oper} {a : Act} {Q : Exit → Act → World → Prop} {φ : Phi} {L : List Fl}
/-- A store into a map of files, at the operation. -/
theorem wpList_store_img (w : World) (hg : o.guard = none) (m x v : Operand) (hop : o.op = Op.mapUpdate 71 m x v) (b q : Nat) (f : Fl) (hm : a.eval m = .map (some b)) (h : Img w φ b L) (hl : L.length ≤ 1000000) (hx : a.eval x = .string f.f0) (hv : a.eval v = .pointer (some ⟨q, 0, none⟩))
    (hq : φ q = some (f.f1, f.f2)) (hp : f.f0.size ≤ 100000) (hK : ∀ w', Img w' φ b (putF L f) → Chg (fun k => k = b) w w' → w'.heap.size = w.heap.size → wpList Tryz.prog ops Q rest (a.put o.dst undef) w') : wpList Tryz.prog ops Q (o :: rest) a w := by
  refine wpList_plain hg fun K' hK' => ?_
  obtain ⟨w', hrun, h1, h2⟩ := h.store hl hq hp
  unfold Oper.wp
  simp [execOp, hop, hm, hx, hv, hrun, Result.andThen]
  refine hK' _ _ (hK w' h1 (turned_chg h2) ?_)
  obtain ⟨es, clock, es', clock', hb, rfl⟩ := h2
  simp [ChangeMaps.setBlock]
/-- A look-up of a file that is not there. -/
theorem wpList_look_none (w : World) (hg : o.guard = none) (m x : Operand) (hop : o.op = Op.lookup 71 m x false) (b : Nat) (p : ByteArray) (hm : a.eval m = .map (some b)) (h : Img w φ b L) (hx : a.eval x = .string p) (hp : p.size ≤ 100000) (hf : findF L p = none)
    (hK : wpList Tryz.prog ops Q rest (a.put o.dst (.pointer none)) w) : wpList Tryz.prog ops Q (o :: rest) a w := by
  refine wpList_plain hg fun K' hK' => ?_
  have hrun := h.look_none hp hf
  unfold Oper.wp
  simp [execOp, hop, hm, hx, hrun, Result.andThen]
  exact hK' _ _ hK
/-- A look-up of a file that is there. -/
theorem wpList_look_some (w : World) (hg : o.guard = none) (m x : Operand) (hop : o.op = Op.lookup 71 m x false) (b : Nat) (p : ByteArray) (hm : a.eval m = .map (some b)) (h : Img w φ b L) (hx : a.eval x = .string p) (hp : p.size ≤ 100000) (f : Fl) (hf : findF L p = some f)
    (hK : ∀ q, φ q = some (f.f1, f.f2) → wpList Tryz.prog ops Q rest (a.put o.dst (.pointer (some ⟨q, 0, none⟩))) w) : wpList Tryz.prog ops Q (o :: rest) a w := by
  refine wpList_plain hg fun K' hK' => ?_
  obtain ⟨q, hrun, hq⟩ := h.look hp hf
  unfold Oper.wp
  simp [execOp, hop, hm, hx, hrun, Result.andThen]
  exact hK' _ _ (hK q hq)
/-- delete, at the operation. -/
theorem wpList_delete_img (w : World) (hg : o.guard = none) (m x : Operand) (hop : o.op = Op.call { callee := Callee.builtin Builtin.delete, args := #[m, x], argTypes := #[71, 9] }) (b : Nat) (p : ByteArray) (hm : a.eval m = .map (some b)) (h : Img w φ b L) (hx : a.eval x = .string p) (hp : p.size ≤ 100000)
    (hK : ∀ w', Img w' φ b (dropF L p) → Chg (fun k => k = b) w w' → w'.heap.size = w.heap.size → wpList Tryz.prog ops Q rest (a.put o.dst (.tuple #[])) w') : wpList Tryz.prog ops Q (o :: rest) a w := by
  refine wpList_plain hg fun K' hK' => ?_
  obtain ⟨w', hrun, h1, h2⟩ := h.drop hp o.type
  unfold Oper.wp
  simp [execOp, hop, resolve, invoke, builtin, hm, hx, hrun, Result.andThen]
  refine hK' _ _ (hK w' h1 (turned_chg h2) ?_)
  obtain ⟨es, clock, es', clock', hb, rfl⟩ := h2
  simp [ChangeMaps.setBlock]
def ptrV : Option Nat → Value
  | none => .pointer none
  | some q => .pointer (some ⟨q, 0, none⟩)
/-- The step of a range over a map of files. -/
theorem wpList_next_img (w : World) (hg : o.guard = none) (it : Operand) (hop : o.op = Op.next it false) (b r n : Nat) (left : Lit → Bool) (cnt : Nat) (hit : a.eval it = .pointer (some ⟨r, 0, none⟩)) (h : w.ranges Tryz.prog 9 (elemR φ) b r n (fdat L) left cnt)
    (hDone : cnt = 0 → (∀ kl, left kl = false) → wpList Tryz.prog ops Q rest (a.put o.dst (.tuple #[.bool false])) w)
    (hMore : ∀ (f : Fl) (q : Nat) (w' : World) (cnt' : Nat), findF L f.f0 = some f → left (.string f.f0.data.toList) = true → φ q = some (f.f1, f.f2) → w'.ranges Tryz.prog 9 (elemR φ) b r n (fdat L) (fun z => left z && !z.sameKey (.string f.f0.data.toList)) cnt' → cnt' < cnt →
      w.grownBy w' (some r) → w'.heap.size = w.heap.size → (Instr.entry (.pointer (some ⟨r, 0, none⟩))).run Tryz.prog w' = .ok (.tuple #[.string f.f0, .pointer (some ⟨q, 0, none⟩)]) w' → wpList Tryz.prog ops Q rest (a.put o.dst (.tuple #[.bool true, .string f.f0, .pointer (some ⟨q, 0, none⟩)])) w') :
    wpList Tryz.prog ops Q (o :: rest) a w := by
  refine wpList_next_ranges w hg it hop 9 lawK (elemR φ) encStr ptrV (fun key kl hk => by obtain ⟨x, hx, _⟩ := Maps.keyOf_str Tryz.underlying9 hk; exact ⟨x, hx⟩) (fun v y hv => ?_) b r n (fdat L) left cnt hit h hDone ?_
  · rcases elemR_inv hv with ⟨rfl, _⟩ | ⟨q, g, rfl, _, _⟩
    · exact ⟨none, rfl⟩
    · exact ⟨some q, rfl⟩
  · intro x c kl y w' cnt' hkey hlk hv hat hrg hlt hg2 hs hen
    obtain ⟨x', ex, rfl, _⟩ := Maps.keyOf_str Tryz.underlying9 hkey
    obtain rfl : x = x' := encStr_inj ex
    have h1 := hat (.lit (.bool false))
    have h2 := hat (.lit (.bool true))
    have e1 : (Lit.string x) = .string (⟨x.toArray⟩ : ByteArray).data.toList := rfl
    rw [e1, fdat_find] at h1 h2
    cases hf : findF L ⟨x.toArray⟩ with
    | none =>
      rw [hf] at h1 h2
      rw [← h2] at h1
      exact absurd h1 (by simp)
    | some f =>
      rw [hf] at h1
      have hx : f.f0.data.toList = x := by
        have := List.find?_some hf
        exact beq_iff_eq.1 this
      have hfe : f.f0 = ⟨x.toArray⟩ := by
        rw [← hx]
      rcases elemR_inv hv with ⟨_, e⟩ | ⟨q, g, hc, hq, e⟩
      · rw [e] at h1
        cases h1
      · have hc' : c = some q := by
          cases c with
          | none => cases hc
          | some k => simp [ptrV] at hc; rw [hc]
        subst hc'
        rw [e] at h1
        have hfg : (f.f1, f.f2) = g := fagg_inj h1
        have he : encStr x = .string f.f0 := by rw [hfe]
        rw [he] at hen ⊢
        exact hMore f q w' cnt' (by rw [hfe]; exact hf) (by rw [hx]; exact hlk) (by rw [hq, hfg]) (by rw [hx]; exact hrg) hlt hg2 hs hen
end
end Go.Proofs.YtghbaehbgefpaaaGreatDoor.Fr
/- A change is done. -/
namespace Go.Proofs.YtghbaehbgefpaaaGreatDoor.Fr
open Go.RowKit Go.Proofs.YtghbaehbgefpaaaGreatDoor.F Go.Maps
set_option linter.unusedVariables false
set_option linter.unusedSimpArgs false
/-- How a change is handed on: its kinds are counted from 0. -/
def cgV (c : Cg) : Value := .agg #[.int .i64 (c.f0 - 1), .string c.f1, .string c.f2, .int .i64 c.f3]
/-- How do ends. -/
def DoEnd (φ : Phi) (b : Nat) (L' : List Fl) (w : World) (e : Ending) (w' : World) : Prop :=
  e = .returned (.tuple #[]) ∧ ∃ φ', Ext w φ φ' ∧ FilesOK w' φ' ∧ Img w' φ' b L' ∧ Chg (fun k => k = b) w w'
theorem newBelow2 (w : World) (o o2 : Obj) : Below w.heap.size w ((w.alloc o).alloc o2) := ((Below.refl _ _).alloc (Nat.le_refl _) _).alloc (by rw [World.size_alloc]; omega) _
theorem new2 (w : World) (o : Obj) (o2 : Obj) : ((w.alloc o).alloc o2).heap[w.heap.size + 1]? = some o2 := by
  have := World.alloc_heap_new (w.alloc o) o2
  rwa [World.size_alloc] at this
theorem newBelow (w : World) (o : Obj) : Below w.heap.size w (w.alloc o) := (Below.refl _ _).alloc (Nat.le_refl _) _
/-- A new file's block beside the others. -/
theorem files_add {w W : World} {φ : Phi} {f : ByteArray × Int} {q : Nat} (hF : FilesOK w φ) (hb : Below w.heap.size w W) (hq : W.heap[q]? = some (.cells #[.string f.1, .int .i64 f.2] 110 (0, 0))) (hn : w.heap.size ≤ q) : FilesOK W (φ.add q f) := by
  intro k g e
  unfold Phi.add at e
  split at e
  next h =>
    subst h
    obtain rfl := Option.some.inj e
    exact hq
  next h => exact (hF.below hb) k g e
theorem add_self (φ : Phi) (q : Nat) (f : ByteArray × Int) : φ.add q f q = some f := by simp [Phi.add]
theorem ext_add {w : World} {φ : Phi} (hF : FilesOK w φ) (f : ByteArray × Int) {q : Nat} (h : w.heap.size ≤ q) : Ext w φ (φ.add q f) := Ext.add w φ f (fun k e => hF.lt e) h
/-- The end of a change that lays a file. -/
theorem end_add {w W w' : World} {φ : Phi} {b q : Nat} {L' : List Fl} {f : ByteArray × Int} (hF : FilesOK w φ) (hb0 : φ b = none) (hbl : b < w.heap.size) (hB : Below w.heap.size w W) (hq : W.heap[q]? = some (.cells #[.string f.1, .int .i64 f.2] 110 (0, 0))) (hn : w.heap.size ≤ q)
    (hI : Img w' (φ.add q f) b L') (hC : Chg (fun k => k = b) W w') : DoEnd φ b L' w (.returned (.tuple #[])) w' := by
  refine ⟨rfl, φ.add q f, ext_add hF f hn, (files_add hF hB hq hn).chg hC ?_, hI, (Chg.of_below hB _).trans hC fun _ _ e => e⟩
  rintro k hk rfl
  unfold Phi.add at hk
  rw [if_neg (by omega)] at hk
  exact hk hb0
/-- The part of a text that is laid. -/
def cutS (s0 : ByteArray) (part : Int) : ByteArray := if part < 0 then s0 else s0.extract 0 (min part (s0.size : Int)).toNat
theorem cutS_neg {s0 : ByteArray} {part : Int} (h : part < 0) : cutS s0 part = s0 := if_pos h
theorem cutS_pos {s0 : ByteArray} {part : Int} (h : 0 ≤ part) : cutS s0 part = s0.extract 0 (min part (s0.size : Int)).toNat := if_neg (by omega)
section
variable (p s0 : ByteArray) (tm part : Int) (b : Nat) (L : List Fl) (φ : Phi) (w : World) (hF : FilesOK w φ) (hI : Img w φ b L) (hb : φ b = none) (hL : L.length ≤ 100000) (hp : p.size ≤ 100000) (hs0 : s0.size ≤ 1000000000) (hpart : part ≤ 9223372036854775807)
include hF hI hb hL hp hs0 hpart
set_option maxHeartbeats 4000000 in
set_option maxRecDepth 100000 in
theorem do_written : Calls Tryz.prog 33 #[cgV ⟨1, p, s0, tm⟩, .map (some b), .int .i64 part] w (DoEnd φ b (putF L ⟨p, cutS s0 part, tm⟩) w) := by
  have HF := Lib.hid hF
  have HI := Lib.hid hI
  have HB := Lib.hid hb
  have hbl := hI.lt
  have HX : Hid (∀ (W : World) (q : Nat) (g : ByteArray × Int), Below w.heap.size w W → w.heap.size ≤ q → Img W (φ.add q g) b L) := fun W q g hB hq => (hI.below hB).ext (ext_add hF g hq).keeps
  clear hF hI hb
  unfold cgV
  rcases Int.lt_or_le part 0 with h1 | h1
  all_goals
    first
      | rw [cutS_neg h1]
      | rw [cutS_pos h1]
    cases hf : findF L p
    all_goals
      have HN := Lib.hid hf
      clear hf
      go_enter Tryz.func33, Tryz.ntmps33
      go_wp2_with (first
        | (at_lookup; refine wpList_look_none _ rfl _ _ rfl b p rfl (HI.out.below (newBelow _ _)) rfl hp HN.out ?_)
        | (at_lookup; refine wpList_look_some _ rfl _ _ rfl b p rfl (HI.out.below (newBelow _ _)) rfl hp _ HN.out ?_; intro q hq)
        | (at_mapUpdate; have _t : part < 0 := h1; refine wpList_store_img (φ := φ.add (w.heap.size + 1) (s0, tm)) _ rfl _ _ _ rfl b (w.heap.size + 1) ⟨p, s0, tm⟩ rfl (HX.out _ _ _ (newBelow2 _ _ _) (Nat.le_succ _)) (Nat.le_trans hL (by decide)) rfl rfl (add_self _ _ _) hp ?_; intro w' hI' hC hz)
        | (at_mapUpdate; refine wpList_store_img (φ := φ.add (w.heap.size + 1) (s0.extract 0 (min part (s0.size : Int)).toNat, tm)) _ rfl _ _ _ rfl b (w.heap.size + 1) ⟨p, s0.extract 0 (min part (s0.size : Int)).toNat, tm⟩ rfl (HX.out _ _ _ (newBelow2 _ _ _) (Nat.le_succ _)) (Nat.le_trans hL (by decide)) rfl rfl (add_self _ _ _) hp ?_; intro w' hI' hC hz))
      go_end0
      exact end_add (f := (_, _)) HF.out HB.out hbl (newBelow2 _ _ _) (new2 _ _ _) (Nat.le_succ _) hI' hC
set_option maxHeartbeats 4000000 in
set_option maxRecDepth 100000 in
theorem do_app_none (hf : findF L p = none) : Calls Tryz.prog 33 #[cgV ⟨2, p, s0, tm⟩, .map (some b), .int .i64 part] w (DoEnd φ b (putF L ⟨p, cutS s0 part, tm⟩) w) := by
  have HF := Lib.hid hF
  have HI := Lib.hid hI
  have HB := Lib.hid hb
  have hbl := hI.lt
  have HX : Hid (∀ (W : World) (q : Nat) (g : ByteArray × Int), Below w.heap.size w W → w.heap.size ≤ q → Img W (φ.add q g) b L) := fun W q g hB hq => (hI.below hB).ext (ext_add hF g hq).keeps
  have HN := Lib.hid hf
  clear hF hI hb hf
  unfold cgV
  rcases Int.lt_or_le part 0 with h1 | h1
  all_goals
    first
      | rw [cutS_neg h1]
      | rw [cutS_pos h1]
    go_enter Tryz.func33, Tryz.ntmps33
    go_wp2_with (first
      | (at_lookup; refine wpList_look_none _ rfl _ _ rfl b p rfl (HI.out.below (newBelow _ _)) rfl hp HN.out ?_)
      | (at_mapUpdate; have _t : part < 0 := h1; refine wpList_store_img (φ := φ.add (w.heap.size + 1) (s0, tm)) _ rfl _ _ _ rfl b (w.heap.size + 1) ⟨p, s0, tm⟩ rfl (HX.out _ _ _ (newBelow2 _ _ _) (Nat.le_succ _)) (Nat.le_trans hL (by decide)) rfl rfl (add_self _ _ _) hp ?_; intro w' hI' hC hz)
      | (at_mapUpdate; refine wpList_store_img (φ := φ.add (w.heap.size + 1) (s0.extract 0 (min part (s0.size : Int)).toNat, tm)) _ rfl _ _ _ rfl b (w.heap.size + 1) ⟨p, s0.extract 0 (min part (s0.size : Int)).toNat, tm⟩ rfl (HX.out _ _ _ (newBelow2 _ _ _) (Nat.le_succ _)) (Nat.le_trans hL (by decide)) rfl rfl (add_self _ _ _) hp ?_; intro w' hI' hC hz))
    go_end0
    exact end_add (f := (_, _)) HF.out HB.out hbl (newBelow2 _ _ _) (new2 _ _ _) (Nat.le_succ _) hI' hC
set_option maxHeartbeats 4000000 in
set_option maxRecDepth 100000 in
theorem do_app_some (f : Fl) (hf : findF L p = some f) (hf1 : f.f1.size ≤ 1000000000000) : Calls Tryz.prog 33 #[cgV ⟨2, p, s0, tm⟩, .map (some b), .int .i64 part] w (DoEnd φ b (putF L ⟨p, f.f1 ++ cutS s0 part, tm⟩) w) := by
  have HF := Lib.hid hF
  have HI := Lib.hid hI
  have HB := Lib.hid hb
  have hbl := hI.lt
  have HX : Hid (∀ (W : World) (q : Nat) (g : ByteArray × Int), Below w.heap.size w W → w.heap.size ≤ q → Img W (φ.add q g) b L) := fun W q g hB hq => (hI.below hB).ext (ext_add hF g hq).keeps
  have HN := Lib.hid hf
  clear hF hI hb hf
  unfold cgV
  rcases Int.lt_or_le part 0 with h1 | h1
  all_goals
    first
      | rw [cutS_neg h1]
      | rw [cutS_pos h1]
    go_enter Tryz.func33, Tryz.ntmps33
    go_wp2_with (first
      | (at_lookup; refine wpList_look_some _ rfl _ _ rfl b p rfl (HI.out.below (newBelow _ _)) rfl hp _ HN.out ?_; intro q hq))
    have hq0 := (HF.out.below (newBelow w (.cells #[.int .i64 1, .string p, .string s0, .int .i64 tm] 78))).cell0 hq
    first
      | (have _t : part < 0 := h1
         obtain ⟨w', hrun, hI', hturn⟩ := (HX.out (((w.alloc (.cells #[.int .i64 1, .string p, .string s0, .int .i64 tm] 78)).alloc (.cells #[.string (f.f1 ++ s0), .int .i64 tm] 110)).drew) (w.heap.size + 1) (f.f1 ++ s0, tm) (newBelow2 _ _ _).drew (Nat.le_succ _)).store (f := ⟨p, f.f1 ++ s0, tm⟩) (Nat.le_trans hL (by decide)) (add_self _ _ _) hp)
      | (obtain ⟨w', hrun, hI', hturn⟩ := (HX.out (((w.alloc (.cells #[.int .i64 1, .string p, .string s0, .int .i64 tm] 78)).alloc (.cells #[.string (f.f1 ++ s0.extract 0 (min part (s0.size : Int)).toNat), .int .i64 tm] 110)).drew) (w.heap.size + 1) (f.f1 ++ s0.extract 0 (min part (s0.size : Int)).toNat, tm) (newBelow2 _ _ _).drew (Nat.le_succ _)).store (f := ⟨p, f.f1 ++ s0.extract 0 (min part (s0.size : Int)).toNat, tm⟩) (Nat.le_trans hL (by decide)) (add_self _ _ _) hp)
    have hturn' := Lib.hid hturn
    have hI2 := Lib.hid hI'
    clear hturn hI'
    go_region
    go_wp2
    go_end0
    exact end_add (f := (_, _)) HF.out HB.out hbl (newBelow2 _ _ _).drew (new2 _ _ _) (Nat.le_succ _) hI2.out (turned_chg hturn'.out)
end
theorem end_same {w w' : World} {φ : Phi} {b : Nat} {L : List Fl} (hF : FilesOK w φ) (hI : Img w φ b L) (h : Below w.heap.size w w') : DoEnd φ b L w (.returned (.tuple #[])) w' := ⟨rfl, φ, Ext.refl _ _, hF.below h, hI.below h, Chg.of_below h _⟩
theorem end_drop {w W w' : World} {φ : Phi} {b : Nat} {L' : List Fl} (hF : FilesOK w φ) (hb : φ b = none) (hB : Below w.heap.size w W) (hI' : Img w' φ b L') (hC : Chg (fun k => k = b) W w') : DoEnd φ b L' w (.returned (.tuple #[])) w' :=
  ⟨rfl, φ, Ext.refl _ _, (hF.below hB).chg hC (fun k hk e => hk (by rw [e]; exact hb)), hI', (Chg.of_below hB _).trans hC fun _ _ e => e⟩
section
variable (p s0 : ByteArray) (tm : Int) (b : Nat) (L : List Fl) (φ : Phi) (w : World) (hF : FilesOK w φ) (hI : Img w φ b L) (hb : φ b = none) (hL : L.length ≤ 100000) (hp : p.size ≤ 100000)
include hF hI hb hL hp
set_option linter.unusedSectionVars false
set_option maxHeartbeats 4000000 in
set_option maxRecDepth 100000 in
theorem do_none (kind : Int) (hk : kind = 3 ∨ kind = 4) (hf : findF L p = none) : Calls Tryz.prog 33 #[cgV ⟨kind, p, s0, tm⟩, .map (some b), .int .i64 (-1)] w (DoEnd φ b L w) := by
  have HF := Lib.hid hF
  have HI := Lib.hid hI
  have HN := Lib.hid hf
  clear hF hI hb hf
  unfold cgV
  rcases hk with rfl | rfl
  all_goals
    go_enter Tryz.func33, Tryz.ntmps33
    go_wp2_with (first
      | (at_lookup; refine wpList_look_none _ rfl _ _ rfl b p rfl (HI.out.below (newBelow _ _)) rfl hp HN.out ?_))
    go_end0
    exact end_same HF.out HI.out (newBelow _ _)
set_option maxHeartbeats 4000000 in
set_option maxRecDepth 100000 in
theorem do_removed (f : Fl) (hf : findF L p = some f) : Calls Tryz.prog 33 #[cgV ⟨3, p, s0, tm⟩, .map (some b), .int .i64 (-1)] w (DoEnd φ b (dropF L p) w) := by
  have HF := Lib.hid hF
  have HI := Lib.hid hI
  have HB := Lib.hid hb
  have HN := Lib.hid hf
  have hbl := hI.lt
  clear hF hI hb hf
  unfold cgV
  go_enter Tryz.func33, Tryz.ntmps33
  go_wp2_with (first
    | (at_lookup; refine wpList_look_some _ rfl _ _ rfl b p rfl (HI.out.below (newBelow _ _)) rfl hp _ HN.out ?_; intro q hq)
    | (at_delete; refine wpList_delete_img _ rfl _ _ rfl b p rfl (HI.out.below (newBelow _ _)) rfl hp ?_; intro w' hI' hC hz; have hc0 := hC.cell (p := ⟨w.heap.size, 0, none⟩) (by simp) (by show w.heap.size ≠ b; omega); have HC := Lib.hid hC; have HI2 := Lib.hid hI'; clear hC hI' hz))
  go_end0
  exact end_drop HF.out HB.out (newBelow _ _) HI2.out HC.out
set_option maxHeartbeats 4000000 in
set_option maxRecDepth 100000 in
theorem do_renamed (f : Fl) (hf : findF L p = some f) (hs0 : s0.size ≤ 100000) : Calls Tryz.prog 33 #[cgV ⟨4, p, s0, tm⟩, .map (some b), .int .i64 (-1)] w (DoEnd φ b (putF (dropF L p) ⟨s0, f.f1, f.f2⟩) w) := by
  have HF := Lib.hid hF
  have HI := Lib.hid hI
  have HB := Lib.hid hb
  have HN := Lib.hid hf
  have hbl := hI.lt
  have hdl : (dropF L p).length ≤ 1000000 := Nat.le_trans (List.length_filter_le _ _) (Nat.le_trans hL (by decide))
  clear hF hI hb hf
  unfold cgV
  go_enter Tryz.func33, Tryz.ntmps33
  go_wp2_with (first
    | (at_lookup; refine wpList_look_some _ rfl _ _ rfl b p rfl (HI.out.below (newBelow _ _)) rfl hp _ HN.out ?_; intro q hq; have HQ := Lib.hid hq; clear hq)
    | (at_delete; refine wpList_delete_img _ rfl _ _ rfl b p rfl (HI.out.below (newBelow _ _)) rfl hp ?_; intro w' hI' hC hz; have hc0 := hC.cell (p := ⟨w.heap.size, 0, none⟩) (by simp) (by show w.heap.size ≠ b; omega); have hc2 := hC.cell (p := ⟨w.heap.size, 2, none⟩) (by simp) (by show w.heap.size ≠ b; omega); have HC := Lib.hid hC; have HI2 := Lib.hid hI'; clear hC hI' hz)
    | (at_mapUpdate; refine wpList_store_img (φ := φ) _ rfl _ _ _ rfl b q ⟨s0, f.f1, f.f2⟩ rfl HI2.out hdl rfl rfl HQ.out hs0 ?_; intro w2 hI3 hC3 hz3; have HC3 := Lib.hid hC3; have HI3 := Lib.hid hI3; clear hC3 hI3 hz3))
  go_end0
  exact end_drop HF.out HB.out (newBelow _ _) HI3.out (HC.out.trans HC3.out fun _ _ e => e)
end
end Go.Proofs.YtghbaehbgefpaaaGreatDoor.Fr
/- A tree in memory, and what only reads it. -/
namespace Go.Proofs.YtghbaehbgefpaaaGreatDoor.Fr
open Go.RowKit Go.Proofs.YtghbaehbgefpaaaGreatDoor.F Go.Maps
set_option linter.unusedVariables false
set_option linter.unusedSimpArgs false
/-- A tree: its room, its clock, its files, those of the last sync, the changes since. -/
structure TS where
  room : Int
  clock : Int
  l : List Fl
  last : List Fl
  ch : List Cg
def chCells (c : Cg) : List Value := [.int .i64 (c.f0 - 1), .string c.f1, .string c.f2, .int .i64 c.f3]
/-- Block p is a tree, whose own blocks are among A. -/
structure TrAt (w : World) (φ : Phi) (p : Nat) (T : TS) (A : Nat → Prop) (bn bl : Nat) (v : Value) : Prop where
  files : FilesOK w φ
  at_ : w.heap[p]? = some (.cells #[.int .i64 T.room, .int .i64 T.clock, .map (some bn), .map (some bl), v] 76 (0, 0))
  now : Img w φ bn T.l
  last : Img w φ bl T.last
  row : w.ownsRow 0 78 4 v T.ch.length (T.ch.flatMap chCells)
  ne : bn ≠ bl
  ap : A p
  an : A bn
  al : A bl
  ar : ∀ k, v.ownBlock = some k → A k
  free : ∀ k, A k → k < w.heap.size ∧ φ k = none
def Tr (w : World) (φ : Phi) (p : Nat) (T : TS) (A : Nat → Prop) : Prop := ∃ bn bl v, TrAt w φ p T A bn bl v
section
variable {w w' : World} {φ φ' : Phi} {p bn bl : Nat} {T : TS} {A S : Nat → Prop} {v : Value}
theorem TrAt.lt (h : TrAt w φ p T A bn bl v) : p < w.heap.size := (Array.getElem?_eq_some_iff.1 h.at_).1
theorem TrAt.c0 (h : TrAt w φ p T A bn bl v) : w.cell? ⟨p, 0, none⟩ = some (.int .i64 T.room) := by simp [World.cell?, h.at_]
theorem TrAt.c1 (h : TrAt w φ p T A bn bl v) : w.cell? ⟨p, 1, none⟩ = some (.int .i64 T.clock) := by simp [World.cell?, h.at_]
theorem TrAt.c2 (h : TrAt w φ p T A bn bl v) : w.cell? ⟨p, 2, none⟩ = some (.map (some bn)) := by simp [World.cell?, h.at_]
theorem TrAt.c3 (h : TrAt w φ p T A bn bl v) : w.cell? ⟨p, 3, none⟩ = some (.map (some bl)) := by simp [World.cell?, h.at_]
theorem TrAt.c4 (h : TrAt w φ p T A bn bl v) : w.cell? ⟨p, 4, none⟩ = some v := by simp [World.cell?, h.at_]
theorem TrAt.slice (h : TrAt w φ p T A bn bl v) : ∃ a c, v = .slice a T.ch.length c := by
  rcases h.row.2 with ⟨rfl, e⟩ | ⟨g, cap, cur, rfl, _⟩
  · exact ⟨none, 0, by rw [e]⟩
  · exact ⟨_, _, rfl⟩
theorem TrAt.row_ne (h : TrAt w φ p T A bn bl v) {k : Nat} (hk : v.ownBlock = some k) : k ≠ p ∧ k ≠ bn ∧ k ≠ bl := by
  rcases h.row.2 with ⟨rfl, e⟩ | ⟨g, cap, cur, rfl, _, hh, _⟩
  · simp [Value.ownBlock] at hk
  · have : g = k := by simpa [Value.ownBlock] using hk
    subst this
    obtain ⟨es, clock, h1, _⟩ := h.now
    obtain ⟨es2, clock2, h2, _⟩ := h.last
    refine ⟨?_, ?_, ?_⟩
    · rintro rfl
      rw [h.at_] at hh
      simp at hh
    · rintro rfl
      rw [h1] at hh
      simp at hh
    · rintro rfl
      rw [h2] at hh
      simp at hh
theorem TrAt.p_ne (h : TrAt w φ p T A bn bl v) : p ≠ bn ∧ p ≠ bl := by
  obtain ⟨es, clock, h1, _⟩ := h.now
  obtain ⟨es2, clock2, h2, _⟩ := h.last
  constructor
  · rintro rfl
    have := h.at_
    rw [h1] at this
    simp at this
  · rintro rfl
    have := h.at_
    rw [h2] at this
    simp at this
theorem ownsRow_block {base e size n : Nat} {xs : List Value} (h : w.ownsRow base e size v n xs) (hb : ∀ k, v.ownBlock = some k → w'.heap[k]? = w.heap[k]?) : w'.ownsRow base e size v n xs := by
  rcases h with ⟨h1, h2 | ⟨g, cap, cur, rfl, hg, hh, r⟩⟩
  · exact ⟨h1, .inl h2⟩
  · exact ⟨h1, .inr ⟨g, cap, cur, rfl, hg, (hb g rfl).trans hh, r⟩⟩
/-- A tree stays what it is where nothing of it is changed. -/
theorem TrAt.chg (h : TrAt w φ p T A bn bl v) (hc : Chg S w w') (hs : ∀ k, A k → ¬ S k) (he : Ext w φ φ') (hf : FilesOK w' φ') : TrAt w' φ' p T A bn bl v where
  files := hf
  at_ := (hc.block p h.lt (hs p h.ap)).trans h.at_
  now := (h.now.chg hc (hs bn h.an)).ext he.keeps
  last := (h.last.chg hc (hs bl h.al)).ext he.keeps
  row := ownsRow_block h.row fun k hk => hc.block k (h.free k (h.ar k hk)).1 (hs k (h.ar k hk))
  ne := h.ne
  ap := h.ap
  an := h.an
  al := h.al
  ar := h.ar
  free := fun k hk => by
    obtain ⟨h1, h2⟩ := h.free k hk
    refine ⟨Nat.lt_of_lt_of_le h1 hc.size, ?_⟩
    cases e : φ' k with
    | none => rfl
    | some f =>
      rcases he.new k (by rw [e]; simp) with h3 | h3
      · exact absurd h2 h3
      · omega
theorem TrAt.below (h : TrAt w φ p T A bn bl v) (hb : Below w.heap.size w w') : TrAt w' φ p T A bn bl v :=
  h.chg (Chg.of_below hb fun _ => False) (fun _ _ e => e) (Ext.refl _ _) (h.files.below hb)
theorem Tr.chg (h : Tr w φ p T A) (hc : Chg S w w') (hs : ∀ k, A k → ¬ S k) (he : Ext w φ φ') (hf : FilesOK w' φ') : Tr w' φ' p T A := by
  obtain ⟨bn, bl, v, h⟩ := h
  exact ⟨bn, bl, v, h.chg hc hs he hf⟩
theorem Tr.below (h : Tr w φ p T A) (hb : Below w.heap.size w w') : Tr w' φ p T A := by
  obtain ⟨bn, bl, v, h⟩ := h
  exact ⟨bn, bl, v, h.below hb⟩
theorem Tr.lt (h : Tr w φ p T A) : p < w.heap.size := by
  obtain ⟨bn, bl, v, h⟩ := h
  exact h.lt
end
/-! ### What only reads -/
section
variable {φ : Phi} {p : Nat} {T : TS} {A : Nat → Prop}
def readT (T : TS) (q : ByteArray) : ByteArray × Int := match findF T.l q with
  | none => (⟨#[]⟩, 4)
  | some f => (f.f1, 0)
set_option maxHeartbeats 1000000 in
set_option maxRecDepth 100000 in
theorem read_call (w : World) (hT : Tr w φ p T A) (q : ByteArray) (hq : q.size ≤ 100000) :
    Calls Tryz.prog 81 #[.pointer (some ⟨p, 0, none⟩), .string q] w fun e w' => e = .returned (.tuple #[.string (readT T q).1, .int .i64 (readT T q).2]) ∧ w = w' := by
  obtain ⟨bn, bl, v, h⟩ := hT
  have HT := Lib.hid h
  have c2 := h.c2
  cases hf : findF T.l q with
  | none =>
    have HN := Lib.hid hf
    have HR : Hid (readT T q = (⟨#[]⟩, 4)) := by unfold readT; rw [Hid, hf]
    clear hf h
    rw [HR.out]
    go_enter Tryz.func81, Tryz.ntmps81
    go_wp2_with (first
      | (at_lookup; refine wpList_look_none _ rfl _ _ rfl bn q rfl HT.out.now rfl hq HN.out ?_))
    go_ret2
    exact ⟨rfl, rfl⟩
  | some f =>
    have HN := Lib.hid hf
    have HR : Hid (readT T q = (f.f1, 0)) := by unfold readT; rw [Hid, hf]
    clear hf h
    rw [HR.out]
    go_enter Tryz.func81, Tryz.ntmps81
    go_wp2_with (first
      | (at_lookup; refine wpList_look_some _ rfl _ _ rfl bn q rfl HT.out.now rfl hq _ HN.out ?_; intro qb hqb; have hq0 := HT.out.files.cell0 hqb; clear hqb))
    go_ret2
    exact ⟨rfl, rfl⟩
end
end Go.Proofs.YtghbaehbgefpaaaGreatDoor.Fr
/- How many bytes a tree has, and what is in the way. -/
namespace Go.Proofs.YtghbaehbgefpaaaGreatDoor.Fr
open Go.RowKit Go.Proofs.YtghbaehbgefpaaaGreatDoor.F Go.Maps
set_option linter.unusedVariables false
set_option linter.unusedSimpArgs false
section
variable {φ : Phi} {p : Nat} {T : TS} {A : Nat → Prop}
/-! ### a range over a tree's files -/
/-- No two files have one path. -/
def Apart (L : List Fl) : Prop := L.Pairwise fun a b => a.f0.data.toList ≠ b.f0.data.toList
theorem Img.apart {w : World} {b : Nat} {L : List Fl} (h : Img w φ b L) : Apart L := by
  obtain ⟨es, he, hp⟩ := World.ownsMap.tidy h lawK
  have he' : L.map fent = es := by
    have := he
    unfold fdat at this
    injection this
  rw [← he', List.pairwise_map] at hp
  refine hp.imp fun {a b} hab e => hab ?_
  show Lit.string _ = Lit.string _
  rw [e]
/-- What has been gone through. -/
def doneF (left : Lit → Bool) (g : Fl → Nat) (L : List Fl) : Nat := (L.map fun f => if left (.string f.f0.data.toList) = true then 0 else g f).sum
theorem doneF_none (g : Fl → Nat) (L : List Fl) : doneF (Maps.has (fdat L)) g L = 0 := by
  have : ∀ f ∈ L, (if Maps.has (fdat L) (.string f.f0.data.toList) = true then 0 else g f) = 0 := by
    intro f hf
    rw [if_pos]
    rw [fdat_has]
    unfold findF
    rw [List.find?_isSome]
    exact ⟨f, hf, by simp⟩
  unfold doneF
  rw [List.map_congr_left this]
  clear this
  induction L with
  | nil => rfl
  | cons a r ih => simpa using ih
theorem doneF_all {left : Lit → Bool} (h : ∀ kl, left kl = false) (g : Fl → Nat) (L : List Fl) : doneF left g L = (L.map g).sum := by
  unfold doneF
  congr 1
  refine List.map_congr_left fun f _ => ?_
  rw [if_neg]
  rw [h]
  decide
theorem doneF_le (left : Lit → Bool) (g : Fl → Nat) : ∀ L : List Fl, doneF left g L ≤ (L.map g).sum := by
  intro L
  unfold doneF
  induction L with
  | nil => exact Nat.le_refl _
  | cons a r ih =>
    rw [List.map_cons, List.map_cons, List.sum_cons, List.sum_cons]
    split <;> omega
theorem mem_of_find {L : List Fl} {f : Fl} {q : ByteArray} (h : findF L q = some f) : f ∈ L := List.mem_of_find?_eq_some h
theorem doneF_off (left : Lit → Bool) (g : Fl → Nat) (k : List UInt8) : ∀ L : List Fl, (∀ f ∈ L, f.f0.data.toList ≠ k) → doneF (fun z => left z && !z.sameKey (.string k)) g L = doneF left g L := by
  intro L h
  unfold doneF
  congr 1
  refine List.map_congr_left fun f hf => ?_
  have : (Lit.string f.f0.data.toList).sameKey (.string k) = false := by
    show (f.f0.data.toList == k) = false
    rw [beq_eq_false_iff_ne]
    exact h f hf
  simp [this]
theorem doneF_step (left : Lit → Bool) (g : Fl → Nat) (f : Fl) (hl : left (.string f.f0.data.toList) = true) : ∀ L : List Fl, Apart L → f ∈ L →
    doneF (fun z => left z && !z.sameKey (.string f.f0.data.toList)) g L = doneF left g L + g f := by
  intro L
  induction L with
  | nil => intro _ h; simp at h
  | cons a r ih =>
    intro hA hm
    rw [Apart, List.pairwise_cons] at hA
    have hcons : ∀ lf : Lit → Bool, doneF lf g (a :: r) = (if lf (.string a.f0.data.toList) = true then 0 else g a) + doneF lf g r := by
      intro lf
      unfold doneF
      rw [List.map_cons, List.sum_cons]
    rw [hcons, hcons]
    rcases List.mem_cons.1 hm with e | e
    · subst e
      rw [doneF_off left g f.f0.data.toList r (fun x hx e => hA.1 x hx e.symm), if_pos hl]
      have : (Lit.string f.f0.data.toList).sameKey (.string f.f0.data.toList) = true := by
        show (f.f0.data.toList == f.f0.data.toList) = true
        simp
      simp only [this, hl]
      simp
      omega
    · rw [ih hA.2 e]
      have hne := hA.1 f e
      have : (Lit.string a.f0.data.toList).sameKey (.string f.f0.data.toList) = false := by
        show (a.f0.data.toList == f.f0.data.toList) = false
        rw [beq_eq_false_iff_ne]
        exact hne
      simp only [this]
      simp
      omega
set_option maxHeartbeats 2000000 in
set_option maxRecDepth 100000 in
theorem used_call (w : World) (hT : Tr w φ p T A) (hu : usedF T.l ≤ 1000000000000000) :
    Calls Tryz.prog 37 #[.pointer (some ⟨p, 0, none⟩)] w fun e w' => e = .returned (.int .i64 (usedF T.l : Nat)) ∧ Below w.heap.size w w' := by
  obtain ⟨bn, bl, v, h⟩ := hT
  have HT := Lib.hid h
  have c2 := h.c2
  have HA := Lib.hid h.now.apart
  have hbl := h.now.lt
  clear h
  go_enter Tryz.func37, Tryz.ntmps37
  go_wp2_with (first
    | (at_range; refine wpList_range_own _ rfl _ 71 rfl 9 73 lawK Tryz.underlying71 _ bn T.l.length (fdat T.l) rfl HT.out.now ?_; intro w0 hrg0 hg0 hs0; have HR0 := Lib.hid hrg0; have HG0 := Lib.hid hg0; clear hrg0 hg0))
  go_frame
  go_loopw [3] (fun s wr => ∃ (left : Lit → Bool) (cnt n : Nat), Hid (wr.ranges Tryz.prog 9 (elemR φ) bn w.heap.size T.l.length (fdat T.l) left cnt) ∧ s = .int .i64 (n : Int) ∧ Hid (n = doneF left (fun f => f.f1.size) T.l) ∧ n ≤ 1000000000000000 ∧ Hid (Below w.heap.size w wr))
    (fun _ wr => wr.rangeLeft bn w.heap.size)
  case atStart =>
    refine ⟨_, _, 0, HR0, rfl, ?_, by omega, ?_⟩
    · rw [Hid, doneF_none]
    · exact (Below.refl _ _).grown HG0.out (Nat.le_refl _) (fun k e => by cases e)
  case round =>
    obtain ⟨left, cnt, n, hrg, rfl, hn, hn9, hB⟩ := hrel
    go_wp2_with (first
      | (at_next; refine wpList_next_img _ rfl _ rfl bn w.heap.size T.l.length left cnt rfl hrg.out ?_ ?_))
    · intro hc0 hl0
      have HL := Lib.hid hl0
      clear hl0
      go_wp2
      go_ret
      refine ⟨?_, hB.out⟩
      have e : n = usedF T.l := by rw [hn.out, doneF_all HL.out]; rfl
      rw [← e]
      rfl
    · intro f q w1 cnt1 hfl hlk hq hrg1 hlt hg1 hs1 hen
      have hB1 : Hid (Below w.heap.size w w1) := hB.out.grown hg1 hB.out.size (fun k e => by cases e; exact Nat.le_refl _)
      have hc0 := (HT.out.files.below hB1.out).cell0 hq
      have hst := doneF_step left (fun f => f.f1.size) f hlk T.l HA.out (mem_of_find hfl)
      have hle := doneF_le (fun z => left z && !z.sameKey (.string f.f0.data.toList)) (fun f => f.f1.size) T.l
      have hn1 : n + f.f1.size ≤ 1000000000000000 := by
        rw [hst, ← hn.out] at hle
        exact Nat.le_trans hle hu
      have HR1 := Lib.hid hrg1
      have HST : Hid (n + f.f1.size = doneF (fun z => left z && !z.sameKey (.string f.f0.data.toList)) (fun f => f.f1.size) T.l) := by rw [Hid, hst, ← hn.out]
      have HRG := hrg
      clear hrg1 hg1 hs1 hst hle hq hlk hfl
      go_wp2
      go_roundw
      case rel => exact ⟨_, cnt1, n + f.f1.size, HR1, by go_num, HST, hn1, hB1⟩
      case measure => rw [HR1.out.left_eq, HRG.out.left_eq]; exact hlt
end
end Go.Proofs.YtghbaehbgefpaaaGreatDoor.Fr
/- What is in the way. -/
namespace Go.Proofs.YtghbaehbgefpaaaGreatDoor.Fr
open Go.RowKit Go.Proofs.YtghbaehbgefpaaaGreatDoor.F Go.Maps
set_option linter.unusedVariables false
set_option linter.unusedSimpArgs false
section
variable {φ : Phi} {p : Nat} {T : TS} {A : Nat → Prop}
def sameB (a b : ByteArray) : Bool := a.data.toList == b.data.toList
def testB (q but : ByteArray) (f : Fl) : Bool := !(sameB f.f0 but) && (wayF f.f0 q || wayF q f.f0)
def blockT (L : List Fl) (q but : ByteArray) : Bool := L.any (testB q but)
theorem block_true {L : List Fl} {q but : ByteArray} {f : Fl} (hm : f ∈ L) (h : testB q but f = true) : blockT L q but = true := List.any_eq_true.2 ⟨f, hm, h⟩
theorem block_false {L : List Fl} {q but : ByteArray} (h : ∀ f ∈ L, testB q but f = false) : blockT L q but = false := by
  unfold blockT
  rw [List.any_eq_false]
  intro f hf
  rw [h f hf]
  decide
theorem pre_way (a b : ByteArray) : Lib.hasPrefix b.data.toList (a ++ (⟨#[47]⟩ : ByteArray)).data.toList = wayF a b := by
  unfold wayF
  rw [ByteArray.data_append, Array.toList_append]
  rfl
set_option maxHeartbeats 4000000 in
set_option maxRecDepth 100000 in
theorem blocked_call (w : World) (hT : Tr w φ p T A) (q but : ByteArray) (hq : q.size ≤ 100000) (hps : ∀ f ∈ T.l, f.f0.size ≤ 100000) :
    Calls Tryz.prog 83 #[.pointer (some ⟨p, 0, none⟩), .string q, .string but] w fun e w' => e = .returned (.bool (blockT T.l q but)) ∧ Below w.heap.size w w' := by
  obtain ⟨bn, bl, v, h⟩ := hT
  have HT := Lib.hid h
  have c2 := h.c2
  have HA := Lib.hid h.now.apart
  have HP := Lib.hid hps
  have hbl := h.now.lt
  clear h hps
  obtain ⟨r, hr⟩ : ∃ r, Hid (blockT T.l q but = r) := ⟨_, rfl⟩
  rw [hr.out]
  go_enter Tryz.func83, Tryz.ntmps83
  go_wp2_with (first
    | (at_range; refine wpList_range_own _ rfl _ 71 rfl 9 73 lawK Tryz.underlying71 _ bn T.l.length (fdat T.l) rfl HT.out.now ?_; intro w0 hrg0 hg0 hs0; have HR0 := Lib.hid hrg0; have HG0 := Lib.hid hg0; clear hrg0 hg0))
  go_frame
  go_loopw [7] (fun _ wr => ∃ (left : Lit → Bool) (cnt : Nat), Hid (wr.ranges Tryz.prog 9 (elemR φ) bn w.heap.size T.l.length (fdat T.l) left cnt) ∧ Hid (∀ f ∈ T.l, left (.string f.f0.data.toList) = false → testB q but f = false) ∧ Hid (Below w.heap.size w wr))
    (fun _ wr => wr.rangeLeft bn w.heap.size)
  case atStart =>
    refine ⟨_, _, HR0, ?_, ?_⟩
    · intro f hf hl
      rw [fdat_has] at hl
      unfold findF at hl
      have h2 : (T.l.find? fun g => g.f0.data.toList == f.f0.data.toList).isSome = true := List.find?_isSome.2 ⟨f, hf, by simp⟩
      rw [h2] at hl
      cases hl
    · exact (Below.refl _ _).grown HG0.out (Nat.le_refl _) (fun k e => by cases e)
  case round =>
    obtain ⟨left, cnt, hrg, hn, hB⟩ := hrel
    go_wp2_with (first
      | (at_next; refine wpList_next_img _ rfl _ rfl bn w.heap.size T.l.length left cnt rfl hrg.out ?_ ?_))
    · intro hc0 hl0
      have HL := Lib.hid hl0
      clear hl0
      have hfin : Hid (r = false) := by rw [Hid, ← hr.out]; exact block_false fun f hf => hn.out f hf (HL.out _)
      go_wp2
      go_ret
      exact ⟨by rw [hfin.out]; rfl, hB.out⟩
    · intro f qb w1 cnt1 hfl hlk hqb hrg1 hlt hg1 hs1 hen
      have hB1 : Hid (Below w.heap.size w w1) := hB.out.grown hg1 hB.out.size (fun k e => by cases e; exact Nat.le_refl _)
      have hfm := mem_of_find hfl
      have hfs := HP.out f hfm
      have HM := Lib.hid hfm
      have hstep : Hid (testB q but f = false → ∀ g ∈ T.l, (fun z => left z && !z.sameKey (.string f.f0.data.toList)) (.string g.f0.data.toList) = false → testB q but g = false) := by
        intro ht g hg he
        by_cases hgf : g.f0.data.toList = f.f0.data.toList
        · have e1 : findF T.l f.f0 = findF T.l g.f0 := by unfold findF; rw [hgf]
          have hgs : g = f := by
            have h1 := HA.out
            rw [Apart] at h1
            refine Classical.byContradiction fun hne => ?_
            obtain ⟨i, hi, rfl⟩ := List.mem_iff_getElem.1 hg
            obtain ⟨j, hj, hje⟩ := List.mem_iff_getElem.1 hfm
            rcases Nat.lt_trichotomy i j with h | h | h
            · exact List.pairwise_iff_getElem.1 h1 i j hi hj h (by rw [hje]; exact hgf)
            · subst h
              exact hne hje
            · exact List.pairwise_iff_getElem.1 h1 j i hj hi h (by rw [hje]; exact hgf.symm)
          rw [hgs]
          exact ht
        · refine hn.out g hg ?_
          have : (Lit.string g.f0.data.toList).sameKey (.string f.f0.data.toList) = false := by
            show (g.f0.data.toList == f.f0.data.toList) = false
            rw [beq_eq_false_iff_ne]
            exact hgf
          simpa [this] using he
      have HR1 := Lib.hid hrg1
      clear hrg1 hg1 hs1 hlk hfl hqb hfm
      have hbt : Hid (testB q but f = (!(sameB f.f0 but) && (wayF f.f0 q || wayF q f.f0))) := rfl
      have t2 := fun W => Lib.hid (prefix_call q (f.f0 ++ (⟨#[47]⟩ : ByteArray)) W)
      have t3 := fun W => Lib.hid (prefix_call f.f0 (q ++ (⟨#[47]⟩ : ByteArray)) W)
      simp only [pre_way] at t2 t3
      have h1a : (f.f0.toList == but.toList) = sameB f.f0 but := by unfold sameB; rw [ByteArray.toList_eq, ByteArray.toList_eq]
      have h1b : (f.f0.toList != but.toList) = !(sameB f.f0 but) := by rw [← h1a]; rfl
      have HRG := hrg
      have hrt : Hid (testB q but f = true → r = true) := fun ht => by rw [← hr.out]; exact block_true HM.out ht
      generalize sameB f.f0 but = b1 at h1a h1b hbt
      generalize wayF f.f0 q = b2 at t2 hbt
      generalize wayF q f.f0 = b3 at t3 hbt
      generalize testB q but f = tt at hbt hstep hrt
      have hbt' : tt = (!b1 && (b2 || b3)) := hbt.out
      clear hbt
      cases b1 <;> cases b2 <;> cases b3
      all_goals
        simp only [Bool.not_true, Bool.not_false, Bool.true_and, Bool.false_and, Bool.or_false, Bool.false_or, Bool.or_true, Bool.true_or] at h1b hbt'
        subst hbt'
        first
          | have hgo := Lib.hid (hstep.out rfl)
          | have hgo := Lib.hid (hrt.out rfl)
        clear hstep hrt
        go_wp2_with (first
          | (go_at_call 99; refine (t2 _).out.mono ?_; rintro e w' ⟨rfl, rfl⟩)
          | (go_at_call 99; refine (t3 _).out.mono ?_; rintro e w' ⟨rfl, rfl⟩))
        first
          | (go_roundw
             case rel => exact ⟨_, cnt1, HR1, hgo, hB1⟩
             case measure => rw [HR1.out.left_eq, HRG.out.left_eq]; exact hlt)
          | (go_ret
             exact ⟨by rw [hgo.out]; rfl, hB1.out⟩)
end
end Go.Proofs.YtghbaehbgefpaaaGreatDoor.Fr
/- A change is done, and kept. -/
namespace Go.Proofs.YtghbaehbgefpaaaGreatDoor.Fr
open Go.RowKit Go.Proofs.YtghbaehbgefpaaaGreatDoor.F Go.Maps
set_option linter.unusedVariables false
set_option linter.unusedSimpArgs false
def KindOK (c : Cg) : Prop := c.f0 = 1 ∨ c.f0 = 2 ∨ c.f0 = 3 ∨ c.f0 = 4
structure CgOK (c : Cg) : Prop where
  kind : KindOK c
  path : c.f1.size ≤ 100000
  text : c.f2.size ≤ 1000000000
  dest : c.f0 = 4 → c.f2.size ≤ 100000
theorem do_call (c : Cg) (hc : CgOK c) (b : Nat) (L : List Fl) (φ : Phi) (w : World) (hF : FilesOK w φ) (hI : Img w φ b L) (hb : φ b = none) (hL : L.length ≤ 100000) (hfs : ∀ f ∈ L, f.f1.size ≤ 1000000000000) :
    Calls Tryz.prog 33 #[cgV c, .map (some b), .int .i64 (-1)] w (DoEnd φ b (afterF L c) w) := by
  obtain ⟨k, p, s, tm⟩ := c
  have h1 : p.size ≤ 100000 := hc.path
  have h2 : s.size ≤ 1000000000 := hc.text
  have hcs : cutS s (-1) = s := cutS_neg (by decide)
  rcases hc.kind with e | e | e | e
  · obtain rfl : k = 1 := e
    have := do_written p s tm (-1) b L φ w hF hI hb hL h1 h2 (by decide)
    rw [hcs] at this
    exact this
  · obtain rfl : k = 2 := e
    have e1 : afterF L ⟨2, p, s, tm⟩ = putF L ⟨p, textF L p ++ s, tm⟩ := rfl
    rw [e1]
    cases hf : findF L p with
    | none =>
      have := do_app_none p s tm (-1) b L φ w hF hI hb hL h1 h2 (by decide) hf
      rw [hcs] at this
      have e2 : textF L p = ⟨#[]⟩ := by unfold textF; rw [hf]
      have e3 : (⟨#[]⟩ : ByteArray) ++ s = s := by
        apply ByteArray.ext
        simp
      rw [e2, e3]
      exact this
    | some f =>
      have := do_app_some p s tm (-1) b L φ w hF hI hb hL h1 h2 (by decide) f hf (hfs f (mem_of_find hf))
      rw [hcs] at this
      have e2 : textF L p = f.f1 := by unfold textF; rw [hf]
      rw [e2]
      exact this
  · obtain rfl : k = 3 := e
    have e1 : afterF L ⟨3, p, s, tm⟩ = dropF L p := rfl
    rw [e1]
    cases hf : findF L p with
    | none =>
      have e2 : dropF L p = L := by
        unfold dropF
        rw [List.filter_eq_self]
        intro f hm
        unfold findF at hf
        rw [List.find?_eq_none] at hf
        simpa using hf f hm
      rw [e2]
      exact do_none p s tm b L φ w hF hI hb hL h1 3 (.inl rfl) hf
    | some f => exact do_removed p s tm b L φ w hF hI hb hL h1 f hf
  · obtain rfl : k = 4 := e
    have e1 : afterF L ⟨4, p, s, tm⟩ = match findF L p with | none => L | some f => putF (dropF L p) ⟨s, f.f1, f.f2⟩ := rfl
    rw [e1]
    cases hf : findF L p with
    | none => exact do_none p s tm b L φ w hF hI hb hL h1 4 (.inr rfl) hf
    | some f => exact do_renamed p s tm b L φ w hF hI hb hL h1 f hf (hc.dest rfl)
def doneT (T : TS) (c : Cg) : TS := { T with clock := T.clock + 1, l := afterF T.l c, ch := T.ch ++ [c] }
/-- How a call that changes a tree ends: it is another tree, and nothing else is changed. -/
def TrEnd (w : World) (φ : Phi) (p : Nat) (A : Nat → Prop) (T' : TS) (w' : World) : Prop :=
  ∃ φ' A', Tr w' φ' p T' A' ∧ Ext w φ φ' ∧ Chg A w w' ∧ ∀ k, A' k → A k ∨ w.heap.size ≤ k
section
variable {φ : Phi} {p : Nat} {T : TS} {A : Nat → Prop}
theorem infoC : (Tryz.prog.info? 78).map (fun i => (i.zero, i.size, i.bytes)) = some (some (.agg #[.int .i64 0, .string ⟨#[]⟩, .string ⟨#[]⟩, .int .i64 0]), 4, 48) := by kernel_rfl
/-- Behind the change itself, ahead of its being kept. -/
def DoneMid (w : World) (φ : Phi) (p : Nat) (T : TS) (A : Nat → Prop) (bn bl : Nat) (v : Value) (c : Cg) (wc : World) : Prop :=
  ∃ φ', Ext w φ φ' ∧ TrAt wc φ' p { T with clock := T.clock + 1, l := afterF T.l c } A bn bl v ∧ Chg A w wc ∧ wc.heap[w.heap.size]? = some (.cells #[.int .i64 (c.f0 - 1), .string c.f1, .string c.f2, .int .i64 c.f3] 78 (0, 0))
theorem done_mid {w w3 : World} {bn bl : Nat} {v : Value} {c : Cg} {φ' : Phi} (h : TrAt w φ p T A bn bl v)
    (hE : Ext (((w.setCell ⟨p, 1, none⟩ (.int .i64 (T.clock + 1))).alloc (.cells #[.int .i64 (c.f0 - 1), .string c.f1, .string c.f2, .int .i64 c.f3] 78)).drew) φ φ') (hF : FilesOK w3 φ') (hI : Img w3 φ' bn (afterF T.l c))
    (hC : Chg (fun k => k = bn) (((w.setCell ⟨p, 1, none⟩ (.int .i64 (T.clock + 1))).alloc (.cells #[.int .i64 (c.f0 - 1), .string c.f1, .string c.f2, .int .i64 c.f3] 78)).drew) w3) : DoneMid w φ p T A bn bl v c w3 := by
  obtain ⟨W1, hW1⟩ : ∃ W1, W1 = (((w.setCell ⟨p, 1, none⟩ (.int .i64 (T.clock + 1))).alloc (.cells #[.int .i64 (c.f0 - 1), .string c.f1, .string c.f2, .int .i64 c.f3] 78)).drew) := ⟨_, rfl⟩
  rw [← hW1] at hE hC
  have hsz : W1.heap.size = w.heap.size + 1 := by
    rw [hW1]
    show ((w.setCell _ _).alloc _).heap.size = _
    rw [World.size_alloc]
    simp
  have hC1 : Chg (fun k => k = p) w W1 := by
    rw [hW1]
    exact (((Chg.refl (fun k => k = p) w).setCell (p := ⟨p, 1, none⟩) (fun _ => rfl) _).alloc _).drew
  have hnew : W1.heap[w.heap.size]? = some (.cells #[.int .i64 (c.f0 - 1), .string c.f1, .string c.f2, .int .i64 c.f3] 78 (0, 0)) := by
    rw [hW1]
    show ((w.setCell _ _).alloc _).heap[w.heap.size]? = _
    have := World.alloc_heap_new (w.setCell ⟨p, 1, none⟩ (.int .i64 (T.clock + 1))) (.cells #[.int .i64 (c.f0 - 1), .string c.f1, .string c.f2, .int .i64 c.f3] 78)
    rwa [show (w.setCell ⟨p, 1, none⟩ (.int .i64 (T.clock + 1))).heap.size = w.heap.size by simp] at this
  have hat1 : W1.heap[p]? = some (.cells #[.int .i64 T.room, .int .i64 (T.clock + 1), .map (some bn), .map (some bl), v] 76 (0, 0)) := by
    rw [hW1]
    show ((w.setCell _ _).alloc _).heap[p]? = _
    rw [Below.heap_alloc _ _ _ (by simpa using h.lt), heap_setCell_same w p 1 _ _ _ h.at_]
    simp
  have hcall : Chg A w w3 := (hC1.mono fun k _ e => e ▸ h.ap).trans hC fun k _ e => e ▸ h.an
  have hrow : ∀ k, v.ownBlock = some k → w3.heap[k]? = w.heap[k]? := by
    intro k hk
    obtain ⟨n1, n2, n3⟩ := h.row_ne hk
    have hkl := (h.free k (h.ar k hk)).1
    exact (hC.block k (by omega) n2).trans (hC1.block k hkl n1)
  refine ⟨φ', ⟨hE.keeps, fun k e => (hE.new k e).imp id fun h => by omega⟩, ?_, hcall, ?_⟩
  · exact {
      files := hF
      at_ := (hC.block p (by have := h.lt; omega) h.p_ne.1).trans hat1
      now := hI
      last := ((h.last.chg hC1 (fun e => h.p_ne.2 e.symm)).chg hC (fun e => h.ne e.symm)).ext hE.keeps
      row := ownsRow_block h.row hrow
      ne := h.ne
      ap := h.ap
      an := h.an
      al := h.al
      ar := h.ar
      free := fun k hk => by
        obtain ⟨h1, h2⟩ := h.free k hk
        refine ⟨Nat.lt_of_lt_of_le h1 hcall.size, ?_⟩
        cases e : φ' k with
        | none => rfl
        | some f =>
          rcases hE.new k (by rw [e]; simp) with h3 | h3
          · exact absurd h2 h3
          · omega }
  · exact (hC.block _ (by omega) (by have := h.now.lt; omega)).trans hnew
theorem done_end {w wc w4 : World} {φ' : Phi} {T1 : TS} {bn bl g cap : Nat} {v : Value} {c : Cg} {o : Obj} (hE : Ext w φ φ') (h : TrAt wc φ' p T1 A bn bl v) (hC : Chg A w wc)
    (hown : w4.ownsRow 0 78 4 (.slice (some ⟨g, 0, none⟩) (T1.ch.length + 1) cap) (T1.ch.length + 1) (T1.ch.flatMap chCells ++ chCells c)) (hgrow : World.grownBy (wc.alloc o).drew w4 v.ownBlock) (hloc : v.ownBlock = some g ∨ g = wc.heap.size + 1) :
    TrEnd w φ p A { T1 with ch := T1.ch ++ [c] } (w4.setCell ⟨p, 4, none⟩ (.slice (some ⟨g, 0, none⟩) (T1.ch.length + 1) cap)) := by
  have hsz : (wc.alloc o).drew.heap.size = wc.heap.size + 1 := World.size_alloc wc o
  have hblk : ∀ k, k < wc.heap.size → v.ownBlock ≠ some k → w4.heap[k]? = wc.heap[k]? := fun k hk hn => (hgrow.block k (by omega) (fun e => hn e.symm)).trans (Below.heap_alloc wc o k hk)
  have hp4 : w4.heap[p]? = wc.heap[p]? := hblk p h.lt fun e => (h.row_ne e).1 rfl
  have hgp : g ≠ p := by
    rcases hloc with e | e
    · exact (h.row_ne e).1
    · have := h.lt
      omega
  have hC4 : Chg (fun k => v.ownBlock = some k) wc w4 := ((Chg.refl _ wc).alloc o).drew.grown hgrow fun k e _ => e
  have hC5 : Chg (fun k => v.ownBlock = some k ∨ k = p) wc (w4.setCell ⟨p, 4, none⟩ (.slice (some ⟨g, 0, none⟩) (T1.ch.length + 1) cap)) :=
    (hC4.mono fun k _ e => .inl e).setCell (p := ⟨p, 4, none⟩) (fun _ => .inr rfl) _
  have hS : ∀ q, φ' q ≠ none → ¬ (v.ownBlock = some q ∨ q = p) := by
    rintro q hq (e | rfl)
    · exact hq (h.free q (h.ar q e)).2
    · exact hq (h.free q h.ap).2
  have hnb : ∀ b, b ≠ p → v.ownBlock ≠ some b → ¬ (v.ownBlock = some b ∨ b = p) := fun b h1 h2 h3 => h3.elim h2 h1
  refine ⟨φ', fun k => A k ∨ k = g, ⟨bn, bl, .slice (some ⟨g, 0, none⟩) (T1.ch.length + 1) cap, ?_⟩, hE, hC.trans hC5 (fun k _ e => e.elim (fun e => h.ar k e) fun e => e ▸ h.ap), ?_⟩
  · exact {
      files := h.files.chg hC5 hS
      at_ := by
        rw [heap_setCell_same w4 p 4 _ _ _ (hp4.trans h.at_)]
        simp
      now := h.now.chg hC5 (hnb bn (fun e => h.p_ne.1 e.symm) fun e => (h.row_ne e).2.1 rfl)
      last := h.last.chg hC5 (hnb bl (fun e => h.p_ne.2 e.symm) fun e => (h.row_ne e).2.2 rfl)
      row := by
        have h1 : (T1.ch ++ [c]).length = T1.ch.length + 1 := by simp
        have h2 : (T1.ch ++ [c]).flatMap chCells = T1.ch.flatMap chCells ++ chCells c := by simp
        show World.ownsRow _ 0 _ 4 _ (T1.ch ++ [c]).length _
        rw [h1, h2]
        refine ownsRow_block hown fun k hk => ?_
        have : g = k := by simpa [Value.ownBlock] using hk
        subst this
        exact Below.heap_setCell w4 ⟨p, 4, none⟩ _ g hgp
      ne := h.ne
      ap := .inl h.ap
      an := .inl h.an
      al := .inl h.al
      ar := fun k hk => by
        have : g = k := by simpa [Value.ownBlock] using hk
        exact .inr this.symm
      free := by
        intro k hk
        have hg4 : g < w4.heap.size := by
          rcases hown.2 with ⟨e, _⟩ | ⟨g', cap', cur, e, _, hh, _⟩
          · cases e
          · have : g = g' := by
              simp at e
              exact e.1
            subst this
            exact (Array.getElem?_eq_some_iff.1 hh).1
        rcases hk with hk | rfl
        · obtain ⟨h1, h2⟩ := h.free k hk
          exact ⟨Nat.lt_of_lt_of_le h1 hC5.size, h2⟩
        · refine ⟨by simpa using hg4, ?_⟩
          rcases hloc with e | e
          · exact (h.free k (h.ar k e)).2
          · cases e' : φ' k with
            | none => rfl
            | some f =>
              have := h.files.lt (q := k) (by rw [e']; simp)
              omega }
  · rintro k (hk | rfl)
    · exact .inl hk
    · rcases hloc with e | e
      · exact .inl (h.ar k e)
      · exact .inr (by have := hC.size; omega)
set_option maxHeartbeats 4000000 in
set_option maxRecDepth 100000 in
theorem done_call (w : World) (hT : Tr w φ p T A) (c : Cg) (hc : CgOK c) (hL : T.l.length ≤ 100000) (hfs : ∀ f ∈ T.l, f.f1.size ≤ 1000000000000) (hck : 0 ≤ T.clock ∧ T.clock ≤ 1000000000000) (hch : T.ch.length ≤ 1000000) :
    Calls Tryz.prog 80 #[.pointer (some ⟨p, 0, none⟩), cgV c] w fun e w' => e = .returned (.int .i64 0) ∧ TrEnd w φ p A (doneT T c) w' := by
  obtain ⟨bn, bl, v, h⟩ := hT
  have HT := Lib.hid h
  have HC := Lib.hid hc
  have HS := Lib.hid hfs
  have c1 := h.c1
  have c2 := h.c2
  have f1 : w.frozen? ⟨p, 1, none⟩ = false := by simp [World.frozen?, h.at_]
  have hlt := h.lt
  clear h hc hfs
  obtain ⟨k, q, s, tm⟩ := c
  unfold cgV
  go_enter Tryz.func80, Tryz.ntmps80
  go_wp2_with fail
  have HFI : Hid (∀ W, Chg (fun k => k = p) w W → FilesOK W φ ∧ Img W φ bn T.l) := fun W hW => ⟨HT.out.files.chg hW fun q hq e => hq (by rw [e]; exact (HT.out.free p HT.out.ap).2), HT.out.now.chg hW fun e => HT.out.p_ne.1 e.symm⟩
  have HB := Lib.hid (HT.out.free bn HT.out.an).2
  have HCH : Hid (∀ u o, Chg (fun k => k = p) w (((w.setCell ⟨p, 1, none⟩ u).alloc o).drew)) := fun u o => (((Chg.refl (fun k => k = p) w).setCell (p := ⟨p, 1, none⟩) (fun _ => rfl) u).alloc o).drew
  go_upto_region 2 with (fail)
  go_cut [4] (fun v4 wc => v4 = .int .i64 0 ∧ Hid (DoneMid w φ p T A bn bl v ⟨k, q, s, tm⟩ wc))
  case first =>
    go_region_with (first | (go_at_call 33; refine (do_call ⟨k, q, s, tm⟩ HC.out bn T.l φ _ (HFI.out _ (HCH.out _ _)).1 (HFI.out _ (HCH.out _ _)).2 HB.out hL HS.out).mono ?_; rintro e w3 ⟨rfl, φ', hE3, hF3, hI3, hC3⟩; have HM := Lib.hid (done_mid (c := ⟨k, q, s, tm⟩) HT.out hE3 hF3 hI3 hC3); clear hE3 hF3 hI3 hC3))
    all_goals
      go_wp2_with fail
      go_meet
      exact ⟨rfl, HM⟩
  case rest =>
    obtain ⟨rfl, hM⟩ := hcut
    obtain ⟨φ', hE, h3, hC, hbx⟩ := hM.out
    have H3 := Lib.hid h3
    have HE := Lib.hid hE
    have HCH := Lib.hid hC
    have hp3 := h3.lt
    have c4 := h3.c4
    have f4 : wc.frozen? ⟨p, 4, none⟩ = false := by simp [World.frozen?, h3.at_]
    have b0 : wc.cell? ⟨w.heap.size, 0, none⟩ = some (.int .i64 (k - 1)) := by simp [World.cell?, hbx]
    have b1 : wc.cell? ⟨w.heap.size, 1, none⟩ = some (.string q) := by simp [World.cell?, hbx]
    have b2 : wc.cell? ⟨w.heap.size, 2, none⟩ = some (.string s) := by simp [World.cell?, hbx]
    have b3 : wc.cell? ⟨w.heap.size, 3, none⟩ = some (.int .i64 tm) := by simp [World.cell?, hbx]
    clear h3 hE hC hbx hM
    obtain ⟨i0, hi, hz0, hz1, hz2⟩ := info_parts infoC
    have hO : Hid (World.ownsRow ((wc.alloc (.cells #[.int .i64 (k - 1), .string q, .string s, .int .i64 tm] 78)).drew) 0 78 4 v T.ch.length (T.ch.flatMap chCells)) := (H3.out.row.alloc _).drew
    have hnw : Hid (∀ (j : Nat) u, [Value.int .i64 (k - 1), .string q, .string s, .int .i64 tm][j]? = some u → ((wc.alloc (.cells #[.int .i64 (k - 1), .string q, .string s, .int .i64 tm] 78)).drew).cell? ((⟨wc.heap.size, 0, none⟩ : Addr).add j) = some u) := World.news_of_block (World.alloc_heap_new wc _)
    have hbx4 : Hid (∀ w4, World.grownBy ((wc.alloc (.cells #[.int .i64 (k - 1), .string q, .string s, .int .i64 tm] 78)).drew) w4 v.ownBlock → w4.cell? ⟨p, 4, none⟩ = some v ∧ w4.frozen? ⟨p, 4, none⟩ = false) := by
      intro w4 hg
      have e : w4.heap[p]? = wc.heap[p]? := (hg.block p (by show p < (wc.alloc _).heap.size; rw [World.size_alloc]; have := H3.out.lt; omega) fun e => (H3.out.row_ne e.symm).1 rfl).trans (Below.heap_alloc wc _ p H3.out.lt)
      rw [H3.out.at_] at e
      exact ⟨by simp [World.cell?, e], by simp [World.frozen?, e]⟩
    have hone : Hid (∀ u ∈ [Value.int .i64 (k - 1), .string q, .string s, .int .i64 tm], u.oneCell' = true) := by
      intro u hu
      simp only [List.mem_cons, List.not_mem_nil, or_false] at hu
      rcases hu with rfl | rfl | rfl | rfl <;> rfl
    have hsz1 : Hid ((wc.alloc (.cells #[.int .i64 (k - 1), .string q, .string s, .int .i64 tm] 78)).drew.heap.size = wc.heap.size + 1) := World.size_alloc _ _
    go_wp2_with fail
    go_region_law (first
      | (refine step_append_lies _ rfl (.tmp 22) (.tmp 24) 74 rfl 0 78 i0 _ 4 48 Tryz.underlying74 hi hz0 hz1 hz2 rfl (by decide) v T.ch.length (T.ch.flatMap chCells) (by simp [Act.eval, Act.put]) hO.out ⟨wc.heap.size, 0, none⟩ 1 1 [.int .i64 (k - 1), .string q, .string s, .int .i64 tm] (by simp [Act.eval, Act.put]) rfl hnw.out hone.out (by decide) (by unfold maxLen; omega) (by omega) (Nat.zero_le _) (wc.heap.size + 1) hsz1.out ?_; intro g cap w4 hown4 hgrow4 hloc4 hg4; obtain ⟨cp, fp⟩ := hbx4.out w4 hgrow4; have HE4 := Lib.hid (done_end (c := ⟨k, q, s, tm⟩) HE.out H3.out HCH.out hown4 hgrow4 hloc4); clear hown4 hgrow4 hloc4))
    all_goals
      go_wp2
      go_ret
      exact ⟨rfl, HE4.out⟩
end
end Go.Proofs.YtghbaehbgefpaaaGreatDoor.Fr
/- The reference's way. -/
namespace Go.Proofs.YtghbaehbgefpaaaGreatDoor.Fr
open Go.RowKit Go.Proofs.YtghbaehbgefpaaaGreatDoor.F Go.Proofs.YtghbaehbgefpaaaGreatDoorW.PrintWords
set_option linter.unusedVariables false
set_option linter.unusedSimpArgs false
end Go.Proofs.YtghbaehbgefpaaaGreatDoor.Fr
namespace Go.Proofs.YtghbaehbgefpaaaGreatDoor.F
open Go.Proofs.YtghbaehbgefpaaaGreatDoor.Fr
open Go.Proofs.YtghbaehbgefpaaaGreatDoor
open Go.RowKit Go.Proofs.YtghbaehbgefpaaaGreatDoorW.PrintWords Go.Proofs.YtghbaehbgefpaaaGreatDoorW.PrintLast Go.Proofs.YtghbaehbgefpaaaGreatDoorW.PrintMore
attribute [local go_sem] max2_int min2_int max_two min_two max_three min_three max_four min_four   -- for this text's walks alone
set_option linter.unusedVariables false
set_option linter.unusedSimpArgs false

/-! ### cooperagelaw7_pick: function 15 -/
def cooperagelaw7_pick.f (a0 : Int) (a1 : Int) : Option (Int) := if a0 < 0 then (if a1 = 0 then (none) else (some (Int.tmod (wrap64 (-(wrap64 (a0 + 1)))) a1))) else (if a1 = 0 then (none) else (some (Int.tmod a0 a1)))
set_option maxHeartbeats 8000000 in
set_option maxRecDepth 100000 in
theorem cooperagelaw7_pick.calls (a0 : Int) (a1 : Int) (r : Int) (w : World) (h : cooperagelaw7_pick.f a0 a1 = some r) :
    Calls Tryz.prog 15 #[.int .i64 a0, .int .i64 a1] w fun e w' => e = .returned (.int .i64 r) ∧ Drawn0 w w' := by
  have H : (if a0 < 0 then (if a1 = 0 then (none) else (some (Int.tmod (wrap64 (-(wrap64 (a0 + 1)))) a1))) else (if a1 = 0 then (none) else (some (Int.tmod a0 a1)))) = some r := h
  clear h
  by_cases c3 : a0 < 0
  · rw [if_pos c3] at H
    have c3b0 : decide (a0 < 0) = true := decide_eq_true c3
    clear c3
    by_cases c4 : a1 = 0
    · rw [if_pos c4] at H
      exact absurd H (by simp)
    · rw [if_neg c4] at H
      have c4b0 : (a1 == 0) = false := beq_eq_false_iff_ne.mpr c4
      have c4b1 : (a1 != 0) = true := bne_iff_ne.mpr c4
      obtain rfl := Option.some.inj H
      go_enter Tryz.func15, Tryz.ntmps15
      go_wp2
      go_ret
      exact ⟨by first | rfl | (simp; done) | (simp [*]; done), by repeat (first | exact Drawn0.refl _ | apply Drawn0.step)⟩
  · rw [if_neg c3] at H
    have c3b0 : decide (a0 < 0) = false := decide_eq_false c3
    clear c3
    by_cases c5 : a1 = 0
    · rw [if_pos c5] at H
      exact absurd H (by simp)
    · rw [if_neg c5] at H
      have c5b0 : (a1 == 0) = false := beq_eq_false_iff_ne.mpr c5
      have c5b1 : (a1 != 0) = true := bne_iff_ne.mpr c5
      obtain rfl := Option.some.inj H
      go_enter Tryz.func15, Tryz.ntmps15
      go_wp2
      go_ret
      exact ⟨by first | rfl | (simp; done) | (simp [*]; done), by repeat (first | exact Drawn0.refl _ | apply Drawn0.step)⟩

end Go.Proofs.YtghbaehbgefpaaaGreatDoor.F
namespace Go.Proofs.YtghbaehbgefpaaaGreatDoor.F
open Go.Proofs.YtghbaehbgefpaaaGreatDoor.Fr
open Go.Proofs.YtghbaehbgefpaaaGreatDoor
open Go.RowKit Go.Proofs.YtghbaehbgefpaaaGreatDoorW.PrintWords Go.Proofs.YtghbaehbgefpaaaGreatDoorW.PrintLast Go.Proofs.YtghbaehbgefpaaaGreatDoorW.PrintMore
attribute [local go_sem] max2_int min2_int max_two min_two max_three min_three max_four min_four   -- for this text's walks alone
set_option linter.unusedVariables false
set_option linter.unusedSimpArgs false

/-! ### cooperagelaw7_small: function 18 -/

end Go.Proofs.YtghbaehbgefpaaaGreatDoor.F
namespace Go.Proofs.YtghbaehbgefpaaaGreatDoor.F
open Go.Proofs.YtghbaehbgefpaaaGreatDoor.Fr
open Go.Proofs.YtghbaehbgefpaaaGreatDoor
open Go.RowKit Go.Proofs.YtghbaehbgefpaaaGreatDoorW.PrintWords Go.Proofs.YtghbaehbgefpaaaGreatDoorW.PrintLast Go.Proofs.YtghbaehbgefpaaaGreatDoorW.PrintMore
attribute [local go_sem] max2_int min2_int max_two min_two max_three min_three max_four min_four   -- for this text's walks alone
set_option linter.unusedVariables false
set_option linter.unusedSimpArgs false

/-! ### cooperageref1_digit: function 96 -/

end Go.Proofs.YtghbaehbgefpaaaGreatDoor.F
namespace Go.Proofs.YtghbaehbgefpaaaGreatDoor.F
open Go.Proofs.YtghbaehbgefpaaaGreatDoor.Fr
open Go.Proofs.YtghbaehbgefpaaaGreatDoor
open Go.RowKit Go.Proofs.YtghbaehbgefpaaaGreatDoorW.PrintWords Go.Proofs.YtghbaehbgefpaaaGreatDoorW.PrintLast Go.Proofs.YtghbaehbgefpaaaGreatDoorW.PrintMore
attribute [local go_sem] max2_int min2_int max_two min_two max_three min_three max_four min_four   -- for this text's walks alone
set_option linter.unusedVariables false
set_option linter.unusedSimpArgs false

/-! ### cooperageref1_plain: function 75 -/

end Go.Proofs.YtghbaehbgefpaaaGreatDoor.F
namespace Go.Proofs.YtghbaehbgefpaaaGreatDoor.F
open Go.Proofs.YtghbaehbgefpaaaGreatDoor.Fr
open Go.Proofs.YtghbaehbgefpaaaGreatDoor
open Go.RowKit Go.Proofs.YtghbaehbgefpaaaGreatDoorW.PrintWords Go.Proofs.YtghbaehbgefpaaaGreatDoorW.PrintLast Go.Proofs.YtghbaehbgefpaaaGreatDoorW.PrintMore
attribute [local go_sem] max2_int min2_int max_two min_two max_three min_three max_four min_four   -- for this text's walks alone
set_option linter.unusedVariables false
set_option linter.unusedSimpArgs false

/-! ### cooperageref1_Path: function 46 -/

end Go.Proofs.YtghbaehbgefpaaaGreatDoor.F
namespace Go.Proofs.YtghbaehbgefpaaaGreatDoor.F
open Go.Proofs.YtghbaehbgefpaaaGreatDoor.Fr
open Go.Proofs.YtghbaehbgefpaaaGreatDoor
open Go.RowKit Go.Proofs.YtghbaehbgefpaaaGreatDoorW.PrintWords Go.Proofs.YtghbaehbgefpaaaGreatDoorW.PrintLast Go.Proofs.YtghbaehbgefpaaaGreatDoorW.PrintMore
attribute [local go_sem] max2_int min2_int max_two min_two max_three min_three max_four min_four   -- for this text's walks alone
set_option linter.unusedVariables false
set_option linter.unusedSimpArgs false

/-! ### cooperageref5_Find: function 63 -/

/-! ### cooperageref5_drop: function 65 -/

end Go.Proofs.YtghbaehbgefpaaaGreatDoor.F
namespace Go.Proofs.YtghbaehbgefpaaaGreatDoor.F
open Go.Proofs.YtghbaehbgefpaaaGreatDoor.Fr
open Go.Proofs.YtghbaehbgefpaaaGreatDoor
open Go.RowKit Go.Proofs.YtghbaehbgefpaaaGreatDoorW.PrintWords Go.Proofs.YtghbaehbgefpaaaGreatDoorW.PrintLast Go.Proofs.YtghbaehbgefpaaaGreatDoorW.PrintMore
attribute [local go_sem] max2_int min2_int max_two min_two max_three min_three max_four min_four   -- for this text's walks alone
set_option linter.unusedVariables false
set_option linter.unusedSimpArgs false

/-! ### cooperageref5_put: function 64 -/

-- GIVEN: cooperageref5_way (function 101)

end Go.Proofs.YtghbaehbgefpaaaGreatDoor.F
namespace Go.Proofs.YtghbaehbgefpaaaGreatDoor.F
open Go.Proofs.YtghbaehbgefpaaaGreatDoor.Fr
open Go.Proofs.YtghbaehbgefpaaaGreatDoor
open Go.RowKit Go.Proofs.YtghbaehbgefpaaaGreatDoorW.PrintWords Go.Proofs.YtghbaehbgefpaaaGreatDoorW.PrintLast Go.Proofs.YtghbaehbgefpaaaGreatDoorW.PrintMore
attribute [local go_sem] max2_int min2_int max_two min_two max_three min_three max_four min_four   -- for this text's walks alone
set_option linter.unusedVariables false
set_option linter.unusedSimpArgs false

/-! ### cooperageref5_blocked: function 87 -/

/-! ### cooperageref5_used: function 62 -/

end Go.Proofs.YtghbaehbgefpaaaGreatDoor.F
namespace Go.Proofs.YtghbaehbgefpaaaGreatDoor.F
open Go.Proofs.YtghbaehbgefpaaaGreatDoor.Fr
open Go.Proofs.YtghbaehbgefpaaaGreatDoor
open Go.RowKit Go.Proofs.YtghbaehbgefpaaaGreatDoorW.PrintWords Go.Proofs.YtghbaehbgefpaaaGreatDoorW.PrintLast Go.Proofs.YtghbaehbgefpaaaGreatDoorW.PrintMore
attribute [local go_sem] max2_int min2_int max_two min_two max_three min_three max_four min_four   -- for this text's walks alone
set_option linter.unusedVariables false
set_option linter.unusedSimpArgs false

/-! ### text_plain: function 66 -/
mutual
def text_plain.j0 : Nat → Int → Bool → Option (Bool)
  | 0, _, _ => none
  | k + 1, x0, x3 => if x3 = true then (some true) else (if x0 ≥ 97 then (text_plain.j1 k x0 (decide (x0 ≤ 122))) else (text_plain.j1 k x0 false))
def text_plain.j1 : Nat → Int → Bool → Option (Bool)
  | 0, _, _ => none
  | k + 1, x0, x3 => if x3 = true then (some true) else (if x0 ≥ 48 then (if x0 ≤ 57 then (some true) else (if x0 = 95 then (some true) else (if x0 = 45 then (some true) else (if x0 = 46 then (some true) else (if x0 = 47 then (some true) else (some (x0 == 43))))))) else (if x0 = 95 then (some true) else (if x0 = 45 then (some true) else (if x0 = 46 then (some true) else (if x0 = 47 then (some true) else (some (x0 == 43)))))))
end
def text_plain.f (k : Nat) (a0 : Int) : Option (Bool) := if a0 ≥ 65 then (text_plain.j0 k a0 (decide (a0 ≤ 90))) else (text_plain.j0 k a0 false)
set_option maxHeartbeats 8000000 in
set_option maxRecDepth 100000 in
theorem text_plain.calls (k : Nat) (a0 : Int) (r : Bool) (w : World) (h : text_plain.f k a0 = some r) :
    Calls Tryz.prog 66 #[.int .u8 a0] w fun e w' => e = .returned (.bool r) ∧ Drawn0 w w' := by
  have H : (if a0 ≥ 65 then (text_plain.j0 k a0 (decide (a0 ≤ 90))) else (text_plain.j0 k a0 false)) = some r := h
  clear h
  have HC2 := Aside0.mk H
  clear H
  go_enter Tryz.func66, Tryz.ntmps66
  go_upto_region 1 with (fail)
  go_cut [3] (fun v3 wc => ∃ (kq : Nat) (x3_1 : Bool), v3 = .bool x3_1 ∧ Aside0 (text_plain.j0 kq a0 x3_1 = some r) ∧ Aside0 (kq ≤ k) ∧ Drawn0 w wc)
  case first =>
    have H := HC2.out
    clear HC2
    by_cases c3 : a0 ≥ 65
    · rw [if_pos c3] at H
      have c3b0 : decide (65 ≤ a0) = true := decide_eq_true c3
      clear c3
      (first | rw [c3b0] | (simp only [i64_w, i32_w]; rw [c3b0]) | skip)
      have H' := Aside0.mk H
      clear H
      go_wp2
      go_meet
      case rel => exact ⟨_, (decide (a0 ≤ 90)), (by first | rfl | (simp; done) | (simp [*]; done)), H', ⟨by first | omega | exact Nat.le_refl _⟩, by repeat (first | exact Drawn0.refl _ | apply Drawn0.step)⟩
    · rw [if_neg c3] at H
      have c3b0 : decide (65 ≤ a0) = false := decide_eq_false c3
      clear c3
      (first | rw [c3b0] | (simp only [i64_w, i32_w]; rw [c3b0]) | skip)
      have H' := Aside0.mk H
      clear H
      go_wp2
      go_meet
      case rel => exact ⟨_, (false), (by first | rfl | (simp; done) | (simp [*]; done)), H', ⟨by first | omega | exact Nat.le_refl _⟩, by repeat (first | exact Drawn0.refl _ | apply Drawn0.step)⟩
  case rest =>
    clear HC2
    try clear p2
    try clear c3
    try clear c3b0
    obtain ⟨kq, x3_1, rfl, HA, HJ1, ⟨mc1, rfl⟩⟩ := hcut
    cases kq with
    | zero => exact absurd HA.out (by simp [text_plain.j0])
    | succ kj1 =>
      have H := HA.out
      clear HA
      simp only [text_plain.j0] at H
      by_cases c4 : x3_1 = true
      · subst c4
        have H1 : (some true) = some r := by rw [if_pos rfl] at H; exact H
        clear H
        have H := H1
        clear H1
        obtain rfl := Option.some.inj H
        go_wp2
        go_ret
        exact ⟨by first | rfl | (simp; done) | (simp [*]; done), by repeat (first | exact Drawn0.refl _ | apply Drawn0.step)⟩
      · replace c4 := Bool.eq_false_iff.mpr c4
        subst c4
        have H1 : (if a0 ≥ 97 then (text_plain.j1 kj1 a0 (decide (a0 ≤ 122))) else (text_plain.j1 kj1 a0 false)) = some r := by rw [if_neg (show ¬ (false = true) by decide)] at H; exact H
        clear H
        have H := H1
        clear H1
        have HC5 := Aside0.mk H
        clear H
        go_upto_region 2 with (fail)
        go_cut [3] (fun v3 wc => ∃ (kq : Nat) (x3_4 : Bool), v3 = .bool x3_4 ∧ Aside0 (text_plain.j1 kq a0 x3_4 = some r) ∧ Aside0 (kq ≤ kj1) ∧ Drawn0 w wc)
        case first =>
          have H := HC5.out
          clear HC5
          by_cases c6 : a0 ≥ 97
          · rw [if_pos c6] at H
            have c6b0 : decide (97 ≤ a0) = true := decide_eq_true c6
            clear c6
            (first | rw [c6b0] | (simp only [i64_w, i32_w]; rw [c6b0]) | skip)
            have H' := Aside0.mk H
            clear H
            go_wp2
            go_meet
            case rel => exact ⟨_, (decide (a0 ≤ 122)), (by first | rfl | (simp; done) | (simp [*]; done)), H', ⟨by have := HJ1.out; first | omega | exact Nat.le_refl _⟩, by repeat (first | exact Drawn0.refl _ | apply Drawn0.step)⟩
          · rw [if_neg c6] at H
            have c6b0 : decide (97 ≤ a0) = false := decide_eq_false c6
            clear c6
            (first | rw [c6b0] | (simp only [i64_w, i32_w]; rw [c6b0]) | skip)
            have H' := Aside0.mk H
            clear H
            go_wp2
            go_meet
            case rel => exact ⟨_, (false), (by first | rfl | (simp; done) | (simp [*]; done)), H', ⟨by have := HJ1.out; first | omega | exact Nat.le_refl _⟩, by repeat (first | exact Drawn0.refl _ | apply Drawn0.step)⟩
        case rest =>
          clear HC5
          try clear c1
          try clear p2
          try clear c3
          try clear c3b0
          try clear c4
          try clear c6
          try clear c6b0
          try clear p2
          obtain ⟨kq, x3_4, rfl, HA, HJ4, ⟨mc4, rfl⟩⟩ := hcut
          cases kq with
          | zero => exact absurd HA.out (by simp [text_plain.j1])
          | succ kj4 =>
            have H := HA.out
            clear HA
            simp only [text_plain.j1] at H
            by_cases c7 : x3_4 = true
            · subst c7
              have H1 : (some true) = some r := by rw [if_pos rfl] at H; exact H
              clear H
              have H := H1
              clear H1
              obtain rfl := Option.some.inj H
              go_wp2
              go_ret
              exact ⟨by first | rfl | (simp; done) | (simp [*]; done), by repeat (first | exact Drawn0.refl _ | apply Drawn0.step)⟩
            · replace c7 := Bool.eq_false_iff.mpr c7
              subst c7
              have H1 : (if a0 ≥ 48 then (if a0 ≤ 57 then (some true) else (if a0 = 95 then (some true) else (if a0 = 45 then (some true) else (if a0 = 46 then (some true) else (if a0 = 47 then (some true) else (some (a0 == 43))))))) else (if a0 = 95 then (some true) else (if a0 = 45 then (some true) else (if a0 = 46 then (some true) else (if a0 = 47 then (some true) else (some (a0 == 43))))))) = some r := by rw [if_neg (show ¬ (false = true) by decide)] at H; exact H
              clear H
              have H := H1
              clear H1
              by_cases c8 : a0 ≥ 48
              · rw [if_pos c8] at H
                have c8b0 : decide (48 ≤ a0) = true := decide_eq_true c8
                clear c8
                by_cases c9 : a0 ≤ 57
                · rw [if_pos c9] at H
                  have c9b0 : decide (a0 ≤ 57) = true := decide_eq_true c9
                  clear c9
                  obtain rfl := Option.some.inj H
                  go_wp2
                  go_ret
                  exact ⟨by first | rfl | (simp; done) | (simp [*]; done), by repeat (first | exact Drawn0.refl _ | apply Drawn0.step)⟩
                · rw [if_neg c9] at H
                  have c9b0 : decide (a0 ≤ 57) = false := decide_eq_false c9
                  clear c9
                  by_cases c10 : a0 = 95
                  · rw [if_pos c10] at H
                    have c10b0 : (a0 == 95) = true := beq_iff_eq.mpr c10
                    have c10b1 : (a0 != 95) = false := bne_eq_false_iff_eq.mpr c10
                    clear c10
                    obtain rfl := Option.some.inj H
                    go_wp2
                    go_ret
                    exact ⟨by first | rfl | (simp; done) | (simp [*]; done), by repeat (first | exact Drawn0.refl _ | apply Drawn0.step)⟩
                  · rw [if_neg c10] at H
                    have c10b0 : (a0 == 95) = false := beq_eq_false_iff_ne.mpr c10
                    have c10b1 : (a0 != 95) = true := bne_iff_ne.mpr c10
                    by_cases c11 : a0 = 45
                    · rw [if_pos c11] at H
                      have c11b0 : (a0 == 45) = true := beq_iff_eq.mpr c11
                      have c11b1 : (a0 != 45) = false := bne_eq_false_iff_eq.mpr c11
                      clear c11
                      obtain rfl := Option.some.inj H
                      go_wp2
                      go_ret
                      exact ⟨by first | rfl | (simp; done) | (simp [*]; done), by repeat (first | exact Drawn0.refl _ | apply Drawn0.step)⟩
                    · rw [if_neg c11] at H
                      have c11b0 : (a0 == 45) = false := beq_eq_false_iff_ne.mpr c11
                      have c11b1 : (a0 != 45) = true := bne_iff_ne.mpr c11
                      by_cases c12 : a0 = 46
                      · rw [if_pos c12] at H
                        have c12b0 : (a0 == 46) = true := beq_iff_eq.mpr c12
                        have c12b1 : (a0 != 46) = false := bne_eq_false_iff_eq.mpr c12
                        clear c12
                        obtain rfl := Option.some.inj H
                        go_wp2
                        go_ret
                        exact ⟨by first | rfl | (simp; done) | (simp [*]; done), by repeat (first | exact Drawn0.refl _ | apply Drawn0.step)⟩
                      · rw [if_neg c12] at H
                        have c12b0 : (a0 == 46) = false := beq_eq_false_iff_ne.mpr c12
                        have c12b1 : (a0 != 46) = true := bne_iff_ne.mpr c12
                        by_cases c13 : a0 = 47
                        · rw [if_pos c13] at H
                          have c13b0 : (a0 == 47) = true := beq_iff_eq.mpr c13
                          have c13b1 : (a0 != 47) = false := bne_eq_false_iff_eq.mpr c13
                          clear c13
                          obtain rfl := Option.some.inj H
                          go_wp2
                          go_ret
                          exact ⟨by first | rfl | (simp; done) | (simp [*]; done), by repeat (first | exact Drawn0.refl _ | apply Drawn0.step)⟩
                        · rw [if_neg c13] at H
                          have c13b0 : (a0 == 47) = false := beq_eq_false_iff_ne.mpr c13
                          have c13b1 : (a0 != 47) = true := bne_iff_ne.mpr c13
                          obtain rfl := Option.some.inj H
                          go_wp2
                          go_ret
                          exact ⟨by first | rfl | (simp; done) | (simp [*]; done), by repeat (first | exact Drawn0.refl _ | apply Drawn0.step)⟩
              · rw [if_neg c8] at H
                have c8b0 : decide (48 ≤ a0) = false := decide_eq_false c8
                clear c8
                by_cases c14 : a0 = 95
                · rw [if_pos c14] at H
                  have c14b0 : (a0 == 95) = true := beq_iff_eq.mpr c14
                  have c14b1 : (a0 != 95) = false := bne_eq_false_iff_eq.mpr c14
                  clear c14
                  obtain rfl := Option.some.inj H
                  go_wp2
                  go_ret
                  exact ⟨by first | rfl | (simp; done) | (simp [*]; done), by repeat (first | exact Drawn0.refl _ | apply Drawn0.step)⟩
                · rw [if_neg c14] at H
                  have c14b0 : (a0 == 95) = false := beq_eq_false_iff_ne.mpr c14
                  have c14b1 : (a0 != 95) = true := bne_iff_ne.mpr c14
                  by_cases c15 : a0 = 45
                  · rw [if_pos c15] at H
                    have c15b0 : (a0 == 45) = true := beq_iff_eq.mpr c15
                    have c15b1 : (a0 != 45) = false := bne_eq_false_iff_eq.mpr c15
                    clear c15
                    obtain rfl := Option.some.inj H
                    go_wp2
                    go_ret
                    exact ⟨by first | rfl | (simp; done) | (simp [*]; done), by repeat (first | exact Drawn0.refl _ | apply Drawn0.step)⟩
                  · rw [if_neg c15] at H
                    have c15b0 : (a0 == 45) = false := beq_eq_false_iff_ne.mpr c15
                    have c15b1 : (a0 != 45) = true := bne_iff_ne.mpr c15
                    by_cases c16 : a0 = 46
                    · rw [if_pos c16] at H
                      have c16b0 : (a0 == 46) = true := beq_iff_eq.mpr c16
                      have c16b1 : (a0 != 46) = false := bne_eq_false_iff_eq.mpr c16
                      clear c16
                      obtain rfl := Option.some.inj H
                      go_wp2
                      go_ret
                      exact ⟨by first | rfl | (simp; done) | (simp [*]; done), by repeat (first | exact Drawn0.refl _ | apply Drawn0.step)⟩
                    · rw [if_neg c16] at H
                      have c16b0 : (a0 == 46) = false := beq_eq_false_iff_ne.mpr c16
                      have c16b1 : (a0 != 46) = true := bne_iff_ne.mpr c16
                      by_cases c17 : a0 = 47
                      · rw [if_pos c17] at H
                        have c17b0 : (a0 == 47) = true := beq_iff_eq.mpr c17
                        have c17b1 : (a0 != 47) = false := bne_eq_false_iff_eq.mpr c17
                        clear c17
                        obtain rfl := Option.some.inj H
                        go_wp2
                        go_ret
                        exact ⟨by first | rfl | (simp; done) | (simp [*]; done), by repeat (first | exact Drawn0.refl _ | apply Drawn0.step)⟩
                      · rw [if_neg c17] at H
                        have c17b0 : (a0 == 47) = false := beq_eq_false_iff_ne.mpr c17
                        have c17b1 : (a0 != 47) = true := bne_iff_ne.mpr c17
                        obtain rfl := Option.some.inj H
                        go_wp2
                        go_ret
                        exact ⟨by first | rfl | (simp; done) | (simp [*]; done), by repeat (first | exact Drawn0.refl _ | apply Drawn0.step)⟩

end Go.Proofs.YtghbaehbgefpaaaGreatDoor.F
namespace Go.Proofs.YtghbaehbgefpaaaGreatDoor.F
open Go.Proofs.YtghbaehbgefpaaaGreatDoor.Fr
open Go.Proofs.YtghbaehbgefpaaaGreatDoor
open Go.RowKit Go.Proofs.YtghbaehbgefpaaaGreatDoorW.PrintWords Go.Proofs.YtghbaehbgefpaaaGreatDoorW.PrintLast Go.Proofs.YtghbaehbgefpaaaGreatDoorW.PrintMore
attribute [local go_sem] max2_int min2_int max_two min_two max_three min_three max_four min_four   -- for this text's walks alone
set_option linter.unusedVariables false
set_option linter.unusedSimpArgs false

end Go.Proofs.YtghbaehbgefpaaaGreatDoor.F
/- text.Path. -/
namespace Go.Proofs.YtghbaehbgefpaaaGreatDoor.Fr
open Go.RowKit Go.Proofs.YtghbaehbgefpaaaGreatDoor.F Go.Proofs.YtghbaehbgefpaaaGreatDoorW.PrintWords
set_option linter.unusedVariables false
set_option linter.unusedSimpArgs false
def plainI (c : Int) : Bool := decide (65 ≤ c ∧ c ≤ 90) || decide (97 ≤ c ∧ c ≤ 122) || decide (48 ≤ c ∧ c ≤ 57) || decide (c = 95 ∨ c = 45 ∨ c = 46 ∨ c = 47 ∨ c = 43)
theorem plain_tail (c : Int) : (if c = 95 then some true else (if c = 45 then some true else (if c = 46 then some true else (if c = 47 then some true else some (c == 43))))) = some (decide (c = 95 ∨ c = 45 ∨ c = 46 ∨ c = 47 ∨ c = 43)) := by
  by_cases h1 : c = 95
  · simp [h1]
  by_cases h2 : c = 45
  · simp [h2]
  by_cases h3 : c = 46
  · simp [h3]
  by_cases h4 : c = 47
  · simp [h4]
  by_cases h5 : c = 43
  · simp [h5]
  have : (c == 43) = false := by simpa using h5
  simp [h1, h2, h3, h4, h5, this]
theorem plain_f (c : Int) : text_plain.f 5 c = some (plainI c) := by
  unfold text_plain.f plainI
  simp only [text_plain.j0, text_plain.j1, plain_tail]
  generalize decide (c = 95 ∨ c = 45 ∨ c = 46 ∨ c = 47 ∨ c = 43) = t
  by_cases h1 : 65 ≤ c <;> by_cases h2 : c ≤ 90 <;> by_cases h3 : 97 ≤ c <;> by_cases h4 : c ≤ 122 <;> by_cases h5 : 48 ≤ c <;> by_cases h6 : c ≤ 57 <;> simp [h1, h2, h3, h4, h5, h6]
theorem plain_walk (c : Int) (w : World) : Calls Tryz.prog 66 #[.int .u8 c] w fun e w' => e = .returned (.bool (plainI c)) ∧ Drawn0 w w' := text_plain.calls 5 c _ w (plain_f c)
/-! #### Path -/
def slashB : ByteArray := ⟨#[47]⟩
def partsB (s : ByteArray) : List ByteArray := Lib.splitB slashB 0 (Lib.countB s slashB) s
def badPart (p : ByteArray) : Bool := p.toList.isEmpty || p.toList == [46] || p.toList == [46, 46]
def pathV (s : ByteArray) : Bool := (s.data.toList.all fun c => plainI c.toNat) && (partsB s).all (fun p => !badPart p) && decide ((s.size : Int) ≤ 100) && decide (((partsB s).length : Int) ≤ 8)
set_option maxHeartbeats 2000000 in
set_option maxRecDepth 100000 in
theorem path_walk (s : ByteArray) (hs : s.size ≤ 100000) (m : Int) (w : World) (hw : 0 < w.heap.size) (hm : w.cell? ⟨0, 0, none⟩ = some (.int .i64 m)) : Calls Tryz.prog 42 #[.string s] w fun e w' => e = .returned (.bool (pathV s)) ∧ Below w.heap.size w w' := by
  have hcv := fun (W : World) => Lib.run_convert_string_bytes (P := Tryz.prog) W 9 120 5 s Tryz.underlying9 Tryz.underlying120 Tryz.underlying5
  have HM := Lib.hid hm
  clear hm
  go_enter Tryz.func42, Tryz.ntmps42
  go_wp2
  clear hcv
  obtain ⟨w0, hw0⟩ : ∃ w0, Lib.bytesWorld w 5 s = w0 := ⟨_, rfl⟩
  have hs0 : w0.heap.size = w.heap.size + 1 := by rw [← hw0, Lib.bytesWorld_size]
  have hcell : Hid (∀ j, j < s.size → w0.cell? ⟨w.heap.size, j, none⟩ = some (.int .u8 (s.data.toList.getD j 0).toNat)) := by
    intro j hj
    rw [← hw0]
    exact Lib.bytesWorld_cell w 5 s j hj
  have hB0 : Hid (Below w.heap.size w w0) := by
    rw [Hid, ← hw0]
    exact ⟨rfl, rfl, rfl, by rw [Lib.bytesWorld_size]; omega, fun k hk => Lib.bytesWorld_at_old _ 5 s k hk⟩
  have hm0 : Hid (w0.cell? ⟨0, 0, none⟩ = some (.int .i64 m)) := (hB0.out.cell (p := ⟨0, 0, none⟩) hw).trans HM.out
  rw [hw0]
  clear hw0
  obtain ⟨r, hr⟩ : ∃ r, Hid (pathV s = r) := ⟨_, Lib.hid rfl⟩
  go_loopw [11] (fun i wr => ∃ (k nd : Nat), k ≤ s.size ∧ i = .int .i64 k ∧ wr = w0.drewN nd ∧ Hid ((s.data.toList.take k).all (fun c => plainI c.toNat) = true))
    (fun i _ => s.size - (intOf i).toNat)
  case atStart => exact ⟨0, 0, Nat.zero_le _, rfl, rfl, rfl⟩
  case round =>
    obtain ⟨k, nd, hk, rfl, rfl, hall⟩ := hrel
    by_cases hlt : k < s.size
    · have hc : (w0.drewN nd).cell? ⟨w.heap.size, k, none⟩ = some (.int .u8 (s.data.toList.getD k 0).toNat) := hcell.out k hlt
      have hk' : k < s.data.toList.length := by simpa using hlt
      obtain ⟨c, hcc⟩ : ∃ c, Hid (s.data.toList.getD k 0 = c) := ⟨_, Lib.hid rfl⟩
      rw [hcc.out] at hc
      have hstep : Hid ((s.data.toList.take (k + 1)).all (fun c => plainI c.toNat) = ((s.data.toList.take k).all (fun c => plainI c.toNat) && plainI c.toNat)) := by
        rw [Hid, List.take_succ_eq_append_getElem hk', List.all_append, ← hcc.out]
        simp [List.getD_eq_getElem?_getD, List.getElem?_eq_getElem hk']
      have hcl := UInt8.toNat_lt c
      have hmem : Hid (c ∈ s.data.toList) := by
        rw [Hid, ← hcc.out, List.getD_eq_getElem?_getD, List.getElem?_eq_getElem hk']
        exact List.getElem_mem hk'
      have hcN : Hid (c.toNat = c.toNat) := rfl
      cases hp : plainI (c.toNat : Int) with
      | true =>
        have hp' := Lib.hid hp
        generalize hn : c.toNat = n at hc hcl hp
        go_wp2_with (go_at_call 66; refine (plain_walk _ _).mono ?_; rintro e w1 ⟨rfl, ⟨n1, rfl⟩⟩; rw [hp])
        go_roundw
        case rel => exact ⟨k + 1, nd + n1, by omega, by go_num, rfl, by rw [Hid, hstep.out, hall.out, hp'.out]; rfl⟩
        case measure => simp [intOf]; omega
      | false =>
        have hfin : Hid (r = false) := by
          rw [Hid, ← hr.out]
          unfold pathV
          have : s.data.toList.all (fun c => plainI c.toNat) = false := by
            rw [List.all_eq_false]
            exact ⟨c, hmem.out, by rw [hp]; simp⟩
          rw [this]
          rfl
        generalize hn : c.toNat = n at hc hcl hp
        go_wp2_with (go_at_call 66; refine (plain_walk _ _).mono ?_; rintro e w1 ⟨rfl, ⟨n1, rfl⟩⟩; rw [hp])
        go_ret
        exact ⟨by rw [hr.out, hfin.out]; rfl, hB0.out.trans ⟨rfl, rfl, rfl, Nat.le_refl _, fun _ _ => rfl⟩⟩
    · have hkk : k = s.size := by omega
      have hall' : Hid (s.data.toList.all (fun c => plainI c.toNat) = true) := by
        have := hall.out
        rw [hkk, List.take_of_length_le (by rw [← Lib.size_eq]; exact Nat.le_refl _)] at this
        exact this
      clear hall
      have HS := Lib.hid (Tryz.strings_Split s slashB m (w0.drewN nd) (by omega) hm0.out (by decide))
      have hB1 : Hid (Below w.heap.size w (w0.drewN nd)) := hB0.out.trans ⟨rfl, rfl, rfl, Nat.le_refl _, fun _ _ => rfl⟩
      have hpl : (partsB s).length = Lib.countB s slashB + 1 := Lib.splitB_all slashB (by decide) 0 _ s rfl
      have hcle := Lib.countB_le slashB (by decide) s.size s (Nat.le_refl _)
      generalize hcn : Lib.countB s slashB = cn at HS hpl hcle
      have hps : Lib.splitB slashB 0 cn s = partsB s := by rw [← hcn]; rfl
      rw [hps] at HS
      have HR := hr
      have hsz : (w0.drewN nd).heap.size = w.heap.size + 1 := hs0
      obtain ⟨W, hW⟩ : ∃ W, (w0.drewN nd).alloc (.cells ((partsB s).map Value.string).toArray 9) = W := ⟨_, rfl⟩
      rw [hW] at HS
      have hpc : Hid (∀ j (h : j < (partsB s).length), W.cell? ⟨w.heap.size + 1, j, none⟩ = some (.string (partsB s)[j])) := by
        intro j h
        have hb := World.alloc_heap_new (w0.drewN nd) (.cells ((partsB s).map Value.string).toArray 9)
        rw [hW, hsz] at hb
        rw [Lib.cell_of_heap hb]
        simp [h, hs0]
      have hWb : Hid (Below w.heap.size w W) := by
        rw [Hid, ← hW]
        exact hB1.out.alloc (by rw [hsz]; omega) _
      have hWs : W.heap.size = w.heap.size + 2 := by rw [← hW]; simp [hs0]
      clear hW
      go_wp2_with (go_at_call 67; refine HS.out.mono ?_; rintro e w1 ⟨rfl, rfl⟩)
      have hpl' : ((partsB s).length : Int) = (cn : Int) + 1 := by omega
      go_loopw [23] (fun i wr => ∃ (j : Nat), j ≤ cn + 1 ∧ i = .int .i64 j ∧ wr = w1 ∧ Hid (((partsB s).take j).all (fun p => !badPart p) = true))
        (fun i _ => cn + 1 - (intOf i).toNat)
      case atStart => exact ⟨0, Nat.zero_le _, rfl, rfl, rfl⟩
      case round =>
        obtain ⟨j, hj, rfl, rfl, hgood⟩ := hrel
        by_cases hlj : j < cn + 1
        · have hjl : j < (partsB s).length := by omega
          have hc := hpc.out j hjl
          have hstep : Hid (((partsB s).take (j + 1)).all (fun p => !badPart p) = !badPart (partsB s)[j]) := by
            rw [Hid, List.take_succ_eq_append_getElem hjl, List.all_append, hgood.out]
            simp
          have hmem : Hid ((partsB s)[j] ∈ partsB s) := List.getElem_mem hjl
          generalize (partsB s)[j] = p at hc hstep hmem
          have hfin : Hid (badPart p = true → r = false) := by
            intro hb
            rw [← hr.out]
            unfold pathV
            have : (partsB s).all (fun p => !badPart p) = false := by
              rw [List.all_eq_false]
              exact ⟨p, hmem.out, by rw [hb]; simp⟩
            rw [this]
            simp
          cases h1 : p.toList.isEmpty with
          | true =>
            have hr0 := hfin.out (by unfold badPart; rw [h1]; rfl)
            subst hr0
            go_wp2
            go_ret
            exact ⟨by rw [hr.out]; rfl, hWb.out⟩
          | false =>
            cases h2 : (p.toList == [46]) with
            | true =>
              have hr0 := hfin.out (by unfold badPart; rw [h1, h2]; rfl)
              subst hr0
              go_wp2
              go_ret
              exact ⟨by rw [hr.out]; rfl, hWb.out⟩
            | false =>
              cases h3 : (p.toList == [46, 46]) with
              | true =>
                have hr0 := hfin.out (by unfold badPart; rw [h1, h2, h3]; rfl)
                subst hr0
                go_wp2
                go_ret
                exact ⟨by rw [hr.out]; rfl, hWb.out⟩
              | false =>
                have hst2 : Hid (((partsB s).take (j + 1)).all (fun p => !badPart p) = true) := by
                  show _ = true
                  rw [hstep.out]
                  unfold badPart
                  rw [h1, h2, h3]
                  rfl
                go_wp2
                go_roundw
                case rel => exact ⟨j + 1, by omega, by go_num, by first | trivial | rfl, hst2⟩
                case measure => simp [intOf]; omega
        · have hall2 : Hid ((partsB s).all (fun p => !badPart p) = true) := by
            have := hgood.out
            rw [List.take_of_length_le (by omega)] at this
            exact this
          by_cases h100 : (s.size : Int) ≤ 100
          · have hfin : Hid (pathV s = decide ((cn : Int) + 1 ≤ 8)) := by
              show pathV s = _
              unfold pathV
              rw [hall'.out, hall2.out, hpl', decide_eq_true h100]
              rfl
            go_wp2
            go_ret
            exact ⟨by rw [hfin.out]; rfl, hWb.out⟩
          · have hfin : Hid (pathV s = false) := by
              show pathV s = _
              unfold pathV
              rw [decide_eq_false h100]
              simp
            go_wp2
            go_ret
            exact ⟨by rw [hfin.out]; rfl, hWb.out⟩
end Go.Proofs.YtghbaehbgefpaaaGreatDoor.Fr
/- Writing to a tree. -/
namespace Go.Proofs.YtghbaehbgefpaaaGreatDoor.Fr
open Go.RowKit Go.Proofs.YtghbaehbgefpaaaGreatDoor.F Go.Maps
set_option linter.unusedVariables false
set_option linter.unusedSimpArgs false
/-- bytealg.MaxLen's cell holds a number. -/
structure Glob (w : World) : Prop where
  lt : 0 < w.heap.size
  cell : ∃ m, w.cell? ⟨0, 0, none⟩ = some (.int .i64 m)
theorem Glob.below {w w' : World} (h : Glob w) (hb : Below w.heap.size w w') : Glob w' :=
  ⟨Nat.lt_of_lt_of_le h.lt hb.size, by obtain ⟨m, hm⟩ := h.cell; exact ⟨m, (hb.cell (p := ⟨0, 0, none⟩) h.lt).trans hm⟩⟩
theorem path_call (s : ByteArray) (hs : s.size ≤ 100000) (w : World) (hG : Glob w) : Calls Tryz.prog 42 #[.string s] w fun e w' => e = .returned (.bool (pathV s)) ∧ Below w.heap.size w w' := by
  obtain ⟨m, hm⟩ := hG.cell
  exact path_walk s hs m w hG.lt hm
def hadT (T : TS) (q : ByteArray) : Nat := (textF T.l q).size
def sizeT (T : TS) (stays : Bool) (q s : ByteArray) : Nat := if stays = true then s.size + hadT T q else s.size
def manyT (T : TS) (q : ByteArray) : Nat := if (findF T.l q).isSome = true then T.l.length else T.l.length + 1
def fullT (T : TS) (stays : Bool) (q s : ByteArray) : Bool := decide (T.room < (usedF T.l : Int) - hadT T q + sizeT T stays q s) || decide (200 < manyT T q)
def writeE (T : TS) (stays : Bool) (q s : ByteArray) : Int :=
  if pathV q = false then 1 else if 16777216 < sizeT T stays q s then 3 else if blockT T.l q ⟨#[]⟩ = true then 5 else if fullT T stays q s = true then 6 else 0
def writeC (T : TS) (stays : Bool) (q s : ByteArray) : Cg := ⟨if stays = true then 2 else 1, q, s, T.clock + 1⟩
def writeT (T : TS) (stays : Bool) (q s : ByteArray) : TS := if writeE T stays q s = 0 then doneT T (writeC T stays q s) else T
section
variable {w w1 w' : World} {φ : Phi} {p : Nat} {T T' : TS} {A : Nat → Prop}
theorem TrEnd.same (h : Tr w φ p T A) (hb : Below w.heap.size w w') : TrEnd w φ p A T w' := ⟨φ, A, h.below hb, Ext.refl _ _, Chg.of_below hb _, fun _ hk => .inl hk⟩
theorem TrEnd.left (hb : Below w.heap.size w w1) (h : TrEnd w1 φ p A T' w') : TrEnd w φ p A T' w' := by
  obtain ⟨φ', A', h1, h2, h3, h4⟩ := h
  exact ⟨φ', A', h1, ⟨h2.keeps, fun q hq => (h2.new q hq).imp id fun e => Nat.le_trans hb.size e⟩, (Chg.of_below hb _).trans h3 fun _ _ e => e, fun k hk => (h4 k hk).imp id fun e => Nat.le_trans hb.size e⟩
/-- What a tree's numbers may be. -/
structure TOK (T : TS) : Prop where
  room : 0 ≤ T.room ∧ T.room ≤ 1000000000000
  clock : 0 ≤ T.clock ∧ T.clock ≤ 1000000000000
  many : T.l.length ≤ 100000
  texts : ∀ f ∈ T.l, f.f1.size ≤ 1000000000
  paths : ∀ f ∈ T.l, f.f0.size ≤ 100000
  used : usedF T.l ≤ 1000000000000000
  chs : T.ch.length ≤ 1000000
end
end Go.Proofs.YtghbaehbgefpaaaGreatDoor.Fr
/- Writing to a tree: the walk, way by way (written by gen_write.py). -/
namespace Go.Proofs.YtghbaehbgefpaaaGreatDoor.Fr
open Go.RowKit Go.Proofs.YtghbaehbgefpaaaGreatDoor.F Go.Maps
set_option linter.unusedVariables false
set_option linter.unusedSimpArgs false
section
variable {w : World} {φ : Phi} {p : Nat} {T : TS} {A : Nat → Prop} {q s : ByteArray}

set_option maxHeartbeats 4000000 in
set_option maxRecDepth 100000 in
theorem wr_n_true_e1 (hT : Tr w φ p T A) (hG : Glob w) (hO : TOK T) (hq : q.size ≤ 100000) (hs : s.size ≤ 1000000000) (hf : findF T.l q = none) (hp : pathV q = false) :
    Calls Tryz.prog 74 #[.pointer (some ⟨p, 0, none⟩), .string q, .string s, .bool true] w fun e w' => e = .returned (.int .i64 1) ∧ Below w.heap.size w w' := by
  have HX := Lib.hid hT
  have HG := Lib.hid hG
  have HO := Lib.hid hO
  have hroom := hO.room
  have hclock := hO.clock
  have hmany := hO.many
  have hused := hO.used
  have HN := Lib.hid hf
  have HP := Lib.hid hp
  obtain ⟨bn, bl, v, h⟩ := hT
  have HT := Lib.hid h
  have c2 := h.c2
  have c0 := h.c0
  have c1 := h.c1
  have hlt := h.lt
  have hlen := fun ty => h.now.len ty
  clear h hO hG hf hp
  go_enter Tryz.func74, Tryz.ntmps74
  go_wp2_with (first
    | (at_lookup; refine wpList_look_none _ rfl _ _ rfl bn q rfl HT.out.now rfl hq HN.out ?_)
    | (go_at_call 42; refine (path_call q hq _ HG.out).mono ?_; rintro e w1 ⟨rfl, hb1⟩; rw [HP.out]; have HB1 := Lib.hid hb1; clear hb1))
  go_ret
  exact ⟨rfl, HB1.out⟩
set_option maxHeartbeats 4000000 in
set_option maxRecDepth 100000 in
theorem wr_n_true_e3 (hT : Tr w φ p T A) (hG : Glob w) (hO : TOK T) (hq : q.size ≤ 100000) (hs : s.size ≤ 1000000000) (hf : findF T.l q = none) (hp : pathV q = true) (h2 : 16777216 < s.size) :
    Calls Tryz.prog 74 #[.pointer (some ⟨p, 0, none⟩), .string q, .string s, .bool true] w fun e w' => e = .returned (.int .i64 3) ∧ Below w.heap.size w w' := by
  have HX := Lib.hid hT
  have HG := Lib.hid hG
  have HO := Lib.hid hO
  have hroom := hO.room
  have hclock := hO.clock
  have hmany := hO.many
  have hused := hO.used
  have HN := Lib.hid hf
  have HP := Lib.hid hp
  obtain ⟨bn, bl, v, h⟩ := hT
  have HT := Lib.hid h
  have c2 := h.c2
  have c0 := h.c0
  have c1 := h.c1
  have hlt := h.lt
  have hlen := fun ty => h.now.len ty
  clear h hO hG hf hp
  go_enter Tryz.func74, Tryz.ntmps74
  go_wp2_with (first
    | (at_lookup; refine wpList_look_none _ rfl _ _ rfl bn q rfl HT.out.now rfl hq HN.out ?_)
    | (go_at_call 42; refine (path_call q hq _ HG.out).mono ?_; rintro e w1 ⟨rfl, hb1⟩; rw [HP.out]; have HB1 := Lib.hid hb1; clear hb1))
  go_ret
  exact ⟨rfl, HB1.out⟩
set_option maxHeartbeats 4000000 in
set_option maxRecDepth 100000 in
theorem wr_n_true_e5 (hT : Tr w φ p T A) (hG : Glob w) (hO : TOK T) (hq : q.size ≤ 100000) (hs : s.size ≤ 1000000000) (hf : findF T.l q = none) (hp : pathV q = true) (h2 : s.size ≤ 16777216) (h3 : blockT T.l q ⟨#[]⟩ = true) :
    Calls Tryz.prog 74 #[.pointer (some ⟨p, 0, none⟩), .string q, .string s, .bool true] w fun e w' => e = .returned (.int .i64 5) ∧ Below w.heap.size w w' := by
  have HX := Lib.hid hT
  have HG := Lib.hid hG
  have HO := Lib.hid hO
  have hroom := hO.room
  have hclock := hO.clock
  have hmany := hO.many
  have hused := hO.used
  have HN := Lib.hid hf
  have HP := Lib.hid hp
  obtain ⟨bn, bl, v, h⟩ := hT
  have HT := Lib.hid h
  have c2 := h.c2
  have c0 := h.c0
  have c1 := h.c1
  have hlt := h.lt
  have hlen := fun ty => h.now.len ty
  clear h hO hG hf hp
  have H3 := Lib.hid h3
  clear h3
  go_enter Tryz.func74, Tryz.ntmps74
  go_wp2_with (first
    | (at_lookup; refine wpList_look_none _ rfl _ _ rfl bn q rfl HT.out.now rfl hq HN.out ?_)
    | (go_at_call 42; refine (path_call q hq _ HG.out).mono ?_; rintro e w1 ⟨rfl, hb1⟩; rw [HP.out]; have HB1 := Lib.hid hb1; clear hb1)
    | (go_at_call 83; refine (blocked_call _ (HX.out.below HB1.out) q ⟨#[]⟩ hq HO.out.paths).mono ?_; rintro e w2 ⟨rfl, hb2⟩; rw [H3.out]; have HB2 := Lib.hid (HB1.out.trans (hb2.mono HB1.out.size)); clear hb2))
  go_ret
  exact ⟨rfl, HB2.out⟩
set_option maxHeartbeats 4000000 in
set_option maxRecDepth 100000 in
theorem wr_n_true_e6 (hT : Tr w φ p T A) (hG : Glob w) (hO : TOK T) (hq : q.size ≤ 100000) (hs : s.size ≤ 1000000000) (hf : findF T.l q = none) (hp : pathV q = true) (h2 : s.size ≤ 16777216) (h3 : blockT T.l q ⟨#[]⟩ = false) (h4 : T.room < (usedF T.l : Int) - 0 + ((s.size : Nat) : Int)) :
    Calls Tryz.prog 74 #[.pointer (some ⟨p, 0, none⟩), .string q, .string s, .bool true] w fun e w' => e = .returned (.int .i64 6) ∧ Below w.heap.size w w' := by
  have HX := Lib.hid hT
  have HG := Lib.hid hG
  have HO := Lib.hid hO
  have hroom := hO.room
  have hclock := hO.clock
  have hmany := hO.many
  have hused := hO.used
  have HN := Lib.hid hf
  have HP := Lib.hid hp
  obtain ⟨bn, bl, v, h⟩ := hT
  have HT := Lib.hid h
  have c2 := h.c2
  have c0 := h.c0
  have c1 := h.c1
  have hlt := h.lt
  have hlen := fun ty => h.now.len ty
  clear h hO hG hf hp
  have H3 := Lib.hid h3
  clear h3
  go_enter Tryz.func74, Tryz.ntmps74
  go_upto_region 16 with (first
    | (at_lookup; refine wpList_look_none _ rfl _ _ rfl bn q rfl HT.out.now rfl hq HN.out ?_)
    | (go_at_call 42; refine (path_call q hq _ HG.out).mono ?_; rintro e w1 ⟨rfl, hb1⟩; rw [HP.out]; have HB1 := Lib.hid hb1; clear hb1)
    | (go_at_call 83; refine (blocked_call _ (HX.out.below HB1.out) q ⟨#[]⟩ hq HO.out.paths).mono ?_; rintro e w2 ⟨rfl, hb2⟩; rw [H3.out]; have HB2 := Lib.hid (HB1.out.trans (hb2.mono HB1.out.size)); clear hb2))
  have c02 := (HB2.out.cell (p := ⟨p, 0, none⟩) hlt).trans c0
  have c12 := (HB2.out.cell (p := ⟨p, 1, none⟩) hlt).trans c1
  have E1 : IntKind.i64.wrap (usedF T.l : Int) = (usedF T.l : Int) := IntWalk.i64_in _ (by omega)
  have E2 : IntKind.i64.wrap ((usedF T.l : Int) + (s.size : Int)) = (usedF T.l : Int) + (s.size : Int) := IntWalk.i64_in _ (by omega)
  have D1 : decide (T.room < (usedF T.l : Int) + (s.size : Int)) = true := decide_eq_true (by omega)
  clear h4
  go_cut [58] (fun v58 wc => v58 = .bool true ∧ Hid (Below w.heap.size w wc))
  case first =>
    first | (go_region_with (first | (go_at_call 37; refine (used_call _ (HX.out.below HB2.out.drew) hused).mono ?_; rintro e w3 ⟨rfl, hb3⟩; have c03 := (hb3.cell (p := ⟨p, 0, none⟩) (Nat.lt_of_lt_of_le hlt HB2.out.size)).trans c02; have HB3 := Lib.hid (HB2.out.drew.trans (hb3.mono HB2.out.size)); clear hb3))) | fail
    all_goals
      go_wp2_with fail
      go_meet
      exact ⟨rfl, HB3⟩
  case rest =>
    obtain ⟨rfl, HBc⟩ := hcut
    go_wp2_with fail
    go_ret
    exact ⟨rfl, HBc.out⟩
set_option maxHeartbeats 4000000 in
set_option maxRecDepth 100000 in
theorem wr_n_true_e7 (hT : Tr w φ p T A) (hG : Glob w) (hO : TOK T) (hq : q.size ≤ 100000) (hs : s.size ≤ 1000000000) (hf : findF T.l q = none) (hp : pathV q = true) (h2 : s.size ≤ 16777216) (h3 : blockT T.l q ⟨#[]⟩ = false) (h4 : ¬ T.room < (usedF T.l : Int) - 0 + ((s.size : Nat) : Int)) (h5 : 200 < T.l.length + 1) :
    Calls Tryz.prog 74 #[.pointer (some ⟨p, 0, none⟩), .string q, .string s, .bool true] w fun e w' => e = .returned (.int .i64 6) ∧ Below w.heap.size w w' := by
  have HX := Lib.hid hT
  have HG := Lib.hid hG
  have HO := Lib.hid hO
  have hroom := hO.room
  have hclock := hO.clock
  have hmany := hO.many
  have hused := hO.used
  have HN := Lib.hid hf
  have HP := Lib.hid hp
  obtain ⟨bn, bl, v, h⟩ := hT
  have HT := Lib.hid h
  have c2 := h.c2
  have c0 := h.c0
  have c1 := h.c1
  have hlt := h.lt
  have hlen := fun ty => h.now.len ty
  clear h hO hG hf hp
  have H3 := Lib.hid h3
  clear h3
  go_enter Tryz.func74, Tryz.ntmps74
  go_upto_region 16 with (first
    | (at_lookup; refine wpList_look_none _ rfl _ _ rfl bn q rfl HT.out.now rfl hq HN.out ?_)
    | (go_at_call 42; refine (path_call q hq _ HG.out).mono ?_; rintro e w1 ⟨rfl, hb1⟩; rw [HP.out]; have HB1 := Lib.hid hb1; clear hb1)
    | (go_at_call 83; refine (blocked_call _ (HX.out.below HB1.out) q ⟨#[]⟩ hq HO.out.paths).mono ?_; rintro e w2 ⟨rfl, hb2⟩; rw [H3.out]; have HB2 := Lib.hid (HB1.out.trans (hb2.mono HB1.out.size)); clear hb2))
  have c02 := (HB2.out.cell (p := ⟨p, 0, none⟩) hlt).trans c0
  have c12 := (HB2.out.cell (p := ⟨p, 1, none⟩) hlt).trans c1
  have E1 : IntKind.i64.wrap (usedF T.l : Int) = (usedF T.l : Int) := IntWalk.i64_in _ (by omega)
  have E2 : IntKind.i64.wrap ((usedF T.l : Int) + (s.size : Int)) = (usedF T.l : Int) + (s.size : Int) := IntWalk.i64_in _ (by omega)
  have D1 : decide (T.room < (usedF T.l : Int) + (s.size : Int)) = false := decide_eq_false (by omega)
  have D2 : decide ((200 : Int) < (T.l.length : Int) + 1) = true := decide_eq_true (by omega)
  clear h4 h5
  go_cut [58] (fun v58 wc => v58 = .bool true ∧ Hid (Below w.heap.size w wc))
  case first =>
    first | (go_region_held3 (fun w' => w'.cell? ⟨p, 0, none⟩ = some (.int .i64 T.room) ∧ Hid (Below w.heap.size w w')) (first | exact ⟨c02, HB2.out.drew⟩ | exact ⟨c03, HB3⟩) (first | (go_at_call 37; refine (used_call _ (HX.out.below HB2.out.drew) hused).mono ?_; rintro e w3 ⟨rfl, hb3⟩; have c03 := (hb3.cell (p := ⟨p, 0, none⟩) (Nat.lt_of_lt_of_le hlt HB2.out.size)).trans c02; have HB3 := Lib.hid (HB2.out.drew.trans (hb3.mono HB2.out.size)); clear hb3))) | fail
    all_goals
      go_wp2_with fail
      go_meet
      exact ⟨rfl, HB3⟩
  case rest =>
    obtain ⟨rfl, HBc⟩ := hcut
    go_wp2_with fail
    go_ret
    exact ⟨rfl, HBc.out⟩
set_option maxHeartbeats 4000000 in
set_option maxRecDepth 100000 in
theorem wr_n_true_ok (hT : Tr w φ p T A) (hG : Glob w) (hO : TOK T) (hq : q.size ≤ 100000) (hs : s.size ≤ 1000000000) (hf : findF T.l q = none) (hp : pathV q = true) (h2 : s.size ≤ 16777216) (h3 : blockT T.l q ⟨#[]⟩ = false) (h4 : ¬ T.room < (usedF T.l : Int) - 0 + ((s.size : Nat) : Int)) (h5 : T.l.length + 1 ≤ 200) :
    Calls Tryz.prog 74 #[.pointer (some ⟨p, 0, none⟩), .string q, .string s, .bool true] w fun e w' => e = .returned (.int .i64 0) ∧ TrEnd w φ p A (doneT T ⟨2, q, s, T.clock + 1⟩) w' := by
  have HX := Lib.hid hT
  have HG := Lib.hid hG
  have HO := Lib.hid hO
  have hroom := hO.room
  have hclock := hO.clock
  have hmany := hO.many
  have hused := hO.used
  have HN := Lib.hid hf
  have HP := Lib.hid hp
  obtain ⟨bn, bl, v, h⟩ := hT
  have HT := Lib.hid h
  have c2 := h.c2
  have c0 := h.c0
  have c1 := h.c1
  have hlt := h.lt
  have hlen := fun ty => h.now.len ty
  clear h hO hG hf hp
  have H3 := Lib.hid h3
  clear h3
  go_enter Tryz.func74, Tryz.ntmps74
  go_upto_region 16 with (first
    | (at_lookup; refine wpList_look_none _ rfl _ _ rfl bn q rfl HT.out.now rfl hq HN.out ?_)
    | (go_at_call 42; refine (path_call q hq _ HG.out).mono ?_; rintro e w1 ⟨rfl, hb1⟩; rw [HP.out]; have HB1 := Lib.hid hb1; clear hb1)
    | (go_at_call 83; refine (blocked_call _ (HX.out.below HB1.out) q ⟨#[]⟩ hq HO.out.paths).mono ?_; rintro e w2 ⟨rfl, hb2⟩; rw [H3.out]; have HB2 := Lib.hid (HB1.out.trans (hb2.mono HB1.out.size)); clear hb2))
  have c02 := (HB2.out.cell (p := ⟨p, 0, none⟩) hlt).trans c0
  have c12 := (HB2.out.cell (p := ⟨p, 1, none⟩) hlt).trans c1
  have E1 : IntKind.i64.wrap (usedF T.l : Int) = (usedF T.l : Int) := IntWalk.i64_in _ (by omega)
  have E2 : IntKind.i64.wrap ((usedF T.l : Int) + (s.size : Int)) = (usedF T.l : Int) + (s.size : Int) := IntWalk.i64_in _ (by omega)
  have D1 : decide (T.room < (usedF T.l : Int) + (s.size : Int)) = false := decide_eq_false (by omega)
  have D2 : decide ((200 : Int) < (T.l.length : Int) + 1) = false := decide_eq_false (by omega)
  clear h4 h5
  go_cut [58] (fun v58 wc => v58 = .bool false ∧ Hid (Below w.heap.size w wc))
  case first =>
    first | (go_region_held3 (fun w' => w'.cell? ⟨p, 0, none⟩ = some (.int .i64 T.room) ∧ Hid (Below w.heap.size w w')) (first | exact ⟨c02, HB2.out.drew⟩ | exact ⟨c03, HB3⟩) (first | (go_at_call 37; refine (used_call _ (HX.out.below HB2.out.drew) hused).mono ?_; rintro e w3 ⟨rfl, hb3⟩; have c03 := (hb3.cell (p := ⟨p, 0, none⟩) (Nat.lt_of_lt_of_le hlt HB2.out.size)).trans c02; have HB3 := Lib.hid (HB2.out.drew.trans (hb3.mono HB2.out.size)); clear hb3))) | fail
    all_goals
      go_wp2_with fail
      go_meet
      exact ⟨rfl, HB3⟩
  case rest =>
    obtain ⟨rfl, HBc⟩ := hcut
    have cc1 := (HBc.out.cell (p := ⟨p, 1, none⟩) hlt).trans c1
    have HD : Hid (∀ W, Tr W φ p T A → Calls Tryz.prog 80 #[.pointer (some ⟨p, 0, none⟩), .agg #[.int .i64 1, .string q, .string s, .int .i64 (T.clock + 1)]] W fun e w' => e = .returned (.int .i64 0) ∧ TrEnd W φ p A (doneT T ⟨2, q, s, T.clock + 1⟩) w') := fun W hW =>
      done_call W hW ⟨2, q, s, T.clock + 1⟩ ⟨.inr (.inl rfl), hq, hs, fun e => absurd e (show ¬ ((2 : Int) = 4) by decide)⟩ HO.out.many (fun f hf => Nat.le_trans (HO.out.texts f hf) (by decide)) HO.out.clock HO.out.chs
    go_wp2_with (first
      | (go_at_call 80; refine (HD.out _ (HX.out.below HBc.out)).mono ?_; rintro e w4 ⟨rfl, he4⟩; have HE4 := Lib.hid he4; clear he4))
    go_ret
    exact ⟨rfl, HE4.out.left HBc.out⟩
set_option maxHeartbeats 4000000 in
set_option maxRecDepth 100000 in
theorem wr_n_false_e1 (hT : Tr w φ p T A) (hG : Glob w) (hO : TOK T) (hq : q.size ≤ 100000) (hs : s.size ≤ 1000000000) (hf : findF T.l q = none) (hp : pathV q = false) :
    Calls Tryz.prog 74 #[.pointer (some ⟨p, 0, none⟩), .string q, .string s, .bool false] w fun e w' => e = .returned (.int .i64 1) ∧ Below w.heap.size w w' := by
  have HX := Lib.hid hT
  have HG := Lib.hid hG
  have HO := Lib.hid hO
  have hroom := hO.room
  have hclock := hO.clock
  have hmany := hO.many
  have hused := hO.used
  have HN := Lib.hid hf
  have HP := Lib.hid hp
  obtain ⟨bn, bl, v, h⟩ := hT
  have HT := Lib.hid h
  have c2 := h.c2
  have c0 := h.c0
  have c1 := h.c1
  have hlt := h.lt
  have hlen := fun ty => h.now.len ty
  clear h hO hG hf hp
  go_enter Tryz.func74, Tryz.ntmps74
  go_wp2_with (first
    | (at_lookup; refine wpList_look_none _ rfl _ _ rfl bn q rfl HT.out.now rfl hq HN.out ?_)
    | (go_at_call 42; refine (path_call q hq _ HG.out).mono ?_; rintro e w1 ⟨rfl, hb1⟩; rw [HP.out]; have HB1 := Lib.hid hb1; clear hb1))
  go_ret
  exact ⟨rfl, HB1.out⟩
set_option maxHeartbeats 4000000 in
set_option maxRecDepth 100000 in
theorem wr_n_false_e3 (hT : Tr w φ p T A) (hG : Glob w) (hO : TOK T) (hq : q.size ≤ 100000) (hs : s.size ≤ 1000000000) (hf : findF T.l q = none) (hp : pathV q = true) (h2 : 16777216 < s.size) :
    Calls Tryz.prog 74 #[.pointer (some ⟨p, 0, none⟩), .string q, .string s, .bool false] w fun e w' => e = .returned (.int .i64 3) ∧ Below w.heap.size w w' := by
  have HX := Lib.hid hT
  have HG := Lib.hid hG
  have HO := Lib.hid hO
  have hroom := hO.room
  have hclock := hO.clock
  have hmany := hO.many
  have hused := hO.used
  have HN := Lib.hid hf
  have HP := Lib.hid hp
  obtain ⟨bn, bl, v, h⟩ := hT
  have HT := Lib.hid h
  have c2 := h.c2
  have c0 := h.c0
  have c1 := h.c1
  have hlt := h.lt
  have hlen := fun ty => h.now.len ty
  clear h hO hG hf hp
  go_enter Tryz.func74, Tryz.ntmps74
  go_wp2_with (first
    | (at_lookup; refine wpList_look_none _ rfl _ _ rfl bn q rfl HT.out.now rfl hq HN.out ?_)
    | (go_at_call 42; refine (path_call q hq _ HG.out).mono ?_; rintro e w1 ⟨rfl, hb1⟩; rw [HP.out]; have HB1 := Lib.hid hb1; clear hb1))
  go_ret
  exact ⟨rfl, HB1.out⟩
set_option maxHeartbeats 4000000 in
set_option maxRecDepth 100000 in
theorem wr_n_false_e5 (hT : Tr w φ p T A) (hG : Glob w) (hO : TOK T) (hq : q.size ≤ 100000) (hs : s.size ≤ 1000000000) (hf : findF T.l q = none) (hp : pathV q = true) (h2 : s.size ≤ 16777216) (h3 : blockT T.l q ⟨#[]⟩ = true) :
    Calls Tryz.prog 74 #[.pointer (some ⟨p, 0, none⟩), .string q, .string s, .bool false] w fun e w' => e = .returned (.int .i64 5) ∧ Below w.heap.size w w' := by
  have HX := Lib.hid hT
  have HG := Lib.hid hG
  have HO := Lib.hid hO
  have hroom := hO.room
  have hclock := hO.clock
  have hmany := hO.many
  have hused := hO.used
  have HN := Lib.hid hf
  have HP := Lib.hid hp
  obtain ⟨bn, bl, v, h⟩ := hT
  have HT := Lib.hid h
  have c2 := h.c2
  have c0 := h.c0
  have c1 := h.c1
  have hlt := h.lt
  have hlen := fun ty => h.now.len ty
  clear h hO hG hf hp
  have H3 := Lib.hid h3
  clear h3
  go_enter Tryz.func74, Tryz.ntmps74
  go_wp2_with (first
    | (at_lookup; refine wpList_look_none _ rfl _ _ rfl bn q rfl HT.out.now rfl hq HN.out ?_)
    | (go_at_call 42; refine (path_call q hq _ HG.out).mono ?_; rintro e w1 ⟨rfl, hb1⟩; rw [HP.out]; have HB1 := Lib.hid hb1; clear hb1)
    | (go_at_call 83; refine (blocked_call _ (HX.out.below HB1.out) q ⟨#[]⟩ hq HO.out.paths).mono ?_; rintro e w2 ⟨rfl, hb2⟩; rw [H3.out]; have HB2 := Lib.hid (HB1.out.trans (hb2.mono HB1.out.size)); clear hb2))
  go_ret
  exact ⟨rfl, HB2.out⟩
set_option maxHeartbeats 4000000 in
set_option maxRecDepth 100000 in
theorem wr_n_false_e6 (hT : Tr w φ p T A) (hG : Glob w) (hO : TOK T) (hq : q.size ≤ 100000) (hs : s.size ≤ 1000000000) (hf : findF T.l q = none) (hp : pathV q = true) (h2 : s.size ≤ 16777216) (h3 : blockT T.l q ⟨#[]⟩ = false) (h4 : T.room < (usedF T.l : Int) - 0 + ((s.size : Nat) : Int)) :
    Calls Tryz.prog 74 #[.pointer (some ⟨p, 0, none⟩), .string q, .string s, .bool false] w fun e w' => e = .returned (.int .i64 6) ∧ Below w.heap.size w w' := by
  have HX := Lib.hid hT
  have HG := Lib.hid hG
  have HO := Lib.hid hO
  have hroom := hO.room
  have hclock := hO.clock
  have hmany := hO.many
  have hused := hO.used
  have HN := Lib.hid hf
  have HP := Lib.hid hp
  obtain ⟨bn, bl, v, h⟩ := hT
  have HT := Lib.hid h
  have c2 := h.c2
  have c0 := h.c0
  have c1 := h.c1
  have hlt := h.lt
  have hlen := fun ty => h.now.len ty
  clear h hO hG hf hp
  have H3 := Lib.hid h3
  clear h3
  go_enter Tryz.func74, Tryz.ntmps74
  go_upto_region 16 with (first
    | (at_lookup; refine wpList_look_none _ rfl _ _ rfl bn q rfl HT.out.now rfl hq HN.out ?_)
    | (go_at_call 42; refine (path_call q hq _ HG.out).mono ?_; rintro e w1 ⟨rfl, hb1⟩; rw [HP.out]; have HB1 := Lib.hid hb1; clear hb1)
    | (go_at_call 83; refine (blocked_call _ (HX.out.below HB1.out) q ⟨#[]⟩ hq HO.out.paths).mono ?_; rintro e w2 ⟨rfl, hb2⟩; rw [H3.out]; have HB2 := Lib.hid (HB1.out.trans (hb2.mono HB1.out.size)); clear hb2))
  have c02 := (HB2.out.cell (p := ⟨p, 0, none⟩) hlt).trans c0
  have c12 := (HB2.out.cell (p := ⟨p, 1, none⟩) hlt).trans c1
  have E1 : IntKind.i64.wrap (usedF T.l : Int) = (usedF T.l : Int) := IntWalk.i64_in _ (by omega)
  have E2 : IntKind.i64.wrap ((usedF T.l : Int) + (s.size : Int)) = (usedF T.l : Int) + (s.size : Int) := IntWalk.i64_in _ (by omega)
  have D1 : decide (T.room < (usedF T.l : Int) + (s.size : Int)) = true := decide_eq_true (by omega)
  clear h4
  go_cut [58] (fun v58 wc => v58 = .bool true ∧ Hid (Below w.heap.size w wc))
  case first =>
    first | (go_region_with (first | (go_at_call 37; refine (used_call _ (HX.out.below HB2.out.drew) hused).mono ?_; rintro e w3 ⟨rfl, hb3⟩; have c03 := (hb3.cell (p := ⟨p, 0, none⟩) (Nat.lt_of_lt_of_le hlt HB2.out.size)).trans c02; have HB3 := Lib.hid (HB2.out.drew.trans (hb3.mono HB2.out.size)); clear hb3))) | fail
    all_goals
      go_wp2_with fail
      go_meet
      exact ⟨rfl, HB3⟩
  case rest =>
    obtain ⟨rfl, HBc⟩ := hcut
    go_wp2_with fail
    go_ret
    exact ⟨rfl, HBc.out⟩
set_option maxHeartbeats 4000000 in
set_option maxRecDepth 100000 in
theorem wr_n_false_e7 (hT : Tr w φ p T A) (hG : Glob w) (hO : TOK T) (hq : q.size ≤ 100000) (hs : s.size ≤ 1000000000) (hf : findF T.l q = none) (hp : pathV q = true) (h2 : s.size ≤ 16777216) (h3 : blockT T.l q ⟨#[]⟩ = false) (h4 : ¬ T.room < (usedF T.l : Int) - 0 + ((s.size : Nat) : Int)) (h5 : 200 < T.l.length + 1) :
    Calls Tryz.prog 74 #[.pointer (some ⟨p, 0, none⟩), .string q, .string s, .bool false] w fun e w' => e = .returned (.int .i64 6) ∧ Below w.heap.size w w' := by
  have HX := Lib.hid hT
  have HG := Lib.hid hG
  have HO := Lib.hid hO
  have hroom := hO.room
  have hclock := hO.clock
  have hmany := hO.many
  have hused := hO.used
  have HN := Lib.hid hf
  have HP := Lib.hid hp
  obtain ⟨bn, bl, v, h⟩ := hT
  have HT := Lib.hid h
  have c2 := h.c2
  have c0 := h.c0
  have c1 := h.c1
  have hlt := h.lt
  have hlen := fun ty => h.now.len ty
  clear h hO hG hf hp
  have H3 := Lib.hid h3
  clear h3
  go_enter Tryz.func74, Tryz.ntmps74
  go_upto_region 16 with (first
    | (at_lookup; refine wpList_look_none _ rfl _ _ rfl bn q rfl HT.out.now rfl hq HN.out ?_)
    | (go_at_call 42; refine (path_call q hq _ HG.out).mono ?_; rintro e w1 ⟨rfl, hb1⟩; rw [HP.out]; have HB1 := Lib.hid hb1; clear hb1)
    | (go_at_call 83; refine (blocked_call _ (HX.out.below HB1.out) q ⟨#[]⟩ hq HO.out.paths).mono ?_; rintro e w2 ⟨rfl, hb2⟩; rw [H3.out]; have HB2 := Lib.hid (HB1.out.trans (hb2.mono HB1.out.size)); clear hb2))
  have c02 := (HB2.out.cell (p := ⟨p, 0, none⟩) hlt).trans c0
  have c12 := (HB2.out.cell (p := ⟨p, 1, none⟩) hlt).trans c1
  have E1 : IntKind.i64.wrap (usedF T.l : Int) = (usedF T.l : Int) := IntWalk.i64_in _ (by omega)
  have E2 : IntKind.i64.wrap ((usedF T.l : Int) + (s.size : Int)) = (usedF T.l : Int) + (s.size : Int) := IntWalk.i64_in _ (by omega)
  have D1 : decide (T.room < (usedF T.l : Int) + (s.size : Int)) = false := decide_eq_false (by omega)
  have D2 : decide ((200 : Int) < (T.l.length : Int) + 1) = true := decide_eq_true (by omega)
  clear h4 h5
  go_cut [58] (fun v58 wc => v58 = .bool true ∧ Hid (Below w.heap.size w wc))
  case first =>
    first | (go_region_held3 (fun w' => w'.cell? ⟨p, 0, none⟩ = some (.int .i64 T.room) ∧ Hid (Below w.heap.size w w')) (first | exact ⟨c02, HB2.out.drew⟩ | exact ⟨c03, HB3⟩) (first | (go_at_call 37; refine (used_call _ (HX.out.below HB2.out.drew) hused).mono ?_; rintro e w3 ⟨rfl, hb3⟩; have c03 := (hb3.cell (p := ⟨p, 0, none⟩) (Nat.lt_of_lt_of_le hlt HB2.out.size)).trans c02; have HB3 := Lib.hid (HB2.out.drew.trans (hb3.mono HB2.out.size)); clear hb3))) | fail
    all_goals
      go_wp2_with fail
      go_meet
      exact ⟨rfl, HB3⟩
  case rest =>
    obtain ⟨rfl, HBc⟩ := hcut
    go_wp2_with fail
    go_ret
    exact ⟨rfl, HBc.out⟩
set_option maxHeartbeats 4000000 in
set_option maxRecDepth 100000 in
theorem wr_n_false_ok (hT : Tr w φ p T A) (hG : Glob w) (hO : TOK T) (hq : q.size ≤ 100000) (hs : s.size ≤ 1000000000) (hf : findF T.l q = none) (hp : pathV q = true) (h2 : s.size ≤ 16777216) (h3 : blockT T.l q ⟨#[]⟩ = false) (h4 : ¬ T.room < (usedF T.l : Int) - 0 + ((s.size : Nat) : Int)) (h5 : T.l.length + 1 ≤ 200) :
    Calls Tryz.prog 74 #[.pointer (some ⟨p, 0, none⟩), .string q, .string s, .bool false] w fun e w' => e = .returned (.int .i64 0) ∧ TrEnd w φ p A (doneT T ⟨1, q, s, T.clock + 1⟩) w' := by
  have HX := Lib.hid hT
  have HG := Lib.hid hG
  have HO := Lib.hid hO
  have hroom := hO.room
  have hclock := hO.clock
  have hmany := hO.many
  have hused := hO.used
  have HN := Lib.hid hf
  have HP := Lib.hid hp
  obtain ⟨bn, bl, v, h⟩ := hT
  have HT := Lib.hid h
  have c2 := h.c2
  have c0 := h.c0
  have c1 := h.c1
  have hlt := h.lt
  have hlen := fun ty => h.now.len ty
  clear h hO hG hf hp
  have H3 := Lib.hid h3
  clear h3
  go_enter Tryz.func74, Tryz.ntmps74
  go_upto_region 16 with (first
    | (at_lookup; refine wpList_look_none _ rfl _ _ rfl bn q rfl HT.out.now rfl hq HN.out ?_)
    | (go_at_call 42; refine (path_call q hq _ HG.out).mono ?_; rintro e w1 ⟨rfl, hb1⟩; rw [HP.out]; have HB1 := Lib.hid hb1; clear hb1)
    | (go_at_call 83; refine (blocked_call _ (HX.out.below HB1.out) q ⟨#[]⟩ hq HO.out.paths).mono ?_; rintro e w2 ⟨rfl, hb2⟩; rw [H3.out]; have HB2 := Lib.hid (HB1.out.trans (hb2.mono HB1.out.size)); clear hb2))
  have c02 := (HB2.out.cell (p := ⟨p, 0, none⟩) hlt).trans c0
  have c12 := (HB2.out.cell (p := ⟨p, 1, none⟩) hlt).trans c1
  have E1 : IntKind.i64.wrap (usedF T.l : Int) = (usedF T.l : Int) := IntWalk.i64_in _ (by omega)
  have E2 : IntKind.i64.wrap ((usedF T.l : Int) + (s.size : Int)) = (usedF T.l : Int) + (s.size : Int) := IntWalk.i64_in _ (by omega)
  have D1 : decide (T.room < (usedF T.l : Int) + (s.size : Int)) = false := decide_eq_false (by omega)
  have D2 : decide ((200 : Int) < (T.l.length : Int) + 1) = false := decide_eq_false (by omega)
  clear h4 h5
  go_cut [58] (fun v58 wc => v58 = .bool false ∧ Hid (Below w.heap.size w wc))
  case first =>
    first | (go_region_held3 (fun w' => w'.cell? ⟨p, 0, none⟩ = some (.int .i64 T.room) ∧ Hid (Below w.heap.size w w')) (first | exact ⟨c02, HB2.out.drew⟩ | exact ⟨c03, HB3⟩) (first | (go_at_call 37; refine (used_call _ (HX.out.below HB2.out.drew) hused).mono ?_; rintro e w3 ⟨rfl, hb3⟩; have c03 := (hb3.cell (p := ⟨p, 0, none⟩) (Nat.lt_of_lt_of_le hlt HB2.out.size)).trans c02; have HB3 := Lib.hid (HB2.out.drew.trans (hb3.mono HB2.out.size)); clear hb3))) | fail
    all_goals
      go_wp2_with fail
      go_meet
      exact ⟨rfl, HB3⟩
  case rest =>
    obtain ⟨rfl, HBc⟩ := hcut
    have cc1 := (HBc.out.cell (p := ⟨p, 1, none⟩) hlt).trans c1
    have HD : Hid (∀ W, Tr W φ p T A → Calls Tryz.prog 80 #[.pointer (some ⟨p, 0, none⟩), .agg #[.int .i64 0, .string q, .string s, .int .i64 (T.clock + 1)]] W fun e w' => e = .returned (.int .i64 0) ∧ TrEnd W φ p A (doneT T ⟨1, q, s, T.clock + 1⟩) w') := fun W hW =>
      done_call W hW ⟨1, q, s, T.clock + 1⟩ ⟨.inl rfl, hq, hs, fun e => absurd e (show ¬ ((1 : Int) = 4) by decide)⟩ HO.out.many (fun f hf => Nat.le_trans (HO.out.texts f hf) (by decide)) HO.out.clock HO.out.chs
    go_wp2_with (first
      | (go_at_call 80; refine (HD.out _ (HX.out.below HBc.out)).mono ?_; rintro e w4 ⟨rfl, he4⟩; have HE4 := Lib.hid he4; clear he4))
    go_ret
    exact ⟨rfl, HE4.out.left HBc.out⟩
set_option maxHeartbeats 4000000 in
set_option maxRecDepth 100000 in
theorem wr_s_true_e1 (hT : Tr w φ p T A) (hG : Glob w) (hO : TOK T) (hq : q.size ≤ 100000) (hs : s.size ≤ 1000000000) (f : Fl) (hf : findF T.l q = some f) (hf1 : f.f1.size ≤ 1000000000) (hp : pathV q = false) :
    Calls Tryz.prog 74 #[.pointer (some ⟨p, 0, none⟩), .string q, .string s, .bool true] w fun e w' => e = .returned (.int .i64 1) ∧ Below w.heap.size w w' := by
  have HX := Lib.hid hT
  have HG := Lib.hid hG
  have HO := Lib.hid hO
  have hroom := hO.room
  have hclock := hO.clock
  have hmany := hO.many
  have hused := hO.used
  have HN := Lib.hid hf
  have HP := Lib.hid hp
  obtain ⟨bn, bl, v, h⟩ := hT
  have HT := Lib.hid h
  have c2 := h.c2
  have c0 := h.c0
  have c1 := h.c1
  have hlt := h.lt
  have hlen := fun ty => h.now.len ty
  clear h hO hG hf hp
  go_enter Tryz.func74, Tryz.ntmps74
  go_wp2_with (first
    | (at_lookup; refine wpList_look_some _ rfl _ _ rfl bn q rfl HT.out.now rfl hq _ HN.out ?_; intro qb hqb; have hq0 := HT.out.files.cell0 hqb; clear hqb)
    | (go_at_call 42; refine (path_call q hq _ HG.out).mono ?_; rintro e w1 ⟨rfl, hb1⟩; rw [HP.out]; have HB1 := Lib.hid hb1; clear hb1))
  go_ret
  exact ⟨rfl, HB1.out⟩
set_option maxHeartbeats 4000000 in
set_option maxRecDepth 100000 in
theorem wr_s_true_e3 (hT : Tr w φ p T A) (hG : Glob w) (hO : TOK T) (hq : q.size ≤ 100000) (hs : s.size ≤ 1000000000) (f : Fl) (hf : findF T.l q = some f) (hf1 : f.f1.size ≤ 1000000000) (hp : pathV q = true) (h2 : 16777216 < s.size + f.f1.size) :
    Calls Tryz.prog 74 #[.pointer (some ⟨p, 0, none⟩), .string q, .string s, .bool true] w fun e w' => e = .returned (.int .i64 3) ∧ Below w.heap.size w w' := by
  have HX := Lib.hid hT
  have HG := Lib.hid hG
  have HO := Lib.hid hO
  have hroom := hO.room
  have hclock := hO.clock
  have hmany := hO.many
  have hused := hO.used
  have HN := Lib.hid hf
  have HP := Lib.hid hp
  obtain ⟨bn, bl, v, h⟩ := hT
  have HT := Lib.hid h
  have c2 := h.c2
  have c0 := h.c0
  have c1 := h.c1
  have hlt := h.lt
  have hlen := fun ty => h.now.len ty
  clear h hO hG hf hp
  go_enter Tryz.func74, Tryz.ntmps74
  go_wp2_with (first
    | (at_lookup; refine wpList_look_some _ rfl _ _ rfl bn q rfl HT.out.now rfl hq _ HN.out ?_; intro qb hqb; have hq0 := HT.out.files.cell0 hqb; clear hqb)
    | (go_at_call 42; refine (path_call q hq _ HG.out).mono ?_; rintro e w1 ⟨rfl, hb1⟩; rw [HP.out]; have HB1 := Lib.hid hb1; clear hb1))
  go_ret
  exact ⟨rfl, HB1.out⟩
set_option maxHeartbeats 4000000 in
set_option maxRecDepth 100000 in
theorem wr_s_true_e5 (hT : Tr w φ p T A) (hG : Glob w) (hO : TOK T) (hq : q.size ≤ 100000) (hs : s.size ≤ 1000000000) (f : Fl) (hf : findF T.l q = some f) (hf1 : f.f1.size ≤ 1000000000) (hp : pathV q = true) (h2 : s.size + f.f1.size ≤ 16777216) (h3 : blockT T.l q ⟨#[]⟩ = true) :
    Calls Tryz.prog 74 #[.pointer (some ⟨p, 0, none⟩), .string q, .string s, .bool true] w fun e w' => e = .returned (.int .i64 5) ∧ Below w.heap.size w w' := by
  have HX := Lib.hid hT
  have HG := Lib.hid hG
  have HO := Lib.hid hO
  have hroom := hO.room
  have hclock := hO.clock
  have hmany := hO.many
  have hused := hO.used
  have HN := Lib.hid hf
  have HP := Lib.hid hp
  obtain ⟨bn, bl, v, h⟩ := hT
  have HT := Lib.hid h
  have c2 := h.c2
  have c0 := h.c0
  have c1 := h.c1
  have hlt := h.lt
  have hlen := fun ty => h.now.len ty
  clear h hO hG hf hp
  have H3 := Lib.hid h3
  clear h3
  go_enter Tryz.func74, Tryz.ntmps74
  go_wp2_with (first
    | (at_lookup; refine wpList_look_some _ rfl _ _ rfl bn q rfl HT.out.now rfl hq _ HN.out ?_; intro qb hqb; have hq0 := HT.out.files.cell0 hqb; clear hqb)
    | (go_at_call 42; refine (path_call q hq _ HG.out).mono ?_; rintro e w1 ⟨rfl, hb1⟩; rw [HP.out]; have HB1 := Lib.hid hb1; clear hb1)
    | (go_at_call 83; refine (blocked_call _ (HX.out.below HB1.out) q ⟨#[]⟩ hq HO.out.paths).mono ?_; rintro e w2 ⟨rfl, hb2⟩; rw [H3.out]; have HB2 := Lib.hid (HB1.out.trans (hb2.mono HB1.out.size)); clear hb2))
  go_ret
  exact ⟨rfl, HB2.out⟩
set_option maxHeartbeats 4000000 in
set_option maxRecDepth 100000 in
theorem wr_s_true_e6 (hT : Tr w φ p T A) (hG : Glob w) (hO : TOK T) (hq : q.size ≤ 100000) (hs : s.size ≤ 1000000000) (f : Fl) (hf : findF T.l q = some f) (hf1 : f.f1.size ≤ 1000000000) (hp : pathV q = true) (h2 : s.size + f.f1.size ≤ 16777216) (h3 : blockT T.l q ⟨#[]⟩ = false) (h4 : T.room < (usedF T.l : Int) - (f.f1.size : Int) + ((s.size + f.f1.size : Nat) : Int)) :
    Calls Tryz.prog 74 #[.pointer (some ⟨p, 0, none⟩), .string q, .string s, .bool true] w fun e w' => e = .returned (.int .i64 6) ∧ Below w.heap.size w w' := by
  have HX := Lib.hid hT
  have HG := Lib.hid hG
  have HO := Lib.hid hO
  have hroom := hO.room
  have hclock := hO.clock
  have hmany := hO.many
  have hused := hO.used
  have HN := Lib.hid hf
  have HP := Lib.hid hp
  obtain ⟨bn, bl, v, h⟩ := hT
  have HT := Lib.hid h
  have c2 := h.c2
  have c0 := h.c0
  have c1 := h.c1
  have hlt := h.lt
  have hlen := fun ty => h.now.len ty
  clear h hO hG hf hp
  have H3 := Lib.hid h3
  clear h3
  go_enter Tryz.func74, Tryz.ntmps74
  go_upto_region 16 with (first
    | (at_lookup; refine wpList_look_some _ rfl _ _ rfl bn q rfl HT.out.now rfl hq _ HN.out ?_; intro qb hqb; have hq0 := HT.out.files.cell0 hqb; clear hqb)
    | (go_at_call 42; refine (path_call q hq _ HG.out).mono ?_; rintro e w1 ⟨rfl, hb1⟩; rw [HP.out]; have HB1 := Lib.hid hb1; clear hb1)
    | (go_at_call 83; refine (blocked_call _ (HX.out.below HB1.out) q ⟨#[]⟩ hq HO.out.paths).mono ?_; rintro e w2 ⟨rfl, hb2⟩; rw [H3.out]; have HB2 := Lib.hid (HB1.out.trans (hb2.mono HB1.out.size)); clear hb2))
  have c02 := (HB2.out.cell (p := ⟨p, 0, none⟩) hlt).trans c0
  have c12 := (HB2.out.cell (p := ⟨p, 1, none⟩) hlt).trans c1
  have E1 : IntKind.i64.wrap ((usedF T.l : Int) - (f.f1.size : Int)) = ((usedF T.l : Int) - (f.f1.size : Int)) := IntWalk.i64_in _ (by omega)
  have E2 : IntKind.i64.wrap (((usedF T.l : Int) - (f.f1.size : Int)) + ((s.size : Int) + (f.f1.size : Int))) = ((usedF T.l : Int) - (f.f1.size : Int)) + ((s.size : Int) + (f.f1.size : Int)) := IntWalk.i64_in _ (by omega)
  have D1 : decide (T.room < ((usedF T.l : Int) - (f.f1.size : Int)) + ((s.size : Int) + (f.f1.size : Int))) = true := decide_eq_true (by omega)
  clear h4
  go_cut [58] (fun v58 wc => v58 = .bool true ∧ Hid (Below w.heap.size w wc))
  case first =>
    first | (go_region_with (first | (go_at_call 37; refine (used_call _ (HX.out.below HB2.out.drew) hused).mono ?_; rintro e w3 ⟨rfl, hb3⟩; have c03 := (hb3.cell (p := ⟨p, 0, none⟩) (Nat.lt_of_lt_of_le hlt HB2.out.size)).trans c02; have HB3 := Lib.hid (HB2.out.drew.trans (hb3.mono HB2.out.size)); clear hb3))) | fail
    all_goals
      go_wp2_with fail
      go_meet
      exact ⟨rfl, HB3⟩
  case rest =>
    obtain ⟨rfl, HBc⟩ := hcut
    go_wp2_with fail
    go_ret
    exact ⟨rfl, HBc.out⟩
set_option maxHeartbeats 4000000 in
set_option maxRecDepth 100000 in
theorem wr_s_true_e7 (hT : Tr w φ p T A) (hG : Glob w) (hO : TOK T) (hq : q.size ≤ 100000) (hs : s.size ≤ 1000000000) (f : Fl) (hf : findF T.l q = some f) (hf1 : f.f1.size ≤ 1000000000) (hp : pathV q = true) (h2 : s.size + f.f1.size ≤ 16777216) (h3 : blockT T.l q ⟨#[]⟩ = false) (h4 : ¬ T.room < (usedF T.l : Int) - (f.f1.size : Int) + ((s.size + f.f1.size : Nat) : Int)) (h5 : 200 < T.l.length) :
    Calls Tryz.prog 74 #[.pointer (some ⟨p, 0, none⟩), .string q, .string s, .bool true] w fun e w' => e = .returned (.int .i64 6) ∧ Below w.heap.size w w' := by
  have HX := Lib.hid hT
  have HG := Lib.hid hG
  have HO := Lib.hid hO
  have hroom := hO.room
  have hclock := hO.clock
  have hmany := hO.many
  have hused := hO.used
  have HN := Lib.hid hf
  have HP := Lib.hid hp
  obtain ⟨bn, bl, v, h⟩ := hT
  have HT := Lib.hid h
  have c2 := h.c2
  have c0 := h.c0
  have c1 := h.c1
  have hlt := h.lt
  have hlen := fun ty => h.now.len ty
  clear h hO hG hf hp
  have H3 := Lib.hid h3
  clear h3
  go_enter Tryz.func74, Tryz.ntmps74
  go_upto_region 16 with (first
    | (at_lookup; refine wpList_look_some _ rfl _ _ rfl bn q rfl HT.out.now rfl hq _ HN.out ?_; intro qb hqb; have hq0 := HT.out.files.cell0 hqb; clear hqb)
    | (go_at_call 42; refine (path_call q hq _ HG.out).mono ?_; rintro e w1 ⟨rfl, hb1⟩; rw [HP.out]; have HB1 := Lib.hid hb1; clear hb1)
    | (go_at_call 83; refine (blocked_call _ (HX.out.below HB1.out) q ⟨#[]⟩ hq HO.out.paths).mono ?_; rintro e w2 ⟨rfl, hb2⟩; rw [H3.out]; have HB2 := Lib.hid (HB1.out.trans (hb2.mono HB1.out.size)); clear hb2))
  have c02 := (HB2.out.cell (p := ⟨p, 0, none⟩) hlt).trans c0
  have c12 := (HB2.out.cell (p := ⟨p, 1, none⟩) hlt).trans c1
  have E1 : IntKind.i64.wrap ((usedF T.l : Int) - (f.f1.size : Int)) = ((usedF T.l : Int) - (f.f1.size : Int)) := IntWalk.i64_in _ (by omega)
  have E2 : IntKind.i64.wrap (((usedF T.l : Int) - (f.f1.size : Int)) + ((s.size : Int) + (f.f1.size : Int))) = ((usedF T.l : Int) - (f.f1.size : Int)) + ((s.size : Int) + (f.f1.size : Int)) := IntWalk.i64_in _ (by omega)
  have D1 : decide (T.room < ((usedF T.l : Int) - (f.f1.size : Int)) + ((s.size : Int) + (f.f1.size : Int))) = false := decide_eq_false (by omega)
  have D2 : decide ((200 : Int) < (T.l.length : Int)) = true := decide_eq_true (by omega)
  clear h4 h5
  go_cut [58] (fun v58 wc => v58 = .bool true ∧ Hid (Below w.heap.size w wc))
  case first =>
    first | (go_region_held3 (fun w' => w'.cell? ⟨p, 0, none⟩ = some (.int .i64 T.room) ∧ Hid (Below w.heap.size w w')) (first | exact ⟨c02, HB2.out.drew⟩ | exact ⟨c03, HB3⟩) (first | (go_at_call 37; refine (used_call _ (HX.out.below HB2.out.drew) hused).mono ?_; rintro e w3 ⟨rfl, hb3⟩; have c03 := (hb3.cell (p := ⟨p, 0, none⟩) (Nat.lt_of_lt_of_le hlt HB2.out.size)).trans c02; have HB3 := Lib.hid (HB2.out.drew.trans (hb3.mono HB2.out.size)); clear hb3))) | fail
    all_goals
      go_wp2_with fail
      go_meet
      exact ⟨rfl, HB3⟩
  case rest =>
    obtain ⟨rfl, HBc⟩ := hcut
    go_wp2_with fail
    go_ret
    exact ⟨rfl, HBc.out⟩
set_option maxHeartbeats 4000000 in
set_option maxRecDepth 100000 in
theorem wr_s_true_ok (hT : Tr w φ p T A) (hG : Glob w) (hO : TOK T) (hq : q.size ≤ 100000) (hs : s.size ≤ 1000000000) (f : Fl) (hf : findF T.l q = some f) (hf1 : f.f1.size ≤ 1000000000) (hp : pathV q = true) (h2 : s.size + f.f1.size ≤ 16777216) (h3 : blockT T.l q ⟨#[]⟩ = false) (h4 : ¬ T.room < (usedF T.l : Int) - (f.f1.size : Int) + ((s.size + f.f1.size : Nat) : Int)) (h5 : T.l.length ≤ 200) :
    Calls Tryz.prog 74 #[.pointer (some ⟨p, 0, none⟩), .string q, .string s, .bool true] w fun e w' => e = .returned (.int .i64 0) ∧ TrEnd w φ p A (doneT T ⟨2, q, s, T.clock + 1⟩) w' := by
  have HX := Lib.hid hT
  have HG := Lib.hid hG
  have HO := Lib.hid hO
  have hroom := hO.room
  have hclock := hO.clock
  have hmany := hO.many
  have hused := hO.used
  have HN := Lib.hid hf
  have HP := Lib.hid hp
  obtain ⟨bn, bl, v, h⟩ := hT
  have HT := Lib.hid h
  have c2 := h.c2
  have c0 := h.c0
  have c1 := h.c1
  have hlt := h.lt
  have hlen := fun ty => h.now.len ty
  clear h hO hG hf hp
  have H3 := Lib.hid h3
  clear h3
  go_enter Tryz.func74, Tryz.ntmps74
  go_upto_region 16 with (first
    | (at_lookup; refine wpList_look_some _ rfl _ _ rfl bn q rfl HT.out.now rfl hq _ HN.out ?_; intro qb hqb; have hq0 := HT.out.files.cell0 hqb; clear hqb)
    | (go_at_call 42; refine (path_call q hq _ HG.out).mono ?_; rintro e w1 ⟨rfl, hb1⟩; rw [HP.out]; have HB1 := Lib.hid hb1; clear hb1)
    | (go_at_call 83; refine (blocked_call _ (HX.out.below HB1.out) q ⟨#[]⟩ hq HO.out.paths).mono ?_; rintro e w2 ⟨rfl, hb2⟩; rw [H3.out]; have HB2 := Lib.hid (HB1.out.trans (hb2.mono HB1.out.size)); clear hb2))
  have c02 := (HB2.out.cell (p := ⟨p, 0, none⟩) hlt).trans c0
  have c12 := (HB2.out.cell (p := ⟨p, 1, none⟩) hlt).trans c1
  have E1 : IntKind.i64.wrap ((usedF T.l : Int) - (f.f1.size : Int)) = ((usedF T.l : Int) - (f.f1.size : Int)) := IntWalk.i64_in _ (by omega)
  have E2 : IntKind.i64.wrap (((usedF T.l : Int) - (f.f1.size : Int)) + ((s.size : Int) + (f.f1.size : Int))) = ((usedF T.l : Int) - (f.f1.size : Int)) + ((s.size : Int) + (f.f1.size : Int)) := IntWalk.i64_in _ (by omega)
  have D1 : decide (T.room < ((usedF T.l : Int) - (f.f1.size : Int)) + ((s.size : Int) + (f.f1.size : Int))) = false := decide_eq_false (by omega)
  have D2 : decide ((200 : Int) < (T.l.length : Int)) = false := decide_eq_false (by omega)
  clear h4 h5
  go_cut [58] (fun v58 wc => v58 = .bool false ∧ Hid (Below w.heap.size w wc))
  case first =>
    first | (go_region_held3 (fun w' => w'.cell? ⟨p, 0, none⟩ = some (.int .i64 T.room) ∧ Hid (Below w.heap.size w w')) (first | exact ⟨c02, HB2.out.drew⟩ | exact ⟨c03, HB3⟩) (first | (go_at_call 37; refine (used_call _ (HX.out.below HB2.out.drew) hused).mono ?_; rintro e w3 ⟨rfl, hb3⟩; have c03 := (hb3.cell (p := ⟨p, 0, none⟩) (Nat.lt_of_lt_of_le hlt HB2.out.size)).trans c02; have HB3 := Lib.hid (HB2.out.drew.trans (hb3.mono HB2.out.size)); clear hb3))) | fail
    all_goals
      go_wp2_with fail
      go_meet
      exact ⟨rfl, HB3⟩
  case rest =>
    obtain ⟨rfl, HBc⟩ := hcut
    have cc1 := (HBc.out.cell (p := ⟨p, 1, none⟩) hlt).trans c1
    have HD : Hid (∀ W, Tr W φ p T A → Calls Tryz.prog 80 #[.pointer (some ⟨p, 0, none⟩), .agg #[.int .i64 1, .string q, .string s, .int .i64 (T.clock + 1)]] W fun e w' => e = .returned (.int .i64 0) ∧ TrEnd W φ p A (doneT T ⟨2, q, s, T.clock + 1⟩) w') := fun W hW =>
      done_call W hW ⟨2, q, s, T.clock + 1⟩ ⟨.inr (.inl rfl), hq, hs, fun e => absurd e (show ¬ ((2 : Int) = 4) by decide)⟩ HO.out.many (fun f hf => Nat.le_trans (HO.out.texts f hf) (by decide)) HO.out.clock HO.out.chs
    go_wp2_with (first
      | (go_at_call 80; refine (HD.out _ (HX.out.below HBc.out)).mono ?_; rintro e w4 ⟨rfl, he4⟩; have HE4 := Lib.hid he4; clear he4))
    go_ret
    exact ⟨rfl, HE4.out.left HBc.out⟩
set_option maxHeartbeats 4000000 in
set_option maxRecDepth 100000 in
theorem wr_s_false_e1 (hT : Tr w φ p T A) (hG : Glob w) (hO : TOK T) (hq : q.size ≤ 100000) (hs : s.size ≤ 1000000000) (f : Fl) (hf : findF T.l q = some f) (hf1 : f.f1.size ≤ 1000000000) (hp : pathV q = false) :
    Calls Tryz.prog 74 #[.pointer (some ⟨p, 0, none⟩), .string q, .string s, .bool false] w fun e w' => e = .returned (.int .i64 1) ∧ Below w.heap.size w w' := by
  have HX := Lib.hid hT
  have HG := Lib.hid hG
  have HO := Lib.hid hO
  have hroom := hO.room
  have hclock := hO.clock
  have hmany := hO.many
  have hused := hO.used
  have HN := Lib.hid hf
  have HP := Lib.hid hp
  obtain ⟨bn, bl, v, h⟩ := hT
  have HT := Lib.hid h
  have c2 := h.c2
  have c0 := h.c0
  have c1 := h.c1
  have hlt := h.lt
  have hlen := fun ty => h.now.len ty
  clear h hO hG hf hp
  go_enter Tryz.func74, Tryz.ntmps74
  go_wp2_with (first
    | (at_lookup; refine wpList_look_some _ rfl _ _ rfl bn q rfl HT.out.now rfl hq _ HN.out ?_; intro qb hqb; have hq0 := HT.out.files.cell0 hqb; clear hqb)
    | (go_at_call 42; refine (path_call q hq _ HG.out).mono ?_; rintro e w1 ⟨rfl, hb1⟩; rw [HP.out]; have HB1 := Lib.hid hb1; clear hb1))
  go_ret
  exact ⟨rfl, HB1.out⟩
set_option maxHeartbeats 4000000 in
set_option maxRecDepth 100000 in
theorem wr_s_false_e3 (hT : Tr w φ p T A) (hG : Glob w) (hO : TOK T) (hq : q.size ≤ 100000) (hs : s.size ≤ 1000000000) (f : Fl) (hf : findF T.l q = some f) (hf1 : f.f1.size ≤ 1000000000) (hp : pathV q = true) (h2 : 16777216 < s.size) :
    Calls Tryz.prog 74 #[.pointer (some ⟨p, 0, none⟩), .string q, .string s, .bool false] w fun e w' => e = .returned (.int .i64 3) ∧ Below w.heap.size w w' := by
  have HX := Lib.hid hT
  have HG := Lib.hid hG
  have HO := Lib.hid hO
  have hroom := hO.room
  have hclock := hO.clock
  have hmany := hO.many
  have hused := hO.used
  have HN := Lib.hid hf
  have HP := Lib.hid hp
  obtain ⟨bn, bl, v, h⟩ := hT
  have HT := Lib.hid h
  have c2 := h.c2
  have c0 := h.c0
  have c1 := h.c1
  have hlt := h.lt
  have hlen := fun ty => h.now.len ty
  clear h hO hG hf hp
  go_enter Tryz.func74, Tryz.ntmps74
  go_wp2_with (first
    | (at_lookup; refine wpList_look_some _ rfl _ _ rfl bn q rfl HT.out.now rfl hq _ HN.out ?_; intro qb hqb; have hq0 := HT.out.files.cell0 hqb; clear hqb)
    | (go_at_call 42; refine (path_call q hq _ HG.out).mono ?_; rintro e w1 ⟨rfl, hb1⟩; rw [HP.out]; have HB1 := Lib.hid hb1; clear hb1))
  go_ret
  exact ⟨rfl, HB1.out⟩
set_option maxHeartbeats 4000000 in
set_option maxRecDepth 100000 in
theorem wr_s_false_e5 (hT : Tr w φ p T A) (hG : Glob w) (hO : TOK T) (hq : q.size ≤ 100000) (hs : s.size ≤ 1000000000) (f : Fl) (hf : findF T.l q = some f) (hf1 : f.f1.size ≤ 1000000000) (hp : pathV q = true) (h2 : s.size ≤ 16777216) (h3 : blockT T.l q ⟨#[]⟩ = true) :
    Calls Tryz.prog 74 #[.pointer (some ⟨p, 0, none⟩), .string q, .string s, .bool false] w fun e w' => e = .returned (.int .i64 5) ∧ Below w.heap.size w w' := by
  have HX := Lib.hid hT
  have HG := Lib.hid hG
  have HO := Lib.hid hO
  have hroom := hO.room
  have hclock := hO.clock
  have hmany := hO.many
  have hused := hO.used
  have HN := Lib.hid hf
  have HP := Lib.hid hp
  obtain ⟨bn, bl, v, h⟩ := hT
  have HT := Lib.hid h
  have c2 := h.c2
  have c0 := h.c0
  have c1 := h.c1
  have hlt := h.lt
  have hlen := fun ty => h.now.len ty
  clear h hO hG hf hp
  have H3 := Lib.hid h3
  clear h3
  go_enter Tryz.func74, Tryz.ntmps74
  go_wp2_with (first
    | (at_lookup; refine wpList_look_some _ rfl _ _ rfl bn q rfl HT.out.now rfl hq _ HN.out ?_; intro qb hqb; have hq0 := HT.out.files.cell0 hqb; clear hqb)
    | (go_at_call 42; refine (path_call q hq _ HG.out).mono ?_; rintro e w1 ⟨rfl, hb1⟩; rw [HP.out]; have HB1 := Lib.hid hb1; clear hb1)
    | (go_at_call 83; refine (blocked_call _ (HX.out.below HB1.out) q ⟨#[]⟩ hq HO.out.paths).mono ?_; rintro e w2 ⟨rfl, hb2⟩; rw [H3.out]; have HB2 := Lib.hid (HB1.out.trans (hb2.mono HB1.out.size)); clear hb2))
  go_ret
  exact ⟨rfl, HB2.out⟩
set_option maxHeartbeats 4000000 in
set_option maxRecDepth 100000 in
theorem wr_s_false_e6 (hT : Tr w φ p T A) (hG : Glob w) (hO : TOK T) (hq : q.size ≤ 100000) (hs : s.size ≤ 1000000000) (f : Fl) (hf : findF T.l q = some f) (hf1 : f.f1.size ≤ 1000000000) (hp : pathV q = true) (h2 : s.size ≤ 16777216) (h3 : blockT T.l q ⟨#[]⟩ = false) (h4 : T.room < (usedF T.l : Int) - (f.f1.size : Int) + ((s.size : Nat) : Int)) :
    Calls Tryz.prog 74 #[.pointer (some ⟨p, 0, none⟩), .string q, .string s, .bool false] w fun e w' => e = .returned (.int .i64 6) ∧ Below w.heap.size w w' := by
  have HX := Lib.hid hT
  have HG := Lib.hid hG
  have HO := Lib.hid hO
  have hroom := hO.room
  have hclock := hO.clock
  have hmany := hO.many
  have hused := hO.used
  have HN := Lib.hid hf
  have HP := Lib.hid hp
  obtain ⟨bn, bl, v, h⟩ := hT
  have HT := Lib.hid h
  have c2 := h.c2
  have c0 := h.c0
  have c1 := h.c1
  have hlt := h.lt
  have hlen := fun ty => h.now.len ty
  clear h hO hG hf hp
  have H3 := Lib.hid h3
  clear h3
  go_enter Tryz.func74, Tryz.ntmps74
  go_upto_region 16 with (first
    | (at_lookup; refine wpList_look_some _ rfl _ _ rfl bn q rfl HT.out.now rfl hq _ HN.out ?_; intro qb hqb; have hq0 := HT.out.files.cell0 hqb; clear hqb)
    | (go_at_call 42; refine (path_call q hq _ HG.out).mono ?_; rintro e w1 ⟨rfl, hb1⟩; rw [HP.out]; have HB1 := Lib.hid hb1; clear hb1)
    | (go_at_call 83; refine (blocked_call _ (HX.out.below HB1.out) q ⟨#[]⟩ hq HO.out.paths).mono ?_; rintro e w2 ⟨rfl, hb2⟩; rw [H3.out]; have HB2 := Lib.hid (HB1.out.trans (hb2.mono HB1.out.size)); clear hb2))
  have c02 := (HB2.out.cell (p := ⟨p, 0, none⟩) hlt).trans c0
  have c12 := (HB2.out.cell (p := ⟨p, 1, none⟩) hlt).trans c1
  have E1 : IntKind.i64.wrap ((usedF T.l : Int) - (f.f1.size : Int)) = ((usedF T.l : Int) - (f.f1.size : Int)) := IntWalk.i64_in _ (by omega)
  have E2 : IntKind.i64.wrap (((usedF T.l : Int) - (f.f1.size : Int)) + (s.size : Int)) = ((usedF T.l : Int) - (f.f1.size : Int)) + (s.size : Int) := IntWalk.i64_in _ (by omega)
  have D1 : decide (T.room < ((usedF T.l : Int) - (f.f1.size : Int)) + (s.size : Int)) = true := decide_eq_true (by omega)
  clear h4
  go_cut [58] (fun v58 wc => v58 = .bool true ∧ Hid (Below w.heap.size w wc))
  case first =>
    first | (go_region_with (first | (go_at_call 37; refine (used_call _ (HX.out.below HB2.out.drew) hused).mono ?_; rintro e w3 ⟨rfl, hb3⟩; have c03 := (hb3.cell (p := ⟨p, 0, none⟩) (Nat.lt_of_lt_of_le hlt HB2.out.size)).trans c02; have HB3 := Lib.hid (HB2.out.drew.trans (hb3.mono HB2.out.size)); clear hb3))) | fail
    all_goals
      go_wp2_with fail
      go_meet
      exact ⟨rfl, HB3⟩
  case rest =>
    obtain ⟨rfl, HBc⟩ := hcut
    go_wp2_with fail
    go_ret
    exact ⟨rfl, HBc.out⟩
set_option maxHeartbeats 4000000 in
set_option maxRecDepth 100000 in
theorem wr_s_false_e7 (hT : Tr w φ p T A) (hG : Glob w) (hO : TOK T) (hq : q.size ≤ 100000) (hs : s.size ≤ 1000000000) (f : Fl) (hf : findF T.l q = some f) (hf1 : f.f1.size ≤ 1000000000) (hp : pathV q = true) (h2 : s.size ≤ 16777216) (h3 : blockT T.l q ⟨#[]⟩ = false) (h4 : ¬ T.room < (usedF T.l : Int) - (f.f1.size : Int) + ((s.size : Nat) : Int)) (h5 : 200 < T.l.length) :
    Calls Tryz.prog 74 #[.pointer (some ⟨p, 0, none⟩), .string q, .string s, .bool false] w fun e w' => e = .returned (.int .i64 6) ∧ Below w.heap.size w w' := by
  have HX := Lib.hid hT
  have HG := Lib.hid hG
  have HO := Lib.hid hO
  have hroom := hO.room
  have hclock := hO.clock
  have hmany := hO.many
  have hused := hO.used
  have HN := Lib.hid hf
  have HP := Lib.hid hp
  obtain ⟨bn, bl, v, h⟩ := hT
  have HT := Lib.hid h
  have c2 := h.c2
  have c0 := h.c0
  have c1 := h.c1
  have hlt := h.lt
  have hlen := fun ty => h.now.len ty
  clear h hO hG hf hp
  have H3 := Lib.hid h3
  clear h3
  go_enter Tryz.func74, Tryz.ntmps74
  go_upto_region 16 with (first
    | (at_lookup; refine wpList_look_some _ rfl _ _ rfl bn q rfl HT.out.now rfl hq _ HN.out ?_; intro qb hqb; have hq0 := HT.out.files.cell0 hqb; clear hqb)
    | (go_at_call 42; refine (path_call q hq _ HG.out).mono ?_; rintro e w1 ⟨rfl, hb1⟩; rw [HP.out]; have HB1 := Lib.hid hb1; clear hb1)
    | (go_at_call 83; refine (blocked_call _ (HX.out.below HB1.out) q ⟨#[]⟩ hq HO.out.paths).mono ?_; rintro e w2 ⟨rfl, hb2⟩; rw [H3.out]; have HB2 := Lib.hid (HB1.out.trans (hb2.mono HB1.out.size)); clear hb2))
  have c02 := (HB2.out.cell (p := ⟨p, 0, none⟩) hlt).trans c0
  have c12 := (HB2.out.cell (p := ⟨p, 1, none⟩) hlt).trans c1
  have E1 : IntKind.i64.wrap ((usedF T.l : Int) - (f.f1.size : Int)) = ((usedF T.l : Int) - (f.f1.size : Int)) := IntWalk.i64_in _ (by omega)
  have E2 : IntKind.i64.wrap (((usedF T.l : Int) - (f.f1.size : Int)) + (s.size : Int)) = ((usedF T.l : Int) - (f.f1.size : Int)) + (s.size : Int) := IntWalk.i64_in _ (by omega)
  have D1 : decide (T.room < ((usedF T.l : Int) - (f.f1.size : Int)) + (s.size : Int)) = false := decide_eq_false (by omega)
  have D2 : decide ((200 : Int) < (T.l.length : Int)) = true := decide_eq_true (by omega)
  clear h4 h5
  go_cut [58] (fun v58 wc => v58 = .bool true ∧ Hid (Below w.heap.size w wc))
  case first =>
    first | (go_region_held3 (fun w' => w'.cell? ⟨p, 0, none⟩ = some (.int .i64 T.room) ∧ Hid (Below w.heap.size w w')) (first | exact ⟨c02, HB2.out.drew⟩ | exact ⟨c03, HB3⟩) (first | (go_at_call 37; refine (used_call _ (HX.out.below HB2.out.drew) hused).mono ?_; rintro e w3 ⟨rfl, hb3⟩; have c03 := (hb3.cell (p := ⟨p, 0, none⟩) (Nat.lt_of_lt_of_le hlt HB2.out.size)).trans c02; have HB3 := Lib.hid (HB2.out.drew.trans (hb3.mono HB2.out.size)); clear hb3))) | fail
    all_goals
      go_wp2_with fail
      go_meet
      exact ⟨rfl, HB3⟩
  case rest =>
    obtain ⟨rfl, HBc⟩ := hcut
    go_wp2_with fail
    go_ret
    exact ⟨rfl, HBc.out⟩
set_option maxHeartbeats 4000000 in
set_option maxRecDepth 100000 in
theorem wr_s_false_ok (hT : Tr w φ p T A) (hG : Glob w) (hO : TOK T) (hq : q.size ≤ 100000) (hs : s.size ≤ 1000000000) (f : Fl) (hf : findF T.l q = some f) (hf1 : f.f1.size ≤ 1000000000) (hp : pathV q = true) (h2 : s.size ≤ 16777216) (h3 : blockT T.l q ⟨#[]⟩ = false) (h4 : ¬ T.room < (usedF T.l : Int) - (f.f1.size : Int) + ((s.size : Nat) : Int)) (h5 : T.l.length ≤ 200) :
    Calls Tryz.prog 74 #[.pointer (some ⟨p, 0, none⟩), .string q, .string s, .bool false] w fun e w' => e = .returned (.int .i64 0) ∧ TrEnd w φ p A (doneT T ⟨1, q, s, T.clock + 1⟩) w' := by
  have HX := Lib.hid hT
  have HG := Lib.hid hG
  have HO := Lib.hid hO
  have hroom := hO.room
  have hclock := hO.clock
  have hmany := hO.many
  have hused := hO.used
  have HN := Lib.hid hf
  have HP := Lib.hid hp
  obtain ⟨bn, bl, v, h⟩ := hT
  have HT := Lib.hid h
  have c2 := h.c2
  have c0 := h.c0
  have c1 := h.c1
  have hlt := h.lt
  have hlen := fun ty => h.now.len ty
  clear h hO hG hf hp
  have H3 := Lib.hid h3
  clear h3
  go_enter Tryz.func74, Tryz.ntmps74
  go_upto_region 16 with (first
    | (at_lookup; refine wpList_look_some _ rfl _ _ rfl bn q rfl HT.out.now rfl hq _ HN.out ?_; intro qb hqb; have hq0 := HT.out.files.cell0 hqb; clear hqb)
    | (go_at_call 42; refine (path_call q hq _ HG.out).mono ?_; rintro e w1 ⟨rfl, hb1⟩; rw [HP.out]; have HB1 := Lib.hid hb1; clear hb1)
    | (go_at_call 83; refine (blocked_call _ (HX.out.below HB1.out) q ⟨#[]⟩ hq HO.out.paths).mono ?_; rintro e w2 ⟨rfl, hb2⟩; rw [H3.out]; have HB2 := Lib.hid (HB1.out.trans (hb2.mono HB1.out.size)); clear hb2))
  have c02 := (HB2.out.cell (p := ⟨p, 0, none⟩) hlt).trans c0
  have c12 := (HB2.out.cell (p := ⟨p, 1, none⟩) hlt).trans c1
  have E1 : IntKind.i64.wrap ((usedF T.l : Int) - (f.f1.size : Int)) = ((usedF T.l : Int) - (f.f1.size : Int)) := IntWalk.i64_in _ (by omega)
  have E2 : IntKind.i64.wrap (((usedF T.l : Int) - (f.f1.size : Int)) + (s.size : Int)) = ((usedF T.l : Int) - (f.f1.size : Int)) + (s.size : Int) := IntWalk.i64_in _ (by omega)
  have D1 : decide (T.room < ((usedF T.l : Int) - (f.f1.size : Int)) + (s.size : Int)) = false := decide_eq_false (by omega)
  have D2 : decide ((200 : Int) < (T.l.length : Int)) = false := decide_eq_false (by omega)
  clear h4 h5
  go_cut [58] (fun v58 wc => v58 = .bool false ∧ Hid (Below w.heap.size w wc))
  case first =>
    first | (go_region_held3 (fun w' => w'.cell? ⟨p, 0, none⟩ = some (.int .i64 T.room) ∧ Hid (Below w.heap.size w w')) (first | exact ⟨c02, HB2.out.drew⟩ | exact ⟨c03, HB3⟩) (first | (go_at_call 37; refine (used_call _ (HX.out.below HB2.out.drew) hused).mono ?_; rintro e w3 ⟨rfl, hb3⟩; have c03 := (hb3.cell (p := ⟨p, 0, none⟩) (Nat.lt_of_lt_of_le hlt HB2.out.size)).trans c02; have HB3 := Lib.hid (HB2.out.drew.trans (hb3.mono HB2.out.size)); clear hb3))) | fail
    all_goals
      go_wp2_with fail
      go_meet
      exact ⟨rfl, HB3⟩
  case rest =>
    obtain ⟨rfl, HBc⟩ := hcut
    have cc1 := (HBc.out.cell (p := ⟨p, 1, none⟩) hlt).trans c1
    have HD : Hid (∀ W, Tr W φ p T A → Calls Tryz.prog 80 #[.pointer (some ⟨p, 0, none⟩), .agg #[.int .i64 0, .string q, .string s, .int .i64 (T.clock + 1)]] W fun e w' => e = .returned (.int .i64 0) ∧ TrEnd W φ p A (doneT T ⟨1, q, s, T.clock + 1⟩) w') := fun W hW =>
      done_call W hW ⟨1, q, s, T.clock + 1⟩ ⟨.inl rfl, hq, hs, fun e => absurd e (show ¬ ((1 : Int) = 4) by decide)⟩ HO.out.many (fun f hf => Nat.le_trans (HO.out.texts f hf) (by decide)) HO.out.clock HO.out.chs
    go_wp2_with (first
      | (go_at_call 80; refine (HD.out _ (HX.out.below HBc.out)).mono ?_; rintro e w4 ⟨rfl, he4⟩; have HE4 := Lib.hid he4; clear he4))
    go_ret
    exact ⟨rfl, HE4.out.left HBc.out⟩
end
end Go.Proofs.YtghbaehbgefpaaaGreatDoor.Fr
/- Write, Append, Remove, Rename. -/
namespace Go.Proofs.YtghbaehbgefpaaaGreatDoor.Fr
open Go.RowKit Go.Proofs.YtghbaehbgefpaaaGreatDoor.F Go.Maps
set_option linter.unusedVariables false
set_option linter.unusedSimpArgs false
section
variable {φ : Phi} {p : Nat} {T : TS} {A : Nat → Prop}
theorem errEnd {w w' : World} {k : Int} {e : Ending} (hT : Tr w φ p T A) {stays : Bool} {q s : ByteArray} (hk : writeE T stays q s = k) (hk0 : k ≠ 0) (h : e = .returned (.int .i64 k) ∧ Below w.heap.size w w') :
    e = .returned (.int .i64 (writeE T stays q s)) ∧ TrEnd w φ p A (writeT T stays q s) w' := by
  unfold writeT
  rw [hk, if_neg hk0]
  exact ⟨h.1, TrEnd.same hT h.2⟩
theorem okEnd {w w' : World} {e : Ending} {stays : Bool} {q s : ByteArray} (hk : writeE T stays q s = 0) (h : e = .returned (.int .i64 0) ∧ TrEnd w φ p A (doneT T (writeC T stays q s)) w') :
    e = .returned (.int .i64 (writeE T stays q s)) ∧ TrEnd w φ p A (writeT T stays q s) w' := by
  unfold writeT
  rw [hk, if_pos rfl]
  exact h
theorem wE1 {T : TS} {stays : Bool} {q s : ByteArray} (h : pathV q = false) : writeE T stays q s = 1 := by unfold writeE; rw [if_pos h]
theorem wE3 {T : TS} {stays : Bool} {q s : ByteArray} (h : pathV q = true) (h2 : 16777216 < sizeT T stays q s) : writeE T stays q s = 3 := by
  unfold writeE
  rw [if_neg (by rw [h]; decide), if_pos h2]
theorem wE5 {T : TS} {stays : Bool} {q s : ByteArray} (h : pathV q = true) (h2 : sizeT T stays q s ≤ 16777216) (h3 : blockT T.l q ⟨#[]⟩ = true) : writeE T stays q s = 5 := by
  unfold writeE
  rw [if_neg (by rw [h]; decide), if_neg (by omega), if_pos h3]
theorem wE6 {T : TS} {stays : Bool} {q s : ByteArray} (h : pathV q = true) (h2 : sizeT T stays q s ≤ 16777216) (h3 : blockT T.l q ⟨#[]⟩ = false) (h4 : fullT T stays q s = true) : writeE T stays q s = 6 := by
  unfold writeE
  rw [if_neg (by rw [h]; decide), if_neg (by omega), if_neg (by rw [h3]; decide), if_pos h4]
theorem wE0 {T : TS} {stays : Bool} {q s : ByteArray} (h : pathV q = true) (h2 : sizeT T stays q s ≤ 16777216) (h3 : blockT T.l q ⟨#[]⟩ = false) (h4 : fullT T stays q s = false) : writeE T stays q s = 0 := by
  unfold writeE
  rw [if_neg (by rw [h]; decide), if_neg (by omega), if_neg (by rw [h3]; decide), if_neg (by rw [h4]; decide)]
theorem full_room {T : TS} {stays : Bool} {q s : ByteArray} (h : T.room < (usedF T.l : Int) - hadT T q + sizeT T stays q s) : fullT T stays q s = true := by
  unfold fullT
  rw [decide_eq_true h]
  rfl
theorem full_many {T : TS} {stays : Bool} {q s : ByteArray} (h : 200 < manyT T q) : fullT T stays q s = true := by
  unfold fullT
  rw [decide_eq_true h]
  simp
theorem full_no {T : TS} {stays : Bool} {q s : ByteArray} (h : ¬ T.room < (usedF T.l : Int) - hadT T q + sizeT T stays q s) (h2 : manyT T q ≤ 200) : fullT T stays q s = false := by
  unfold fullT
  rw [decide_eq_false h, decide_eq_false (by omega)]
  rfl
theorem write_call (w : World) (hT : Tr w φ p T A) (hG : Glob w) (hO : TOK T) (stays : Bool) (q s : ByteArray) (hq : q.size ≤ 100000) (hs : s.size ≤ 1000000000) :
    Calls Tryz.prog 74 #[.pointer (some ⟨p, 0, none⟩), .string q, .string s, .bool stays] w fun e w' => e = .returned (.int .i64 (writeE T stays q s)) ∧ TrEnd w φ p A (writeT T stays q s) w' := by
  cases hf : findF T.l q with
  | none =>
    have hh : hadT T q = 0 := by unfold hadT textF; rw [hf]; rfl
    have hm : manyT T q = T.l.length + 1 := by unfold manyT; rw [hf]; rfl
    cases stays with
    | true =>
      have hz : sizeT T true q s = s.size := by unfold sizeT; rw [if_pos rfl, hh]; rfl
      cases hp : pathV q with
      | false => exact (wr_n_true_e1 hT hG hO hq hs hf hp).mono fun e w' h => errEnd hT (wE1 hp) (by decide) h
      | true =>
        by_cases h2 : 16777216 < s.size
        · exact (wr_n_true_e3 hT hG hO hq hs hf hp h2).mono fun e w' h => errEnd hT (wE3 hp (by omega)) (by decide) h
        · cases h3 : blockT T.l q ⟨#[]⟩ with
          | true => exact (wr_n_true_e5 hT hG hO hq hs hf hp (by omega) h3).mono fun e w' h => errEnd hT (wE5 hp (by omega) h3) (by decide) h
          | false =>
            by_cases h4 : T.room < (usedF T.l : Int) - 0 + ((s.size : Nat) : Int)
            · exact (wr_n_true_e6 hT hG hO hq hs hf hp (by omega) h3 h4).mono fun e w' h => errEnd hT (wE6 hp (by omega) h3 (full_room (by rw [hh, hz]; exact h4))) (by decide) h
            · by_cases h5 : 200 < T.l.length + 1
              · exact (wr_n_true_e7 hT hG hO hq hs hf hp (by omega) h3 h4 h5).mono fun e w' h => errEnd hT (wE6 hp (by omega) h3 (full_many (by rw [hm]; exact h5))) (by decide) h
              · exact (wr_n_true_ok hT hG hO hq hs hf hp (by omega) h3 h4 (by omega)).mono fun e w' h => okEnd (wE0 hp (by omega) h3 (full_no (by rw [hh, hz]; exact h4) (by omega))) h
    | false =>
      have hz : sizeT T false q s = s.size := by unfold sizeT; rw [if_neg (by decide)]
      cases hp : pathV q with
      | false => exact (wr_n_false_e1 hT hG hO hq hs hf hp).mono fun e w' h => errEnd hT (wE1 hp) (by decide) h
      | true =>
        by_cases h2 : 16777216 < s.size
        · exact (wr_n_false_e3 hT hG hO hq hs hf hp h2).mono fun e w' h => errEnd hT (wE3 hp (by omega)) (by decide) h
        · cases h3 : blockT T.l q ⟨#[]⟩ with
          | true => exact (wr_n_false_e5 hT hG hO hq hs hf hp (by omega) h3).mono fun e w' h => errEnd hT (wE5 hp (by omega) h3) (by decide) h
          | false =>
            by_cases h4 : T.room < (usedF T.l : Int) - 0 + ((s.size : Nat) : Int)
            · exact (wr_n_false_e6 hT hG hO hq hs hf hp (by omega) h3 h4).mono fun e w' h => errEnd hT (wE6 hp (by omega) h3 (full_room (by rw [hh, hz]; exact h4))) (by decide) h
            · by_cases h5 : 200 < T.l.length + 1
              · exact (wr_n_false_e7 hT hG hO hq hs hf hp (by omega) h3 h4 h5).mono fun e w' h => errEnd hT (wE6 hp (by omega) h3 (full_many (by rw [hm]; exact h5))) (by decide) h
              · exact (wr_n_false_ok hT hG hO hq hs hf hp (by omega) h3 h4 (by omega)).mono fun e w' h => okEnd (wE0 hp (by omega) h3 (full_no (by rw [hh, hz]; exact h4) (by omega))) h
  | some f =>
    have hf1 : f.f1.size ≤ 1000000000 := hO.texts f (mem_of_find hf)
    have hh : hadT T q = f.f1.size := by unfold hadT textF; rw [hf]
    have hm : manyT T q = T.l.length := by unfold manyT; rw [hf]; rfl
    cases stays with
    | true =>
      have hz : sizeT T true q s = s.size + f.f1.size := by unfold sizeT; rw [if_pos rfl, hh]
      cases hp : pathV q with
      | false => exact (wr_s_true_e1 hT hG hO hq hs f hf hf1 hp).mono fun e w' h => errEnd hT (wE1 hp) (by decide) h
      | true =>
        by_cases h2 : 16777216 < s.size + f.f1.size
        · exact (wr_s_true_e3 hT hG hO hq hs f hf hf1 hp h2).mono fun e w' h => errEnd hT (wE3 hp (by omega)) (by decide) h
        · cases h3 : blockT T.l q ⟨#[]⟩ with
          | true => exact (wr_s_true_e5 hT hG hO hq hs f hf hf1 hp (by omega) h3).mono fun e w' h => errEnd hT (wE5 hp (by omega) h3) (by decide) h
          | false =>
            by_cases h4 : T.room < (usedF T.l : Int) - (f.f1.size : Int) + ((s.size + f.f1.size : Nat) : Int)
            · exact (wr_s_true_e6 hT hG hO hq hs f hf hf1 hp (by omega) h3 h4).mono fun e w' h => errEnd hT (wE6 hp (by omega) h3 (full_room (by rw [hh, hz]; exact h4))) (by decide) h
            · by_cases h5 : 200 < T.l.length
              · exact (wr_s_true_e7 hT hG hO hq hs f hf hf1 hp (by omega) h3 h4 h5).mono fun e w' h => errEnd hT (wE6 hp (by omega) h3 (full_many (by rw [hm]; exact h5))) (by decide) h
              · exact (wr_s_true_ok hT hG hO hq hs f hf hf1 hp (by omega) h3 h4 (by omega)).mono fun e w' h => okEnd (wE0 hp (by omega) h3 (full_no (by rw [hh, hz]; exact h4) (by omega))) h
    | false =>
      have hz : sizeT T false q s = s.size := by unfold sizeT; rw [if_neg (by decide)]
      cases hp : pathV q with
      | false => exact (wr_s_false_e1 hT hG hO hq hs f hf hf1 hp).mono fun e w' h => errEnd hT (wE1 hp) (by decide) h
      | true =>
        by_cases h2 : 16777216 < s.size
        · exact (wr_s_false_e3 hT hG hO hq hs f hf hf1 hp h2).mono fun e w' h => errEnd hT (wE3 hp (by omega)) (by decide) h
        · cases h3 : blockT T.l q ⟨#[]⟩ with
          | true => exact (wr_s_false_e5 hT hG hO hq hs f hf hf1 hp (by omega) h3).mono fun e w' h => errEnd hT (wE5 hp (by omega) h3) (by decide) h
          | false =>
            by_cases h4 : T.room < (usedF T.l : Int) - (f.f1.size : Int) + ((s.size : Nat) : Int)
            · exact (wr_s_false_e6 hT hG hO hq hs f hf hf1 hp (by omega) h3 h4).mono fun e w' h => errEnd hT (wE6 hp (by omega) h3 (full_room (by rw [hh, hz]; exact h4))) (by decide) h
            · by_cases h5 : 200 < T.l.length
              · exact (wr_s_false_e7 hT hG hO hq hs f hf hf1 hp (by omega) h3 h4 h5).mono fun e w' h => errEnd hT (wE6 hp (by omega) h3 (full_many (by rw [hm]; exact h5))) (by decide) h
              · exact (wr_s_false_ok hT hG hO hq hs f hf hf1 hp (by omega) h3 h4 (by omega)).mono fun e w' h => okEnd (wE0 hp (by omega) h3 (full_no (by rw [hh, hz]; exact h4) (by omega))) h
set_option maxHeartbeats 1000000 in
set_option maxRecDepth 100000 in
theorem Write_call (w : World) (hT : Tr w φ p T A) (hG : Glob w) (hO : TOK T) (q s : ByteArray) (hq : q.size ≤ 100000) (hs : s.size ≤ 1000000000) :
    Calls Tryz.prog 52 #[.pointer (some ⟨p, 0, none⟩), .string q, .string s] w fun e w' => e = .returned (.int .i64 (writeE T false q s)) ∧ TrEnd w φ p A (writeT T false q s) w' := by
  have H := Lib.hid (write_call w hT hG hO false q s hq hs)
  clear hT hG hO
  go_enter Tryz.func52, Tryz.ntmps52
  go_wp2_with (first | (go_at_call 74; refine H.out.mono ?_; rintro e w' ⟨rfl, h⟩; have HE := Lib.hid h; clear h))
  go_ret
  exact ⟨rfl, HE.out⟩
set_option maxHeartbeats 1000000 in
set_option maxRecDepth 100000 in
theorem Append_call (w : World) (hT : Tr w φ p T A) (hG : Glob w) (hO : TOK T) (q s : ByteArray) (hq : q.size ≤ 100000) (hs : s.size ≤ 1000000000) :
    Calls Tryz.prog 45 #[.pointer (some ⟨p, 0, none⟩), .string q, .string s] w fun e w' => e = .returned (.int .i64 (writeE T true q s)) ∧ TrEnd w φ p A (writeT T true q s) w' := by
  have H := Lib.hid (write_call w hT hG hO true q s hq hs)
  clear hT hG hO
  go_enter Tryz.func45, Tryz.ntmps45
  go_wp2_with (first | (go_at_call 74; refine H.out.mono ?_; rintro e w' ⟨rfl, h⟩; have HE := Lib.hid h; clear h))
  go_ret
  exact ⟨rfl, HE.out⟩
/-! ### Remove, Rename -/
def removeE (T : TS) (q : ByteArray) : Int := if (findF T.l q).isSome = true then 0 else 4
def removeT (T : TS) (q : ByteArray) : TS := if removeE T q = 0 then doneT T ⟨3, q, ⟨#[]⟩, 0⟩ else T
set_option maxHeartbeats 1000000 in
set_option maxRecDepth 100000 in
theorem Remove_call (w : World) (hT : Tr w φ p T A) (hO : TOK T) (q : ByteArray) (hq : q.size ≤ 100000) :
    Calls Tryz.prog 49 #[.pointer (some ⟨p, 0, none⟩), .string q] w fun e w' => e = .returned (.int .i64 (removeE T q)) ∧ TrEnd w φ p A (removeT T q) w' := by
  have HX := Lib.hid hT
  have HO := Lib.hid hO
  obtain ⟨bn, bl, v, h⟩ := hT
  have HT := Lib.hid h
  have c2 := h.c2
  clear h hO
  cases hf : findF T.l q with
  | none =>
    have HN := Lib.hid hf
    have h1 : Hid (removeE T q = 4) := by unfold removeE; rw [Hid, hf]; rfl
    have h2 : Hid (removeT T q = T) := by unfold removeT; rw [Hid, h1.out]; rfl
    clear hf
    rw [h1.out, h2.out]
    go_enter Tryz.func49, Tryz.ntmps49
    go_wp2_with (first
      | (at_lookup; refine wpList_look_none _ rfl _ _ rfl bn q rfl HT.out.now rfl hq HN.out ?_))
    go_ret
    exact ⟨rfl, TrEnd.same HX.out (Below.refl _ _)⟩
  | some f =>
    have HN := Lib.hid hf
    have h1 : Hid (removeE T q = 0) := by unfold removeE; rw [Hid, hf]; rfl
    have h2 : Hid (removeT T q = doneT T ⟨3, q, ⟨#[]⟩, 0⟩) := by unfold removeT; rw [Hid, h1.out]; rfl
    clear hf
    rw [h1.out, h2.out]
    have HD : Hid (Calls Tryz.prog 80 #[.pointer (some ⟨p, 0, none⟩), .agg #[.int .i64 2, .string q, .string ⟨#[]⟩, .int .i64 0]] w fun e w' => e = .returned (.int .i64 0) ∧ TrEnd w φ p A (doneT T ⟨3, q, ⟨#[]⟩, 0⟩) w') :=
      done_call w HX.out ⟨3, q, ⟨#[]⟩, 0⟩ ⟨.inr (.inr (.inl rfl)), hq, Nat.zero_le _, fun e => absurd e (show ¬ ((3 : Int) = 4) by decide)⟩ HO.out.many (fun f hf => Nat.le_trans (HO.out.texts f hf) (by decide)) HO.out.clock HO.out.chs
    go_enter Tryz.func49, Tryz.ntmps49
    go_wp2_with (first
      | (at_lookup; refine wpList_look_some _ rfl _ _ rfl bn q rfl HT.out.now rfl hq _ HN.out ?_; intro qb hqb; clear hqb)
      | (go_at_call 80; refine HD.out.mono ?_; rintro e w4 ⟨rfl, he4⟩; have HE4 := Lib.hid he4; clear he4))
    go_ret
    exact ⟨rfl, HE4.out⟩
def renameE (T : TS) (a b : ByteArray) : Int :=
  if (findF T.l a).isSome = false then 4 else if pathV b = false then 1 else if sameB a b = true then 0 else if blockT T.l b a = true then 5 else 0
def renameT (T : TS) (a b : ByteArray) : TS := if (findF T.l a).isSome = true ∧ pathV b = true ∧ sameB a b = false ∧ blockT T.l b a = false then doneT T ⟨4, a, b, 0⟩ else T
set_option maxHeartbeats 4000000 in
set_option maxRecDepth 100000 in
theorem Rename_call (w : World) (hT : Tr w φ p T A) (hG : Glob w) (hO : TOK T) (q r : ByteArray) (hq : q.size ≤ 100000) (hr : r.size ≤ 100000) :
    Calls Tryz.prog 53 #[.pointer (some ⟨p, 0, none⟩), .string q, .string r] w fun e w' => e = .returned (.int .i64 (renameE T q r)) ∧ TrEnd w φ p A (renameT T q r) w' := by
  have HX := Lib.hid hT
  have HO := Lib.hid hO
  have HG := Lib.hid hG
  obtain ⟨bn, bl, v, h⟩ := hT
  have HT := Lib.hid h
  have c2 := h.c2
  clear h hO hG
  cases hf : findF T.l q with
  | none =>
    have HN := Lib.hid hf
    have h1 : Hid (renameE T q r = 4) := by unfold renameE; rw [Hid, hf]; rfl
    have h2 : Hid (renameT T q r = T) := by unfold renameT; rw [Hid, hf]; exact if_neg (by simp)
    clear hf
    rw [h1.out, h2.out]
    go_enter Tryz.func53, Tryz.ntmps53
    go_wp2_with (first
      | (at_lookup; refine wpList_look_none _ rfl _ _ rfl bn q rfl HT.out.now rfl hq HN.out ?_))
    go_ret
    exact ⟨rfl, TrEnd.same HX.out (Below.refl _ _)⟩
  | some f =>
    have HN := Lib.hid hf
    cases hp : pathV r with
    | false =>
      have h1 : Hid (renameE T q r = 1) := by unfold renameE; rw [Hid, hf, hp]; rfl
      have h2 : Hid (renameT T q r = T) := by unfold renameT; rw [Hid, hp]; exact if_neg (by simp)
      have HP := Lib.hid hp
      clear hf hp
      rw [h1.out, h2.out]
      go_enter Tryz.func53, Tryz.ntmps53
      go_wp2_with (first
        | (at_lookup; refine wpList_look_some _ rfl _ _ rfl bn q rfl HT.out.now rfl hq _ HN.out ?_; intro qb hqb; clear hqb)
        | (go_at_call 42; refine (path_call r hr _ HG.out).mono ?_; rintro e w1 ⟨rfl, hb1⟩; rw [HP.out]; have HB1 := Lib.hid hb1; clear hb1))
      go_ret
      exact ⟨rfl, TrEnd.same HX.out HB1.out⟩
    | true =>
      have HP := Lib.hid hp
      have hse : (q.toList == r.toList) = sameB q r := by unfold sameB; rw [ByteArray.toList_eq, ByteArray.toList_eq]
      cases hs : sameB q r with
      | true =>
        have h1 : Hid (renameE T q r = 0) := by unfold renameE; rw [Hid, hf, hp, hs]; rfl
        have h2 : Hid (renameT T q r = T) := by unfold renameT; rw [Hid, hs]; exact if_neg (by simp)
        rw [hs] at hse
        clear hf hp hs
        rw [h1.out, h2.out]
        go_enter Tryz.func53, Tryz.ntmps53
        go_wp2_with (first
          | (at_lookup; refine wpList_look_some _ rfl _ _ rfl bn q rfl HT.out.now rfl hq _ HN.out ?_; intro qb hqb; clear hqb)
          | (go_at_call 42; refine (path_call r hr _ HG.out).mono ?_; rintro e w1 ⟨rfl, hb1⟩; rw [HP.out]; have HB1 := Lib.hid hb1; clear hb1))
        go_ret
        exact ⟨rfl, TrEnd.same HX.out HB1.out⟩
      | false =>
        cases hb : blockT T.l r q with
        | true =>
          have h1 : Hid (renameE T q r = 5) := by unfold renameE; rw [Hid, hf, hp, hs, hb]; rfl
          have h2 : Hid (renameT T q r = T) := by unfold renameT; rw [Hid, hb]; exact if_neg (by simp)
          have H3 := Lib.hid hb
          rw [hs] at hse
          clear hf hp hs hb
          rw [h1.out, h2.out]
          go_enter Tryz.func53, Tryz.ntmps53
          go_wp2_with (first
            | (at_lookup; refine wpList_look_some _ rfl _ _ rfl bn q rfl HT.out.now rfl hq _ HN.out ?_; intro qb hqb; clear hqb)
            | (go_at_call 42; refine (path_call r hr _ HG.out).mono ?_; rintro e w1 ⟨rfl, hb1⟩; rw [HP.out]; have HB1 := Lib.hid hb1; clear hb1)
            | (go_at_call 83; refine (blocked_call _ (HX.out.below HB1.out) r q hr HO.out.paths).mono ?_; rintro e w2 ⟨rfl, hb2⟩; rw [H3.out]; have HB2 := Lib.hid (HB1.out.trans (hb2.mono HB1.out.size)); clear hb2))
          go_ret
          exact ⟨rfl, TrEnd.same HX.out HB2.out⟩
        | false =>
          have h1 : Hid (renameE T q r = 0) := by unfold renameE; rw [Hid, hf, hp, hs, hb]; rfl
          have h2 : Hid (renameT T q r = doneT T ⟨4, q, r, 0⟩) := by unfold renameT; rw [Hid, hf, hp, hs, hb]; exact if_pos ⟨rfl, rfl, rfl, rfl⟩
          have H3 := Lib.hid hb
          have HD : Hid (∀ W, Tr W φ p T A → Calls Tryz.prog 80 #[.pointer (some ⟨p, 0, none⟩), .agg #[.int .i64 3, .string q, .string r, .int .i64 0]] W fun e w' => e = .returned (.int .i64 0) ∧ TrEnd W φ p A (doneT T ⟨4, q, r, 0⟩) w') := fun W hW =>
            done_call W hW ⟨4, q, r, 0⟩ ⟨.inr (.inr (.inr rfl)), hq, Nat.le_trans hr (by decide), fun _ => hr⟩ HO.out.many (fun f hf => Nat.le_trans (HO.out.texts f hf) (by decide)) HO.out.clock HO.out.chs
          rw [hs] at hse
          clear hf hp hs hb
          rw [h1.out, h2.out]
          go_enter Tryz.func53, Tryz.ntmps53
          go_wp2_with (first
            | (at_lookup; refine wpList_look_some _ rfl _ _ rfl bn q rfl HT.out.now rfl hq _ HN.out ?_; intro qb hqb; clear hqb)
            | (go_at_call 42; refine (path_call r hr _ HG.out).mono ?_; rintro e w1 ⟨rfl, hb1⟩; rw [HP.out]; have HB1 := Lib.hid hb1; clear hb1)
            | (go_at_call 83; refine (blocked_call _ (HX.out.below HB1.out) r q hr HO.out.paths).mono ?_; rintro e w2 ⟨rfl, hb2⟩; rw [H3.out]; have HB2 := Lib.hid (HB1.out.trans (hb2.mono HB1.out.size)); clear hb2)
            | (go_at_call 80; refine (HD.out _ (HX.out.below HB2.out)).mono ?_; rintro e w4 ⟨rfl, he4⟩; have HE4 := Lib.hid he4; clear he4))
          go_ret
          exact ⟨rfl, HE4.out.left HB2.out⟩
end
end Go.Proofs.YtghbaehbgefpaaaGreatDoor.Fr
/- New, Sync. -/
namespace Go.Proofs.YtghbaehbgefpaaaGreatDoor.Fr
open Go.RowKit Go.Proofs.YtghbaehbgefpaaaGreatDoor.F Go.Maps
set_option linter.unusedVariables false
set_option linter.unusedSimpArgs false
def newT (room : Int) : TS := ⟨room, 0, [], [], []⟩
/-- How New ends. -/
def NewEnd (w : World) (φ : Phi) (T : TS) (e : Ending) (w' : World) : Prop :=
  ∃ p A, e = .returned (.tuple #[.pointer (some ⟨p, 0, none⟩), .int .i64 0]) ∧ Tr w' φ p T A ∧ Below w.heap.size w w' ∧ ∀ k, A k → w.heap.size ≤ k
theorem new_end {w : World} {φ : Phi} (hF : FilesOK w φ) (room : Int) :
    NewEnd w φ (newT room) (.returned (.tuple #[.pointer (some ⟨w.heap.size + 1 + 1, 0, none⟩), .int .i64 0])) (((w.alloc (.map #[] 0)).alloc (.map #[] 0)).alloc (.cells #[.int .i64 room, .int .i64 0, .map (some w.heap.size), .map (some (w.heap.size + 1)), .slice none 0 0] 76)) := by
  obtain ⟨W1, hW1⟩ : ∃ W1, W1 = w.alloc (.map #[] 0) := ⟨_, rfl⟩
  obtain ⟨W2, hW2⟩ : ∃ W2, W2 = W1.alloc (.map #[] 0) := ⟨_, rfl⟩
  rw [← hW1, ← hW2]
  have s1 : W1.heap.size = w.heap.size + 1 := by rw [hW1, World.size_alloc]
  have s2 : W2.heap.size = w.heap.size + 1 + 1 := by rw [hW2, World.size_alloc, s1]
  have hb1 : Below w.heap.size w W1 := by rw [hW1]; exact newBelow _ _
  have hb2 : Below W1.heap.size W1 W2 := by rw [hW2]; exact newBelow _ _
  have hb3 := newBelow W2 (.cells #[.int .i64 room, .int .i64 0, .map (some w.heap.size), .map (some (w.heap.size + 1)), .slice none 0 0] 76)
  have hb : Below w.heap.size w (W2.alloc (.cells #[.int .i64 room, .int .i64 0, .map (some w.heap.size), .map (some (w.heap.size + 1)), .slice none 0 0] 76)) := (hb1.trans (hb2.mono (by omega))).trans (hb3.mono (by omega))
  have i1 : Img W1 φ w.heap.size [] := by rw [hW1]; exact Img.made w φ
  have i2 : Img W2 φ (w.heap.size + 1) [] := by
    have := Img.made W1 φ
    rw [← hW2, s1] at this
    exact this
  refine ⟨w.heap.size + 1 + 1, fun k => w.heap.size ≤ k ∧ k < w.heap.size + 1 + 1 + 1, rfl, ⟨w.heap.size, w.heap.size + 1, .slice none 0 0, ?_⟩, hb, fun k hk => hk.1⟩
  have hat := World.alloc_heap_new W2 (.cells #[.int .i64 room, .int .i64 0, .map (some w.heap.size), .map (some (w.heap.size + 1)), .slice none 0 0] 76)
  rw [s2] at hat
  exact {
    files := hF.below hb
    at_ := hat
    now := (i1.below hb2).below hb3
    last := i2.below hb3
    row := ⟨rfl, .inl ⟨rfl, rfl⟩⟩
    ne := by omega
    ap := ⟨by omega, by omega⟩
    an := ⟨by omega, by omega⟩
    al := ⟨by omega, by omega⟩
    ar := fun k hk => by simp [Value.ownBlock] at hk
    free := fun k hk => by
      refine ⟨by rw [World.size_alloc, s2]; exact hk.2, ?_⟩
      cases e : φ k with
      | none => rfl
      | some f =>
        have := hF.lt (q := k) (by rw [e]; simp)
        have := hk.1
        omega }
set_option maxHeartbeats 1000000 in
set_option maxRecDepth 100000 in
theorem new_call (w : World) (φ : Phi) (hF : FilesOK w φ) (room : Int) (h1 : 1 ≤ room) (h2 : room ≤ 1073741824) : Calls Tryz.prog 27 #[.int .i64 room] w (NewEnd w φ (newT room)) := by
  have H := Lib.hid (new_end hF room)
  have hmm := @run_makeMap Tryz.prog
  clear hF
  go_enter Tryz.func27, Tryz.ntmps27
  go_wp2
  go_ret2
  exact H.out
/-! ### Sync -/
def syncT (T : TS) : TS := { T with last := T.l, ch := [] }
theorem sync_end {w w1 : World} {φ : Phi} {p bn bl : Nat} {T : TS} {A : Nat → Prop} {v : Value} (h : TrAt w φ p T A bn bl v) (hI : Img w1 φ w.heap.size T.l) (hB : Below w.heap.size w w1) :
    TrEnd w φ p A (syncT T) ((w1.setCell ⟨p, 3, none⟩ (.map (some w.heap.size))).setCell ⟨p, 4, none⟩ (.slice none 0 0)) := by
  have hat1 : w1.heap[p]? = some (.cells #[.int .i64 T.room, .int .i64 T.clock, .map (some bn), .map (some bl), v] 76 (0, 0)) := (hB.block p h.lt).trans h.at_
  have hat2 := heap_setCell_same w1 p 3 _ _ (.map (some w.heap.size)) hat1
  have hat3 := heap_setCell_same _ p 4 _ _ (.slice none 0 0) hat2
  have hC : Chg (fun k => k = p) w ((w1.setCell ⟨p, 3, none⟩ (.map (some w.heap.size))).setCell ⟨p, 4, none⟩ (.slice none 0 0)) :=
    (((Chg.refl (fun k => k = p) w).below hB).setCell (p := ⟨p, 3, none⟩) (fun _ => rfl) _).setCell (p := ⟨p, 4, none⟩) (fun _ => rfl) _
  have hC1 : Chg (fun k => k = p) w1 ((w1.setCell ⟨p, 3, none⟩ (.map (some w.heap.size))).setCell ⟨p, 4, none⟩ (.slice none 0 0)) :=
    ((Chg.refl (fun k => k = p) w1).setCell (p := ⟨p, 3, none⟩) (fun _ => rfl) _).setCell (p := ⟨p, 4, none⟩) (fun _ => rfl) _
  have hplt := h.lt
  have hF : FilesOK ((w1.setCell ⟨p, 3, none⟩ (.map (some w.heap.size))).setCell ⟨p, 4, none⟩ (.slice none 0 0)) φ := h.files.chg hC fun q hq e => hq (by rw [e]; exact (h.free p h.ap).2)
  have hN := hI.lt
  refine ⟨φ, fun k => A k ∨ k = w.heap.size, ⟨bn, w.heap.size, .slice none 0 0, ?_⟩, Ext.refl _ _, hC.mono fun k _ e => e ▸ h.ap, fun k hk => hk.imp id fun e => by omega⟩
  exact {
    files := hF
    at_ := by rw [hat3]; simp [syncT]
    now := h.now.chg hC fun e => h.p_ne.1 e.symm
    last := hI.chg hC1 fun e => by omega
    row := ⟨rfl, .inl ⟨rfl, rfl⟩⟩
    ne := by have := h.now.lt; omega
    ap := .inl h.ap
    an := .inl h.an
    al := .inr rfl
    ar := fun k hk => by simp [Value.ownBlock] at hk
    free := fun k hk => by
      rcases hk with hk | rfl
      · obtain ⟨h1, h2⟩ := h.free k hk
        exact ⟨Nat.lt_of_lt_of_le h1 hC.size, h2⟩
      · refine ⟨Nat.lt_of_lt_of_le hN hC1.size, ?_⟩
        cases e : φ w.heap.size with
        | none => rfl
        | some f =>
          have := h.files.lt (q := w.heap.size) (by rw [e]; simp)
          omega }
theorem clone_img {w : World} {φ : Phi} {b : Nat} {l : List Fl} (h : Img w φ b l) :
    Calls Tryz.prog 32 #[.map (some b)] w fun e w' => e = .returned (.map (some w.heap.size)) ∧ Img w' φ w.heap.size l ∧ Below w.heap.size w w' ∧ w'.heap.size = w.heap.size + 1 := by
  exact clone_call _ _ b _ _ w h
section
variable {φ : Phi} {p : Nat} {T : TS} {A : Nat → Prop}
set_option maxHeartbeats 1000000 in
set_option maxRecDepth 100000 in
theorem sync_call (w : World) (hT : Tr w φ p T A) : Calls Tryz.prog 16 #[.pointer (some ⟨p, 0, none⟩)] w fun e w' => e = .returned (.tuple #[]) ∧ TrEnd w φ p A (syncT T) w' := by
  obtain ⟨bn, bl, v, h⟩ := hT
  have HT := Lib.hid h
  have c2 := h.c2
  have hlt := h.lt
  have hn := h.now
  clear h
  go_enter Tryz.func16, Tryz.ntmps16
  go_wp2_with (first
    | (go_at_call 32; (refine (clone_img hn).mono ?_; rintro e w1 ⟨rfl, hI, hB, hs⟩; have hat1 := (hB.block p hlt).trans HT.out.at_; have d3 : w1.cell? ⟨p, 3, none⟩ = some (.map (some bl)) := (by simp [World.cell?, hat1]); have d4 : w1.cell? ⟨p, 4, none⟩ = some v := (by simp [World.cell?, hat1]); have g3 : w1.frozen? ⟨p, 3, none⟩ = false := (by simp [World.frozen?, hat1]); have g4 : w1.frozen? ⟨p, 4, none⟩ = false := (by simp [World.frozen?, hat1]); have HE := Lib.hid (sync_end HT.out hI hB); clear hI hB hs hat1)))
  go_end0
  exact ⟨rfl, HE.out⟩
end
end Go.Proofs.YtghbaehbgefpaaaGreatDoor.Fr
/- slices.Clone of a row of changes. -/
namespace Go.Proofs.YtghbaehbgefpaaaGreatDoor.Fr
open Go.RowKit Go.Proofs.YtghbaehbgefpaaaGreatDoor.F Go.Maps
set_option linter.unusedVariables false
set_option linter.unusedSimpArgs false
end Go.Proofs.YtghbaehbgefpaaaGreatDoor.Fr
/- Clone. -/
namespace Go.Proofs.YtghbaehbgefpaaaGreatDoor.Fr
open Go.RowKit Go.Proofs.YtghbaehbgefpaaaGreatDoor.F Go.Maps
set_option linter.unusedVariables false
set_option linter.unusedSimpArgs false
section
variable {φ : Phi} {p : Nat} {T : TS} {A : Nat → Prop}
end
end Go.Proofs.YtghbaehbgefpaaaGreatDoor.Fr
/- Crash. -/
namespace Go.Proofs.YtghbaehbgefpaaaGreatDoor.Fr
open Go.RowKit Go.Proofs.YtghbaehbgefpaaaGreatDoor.F Go.Maps
set_option linter.unusedVariables false
set_option linter.unusedSimpArgs false
/-- A change as a crash leaves it: a part of its text. -/
def cutC (c : Cg) (part : Int) : Cg := { c with f2 := cutS c.f2 part }
theorem do_part (c : Cg) (hc : CgOK c) (hk : c.f0 = 1 ∨ c.f0 = 2) (part : Int) (hpart : part ≤ 9223372036854775807) (b : Nat) (L : List Fl) (φ : Phi) (w : World) (hF : FilesOK w φ) (hI : Img w φ b L) (hb : φ b = none) (hL : L.length ≤ 100000) (hfs : ∀ f ∈ L, f.f1.size ≤ 1000000000000) :
    Calls Tryz.prog 33 #[cgV c, .map (some b), .int .i64 part] w (DoEnd φ b (afterF L (cutC c part)) w) := by
  obtain ⟨k, p, s, tm⟩ := c
  have h1 : p.size ≤ 100000 := hc.path
  have h2 : s.size ≤ 1000000000 := hc.text
  rcases hk with e | e
  · obtain rfl : k = 1 := e
    exact do_written p s tm part b L φ w hF hI hb hL h1 h2 hpart
  · obtain rfl : k = 2 := e
    have e1 : afterF L (cutC ⟨2, p, s, tm⟩ part) = putF L ⟨p, textF L p ++ cutS s part, tm⟩ := rfl
    rw [e1]
    cases hf : findF L p with
    | none =>
      have := do_app_none p s tm part b L φ w hF hI hb hL h1 h2 hpart hf
      have e2 : textF L p = ⟨#[]⟩ := by unfold textF; rw [hf]
      have e3 : (⟨#[]⟩ : ByteArray) ++ cutS s part = cutS s part := by
        apply ByteArray.ext
        simp
      rw [e2, e3]
      exact this
    | some f =>
      have := do_app_some p s tm part b L φ w hF hI hb hL h1 h2 hpart f hf (hfs f (mem_of_find hf))
      have e2 : textF L p = f.f1 := by unfold textF; rw [hf]
      rw [e2]
      exact this
def foldF (l : List Fl) (cs : List Cg) : List Fl := cs.foldl afterF l
theorem foldF_succ (l : List Fl) (cs : List Cg) (k : Nat) (h : k < cs.length) : foldF l (cs.take (k + 1)) = afterF (foldF l (cs.take k)) cs[k] := by
  unfold foldF
  rw [List.take_succ_eq_append_getElem h, List.foldl_append]
  rfl
/-- How many changes a crash keeps. -/
def keptN (many : Int) (n : Nat) : Nat := (max 0 (min many (n : Int))).toNat
/-- The files behind a crash. -/
def crashL (T : TS) (many part : Int) : List Fl :=
  let k := keptN many T.ch.length
  let l := foldF T.last (T.ch.take k)
  match T.ch[k]? with
  | none => l
  | some c => if c.f0 ≤ 2 ∧ 1 ≤ part then afterF l (cutC c part) else l
def crashT (T : TS) (many part : Int) : TS := syncT { T with l := crashL T many part }
/-- What stays what it is where a change is done to a tree's files. -/
theorem TrAt.did {w W1 W2 : World} {φ φ' : Phi} {p bn bl : Nat} {T : TS} {A : Nat → Prop} {v : Value} {L' : List Fl} (h : TrAt w φ p T A bn bl v) (hB : Below w.heap.size w W1) (hE : Ext W1 φ φ') (hF : FilesOK W2 φ') (hI : Img W2 φ' bn L') (hC : Chg (fun k => k = bn) W1 W2) :
    TrAt W2 φ' p { T with l := L' } A bn bl v ∧ Ext w φ φ' ∧ Chg (fun k => k = bn) w W2 := by
  have hC2 : Chg (fun k => k = bn) w W2 := (Chg.of_below hB _).trans hC fun _ _ e => e
  have hE2 : Ext w φ φ' := ⟨hE.keeps, fun k e => (hE.new k e).imp id fun h => Nat.le_trans hB.size h⟩
  refine ⟨?_, hE2, hC2⟩
  exact {
    files := hF
    at_ := (hC2.block p h.lt h.p_ne.1).trans h.at_
    now := hI
    last := (h.last.chg hC2 (fun e => h.ne e.symm)).ext hE.keeps
    row := ownsRow_block h.row fun k hk => hC2.block k (h.free k (h.ar k hk)).1 (h.row_ne hk).2.1
    ne := h.ne
    ap := h.ap
    an := h.an
    al := h.al
    ar := h.ar
    free := fun k hk => by
      obtain ⟨h1, h2⟩ := h.free k hk
      refine ⟨Nat.lt_of_lt_of_le h1 hC2.size, ?_⟩
      cases e : φ' k with
      | none => rfl
      | some f =>
        rcases hE2.new k (by rw [e]; simp) with h3 | h3
        · exact absurd h2 h3
        · omega }
/-- The files taken anew from those of the last sync. -/
theorem crash_start {w w1 : World} {φ : Phi} {p bn bl : Nat} {T : TS} {A : Nat → Prop} {v : Value} (h : TrAt w φ p T A bn bl v) (hI : Img w1 φ w.heap.size T.last) (hB : Below w.heap.size w w1) :
    TrAt (w1.setCell ⟨p, 2, none⟩ (.map (some w.heap.size))) φ p { T with l := T.last } (fun k => A k ∨ k = w.heap.size) w.heap.size bl v ∧ Chg (fun k => k = p) w (w1.setCell ⟨p, 2, none⟩ (.map (some w.heap.size))) := by
  have hat1 : w1.heap[p]? = some (.cells #[.int .i64 T.room, .int .i64 T.clock, .map (some bn), .map (some bl), v] 76 (0, 0)) := (hB.block p h.lt).trans h.at_
  have hat2 := heap_setCell_same w1 p 2 _ _ (.map (some w.heap.size)) hat1
  have hC : Chg (fun k => k = p) w (w1.setCell ⟨p, 2, none⟩ (.map (some w.heap.size))) :=
    ((Chg.refl (fun k => k = p) w).below hB).setCell (p := ⟨p, 2, none⟩) (fun _ => rfl) _
  have hC1 : Chg (fun k => k = p) w1 (w1.setCell ⟨p, 2, none⟩ (.map (some w.heap.size))) := (Chg.refl (fun k => k = p) w1).setCell (p := ⟨p, 2, none⟩) (fun _ => rfl) _
  have hplt := h.lt
  have hN := hI.lt
  refine ⟨?_, hC⟩
  exact {
    files := h.files.chg hC fun q hq e => hq (by rw [e]; exact (h.free p h.ap).2)
    at_ := by rw [hat2]; simp
    now := hI.chg hC1 fun e => by omega
    last := h.last.chg hC fun e => h.p_ne.2 e.symm
    row := ownsRow_block h.row fun k hk => hC.block k (h.free k (h.ar k hk)).1 (h.row_ne hk).1
    ne := by have := h.last.lt; omega
    ap := .inl h.ap
    an := .inr rfl
    al := .inl h.al
    ar := fun k hk => .inl (h.ar k hk)
    free := fun k hk => by
      rcases hk with hk | rfl
      · obtain ⟨h1, h2⟩ := h.free k hk
        exact ⟨Nat.lt_of_lt_of_le h1 hC.size, h2⟩
      · refine ⟨Nat.lt_of_lt_of_le hN hC1.size, ?_⟩
        cases e : φ w.heap.size with
        | none => rfl
        | some f =>
          have := h.files.lt (q := w.heap.size) (by rw [e]; simp)
          omega }
theorem TrEnd.behind {w W w' : World} {φ φ' : Phi} {p : Nat} {T' : TS} {A A' : Nat → Prop} (hE : Ext w φ φ') (hC : Chg A w W) (hA : ∀ k, A' k → A k ∨ w.heap.size ≤ k) (h : TrEnd W φ' p A' T' w') : TrEnd w φ p A T' w' := by
  obtain ⟨φ2, A2, h1, h2, h3, h4⟩ := h
  refine ⟨φ2, A2, h1, hE.trans h2 hC.size, hC.trans h3 fun k hk e => (hA k e).elim id fun e => by omega, fun k hk => ?_⟩
  rcases h4 k hk with e | e
  · exact hA k e
  · exact .inr (Nat.le_trans hC.size e)
theorem chCells_at (ch : List Cg) (k : Nat) (hk : k < ch.length) (j : Nat) (hj : j < 4) : (ch.flatMap chCells)[k * 4 + j]? = (chCells ch[k])[j]? := by
  induction ch generalizing k with
  | nil => cases hk
  | cons c cs ih =>
    rw [List.flatMap_cons]
    have h4 : (chCells c).length = 4 := rfl
    cases k with
    | zero => rw [List.getElem?_append_left (by omega)]; simp
    | succ k =>
      rw [List.getElem?_append_right (by omega), h4, show (k + 1) * 4 + j - 4 = k * 4 + j by omega, ih k (by simpa using hk)]
      simp
theorem TrAt.change {w : World} {φ : Phi} {p bn bl : Nat} {T : TS} {A : Nat → Prop} {av : Option Addr} {n cv : Nat} (h : TrAt w φ p T A bn bl (.slice av n cv)) (k : Nat) (hk : k < T.ch.length) :
    ∃ g, av = some ⟨g, 0, none⟩ ∧ g < w.heap.size ∧ w.cell? ⟨g, k * 4, none⟩ = some (.int .i64 (T.ch[k].f0 - 1)) ∧ w.cell? ⟨g, k * 4 + 1, none⟩ = some (.string T.ch[k].f1) ∧ w.cell? ⟨g, k * 4 + 2, none⟩ = some (.string T.ch[k].f2) ∧ w.cell? ⟨g, k * 4 + 3, none⟩ = some (.int .i64 T.ch[k].f3) := by
  have hr := h.row
  rcases h.row.2 with ⟨e1, e2⟩ | ⟨g, cap, cur, e1, e2, e3, e4⟩
  · omega
  · cases e1
    have hc : ∀ j, j < 4 → w.cell? ⟨g, k * 4 + j, none⟩ = (chCells T.ch[k])[j]? := by
      intro j hj
      rw [← chCells_at T.ch k hk j hj]
      exact hr.cellAt _ (by omega)
    exact ⟨g, rfl, (Array.getElem?_eq_some_iff.1 e3).1, hc 0 (by omega), hc 1 (by omega), hc 2 (by omega), hc 3 (by omega)⟩
section
variable {φ : Phi} {p : Nat} {T : TS} {A : Nat → Prop}
set_option maxHeartbeats 4000000 in
set_option maxRecDepth 100000 in
theorem crash_call (w : World) (hT : Tr w φ p T A) (many part : Int) (hn : T.ch.length ≤ 1000000) (hpart : part ≤ 9223372036854775807) (hcs : ∀ c ∈ T.ch, CgOK c)
    (hL : ∀ k, k ≤ T.ch.length → (foldF T.last (T.ch.take k)).length ≤ 100000 ∧ ∀ f ∈ foldF T.last (T.ch.take k), f.f1.size ≤ 1000000000000) :
    Calls Tryz.prog 17 #[.pointer (some ⟨p, 0, none⟩), .int .i64 many, .int .i64 part] w fun e w' => e = .returned (.tuple #[]) ∧ TrEnd w φ p A (crashT T many part) w' := by
  obtain ⟨bn, bl, v, h⟩ := hT
  obtain ⟨av, cv, rfl⟩ := h.slice
  have hcap : T.ch.length ≤ cv := by
    rcases h.row.2 with ⟨e1, e2⟩ | ⟨g, cap, cur, e1, _, _, e2, _⟩
    · omega
    · cases e1
      exact e2
  have HT := Lib.hid h
  have HL := Lib.hid hL
  have HCS := Lib.hid hcs
  have c3 := h.c3
  have c4 := h.c4
  have hlt := h.lt
  have hl := h.last
  clear h hL hcs
  obtain ⟨K, hK⟩ : ∃ K, K = keptN many T.ch.length := ⟨_, rfl⟩
  have hKn : K ≤ T.ch.length := by rw [hK]; unfold keptN; omega
  have hKI : (max 0 (min many (T.ch.length : Int)) : Int) = K := by rw [hK]; unfold keptN; omega
  have HK := Lib.hid hK
  have hKc : K ≤ cv := Nat.le_trans hKn hcap
  have hav : Option.map (fun x : Addr => x.add 0) av = av := by cases av <;> rfl
  clear hK
  go_enter Tryz.func17, Tryz.ntmps17
  go_upto_region 2 with (first
    | (go_at_call 32; refine (clone_img hl).mono ?_; rintro e w1 ⟨rfl, hI, hB, hs⟩; have hat1 := (hB.block p hlt).trans HT.out.at_; have d2 : w1.cell? ⟨p, 2, none⟩ = some (.map (some bn)) := (by simp [World.cell?, hat1]); have g2 : w1.frozen? ⟨p, 2, none⟩ = false := (by simp [World.frozen?, hat1]); have HE := Lib.hid (crash_start HT.out hI hB); clear hI hB hs hat1))
  generalize w1.setCell ⟨p, 2, none⟩ (.map (some w.heap.size)) = W1 at HE
  clear c3 c4 d2 g2 hl
  have HT1 := Lib.hid HE.out.1
  have HC1 := Lib.hid HE.out.2
  have c4 := HE.out.1.c4
  clear HE
  have HAp := Lib.hid HT.out.ap
  have hwl : p < w.heap.size := hlt
  go_wp2_with fail
  go_loopw [31] (fun i wr => ∃ (k : Nat), k ≤ K ∧ i = .int .i64 k ∧ Hid (∃ φ', TrAt wr φ' p { T with l := foldF T.last (T.ch.take k) } (fun q => A q ∨ q = w.heap.size) w.heap.size bl (.slice av T.ch.length cv) ∧ Ext w φ φ' ∧ Chg A w wr))
    (fun i _ => K - (intOf i).toNat)
  case atStart => exact ⟨0, Nat.zero_le _, rfl, φ, HT1.out, Ext.refl _ _, HC1.out.mono fun k _ e => e ▸ HAp.out⟩
  case round =>
    obtain ⟨k, hk, rfl, hall⟩ := hrel
    obtain ⟨φ', h2, hE2, hC2⟩ := hall.out
    have H2 := Lib.hid h2
    have HE2 := Lib.hid hE2
    have HC2 := Lib.hid hC2
    clear hall hE2 hC2
    by_cases hlk : k < K
    · have hkn : k < T.ch.length := by omega
      obtain ⟨g, e, hgw, q0, q1, q2, q3⟩ := h2.change k hkn
      have d2 := h2.c2
      have hpw := h2.lt
      clear h2
      have hst := Lib.hid (foldF_succ T.last T.ch k hkn)
      have hok := Lib.hid (HCS.out _ (List.getElem_mem hkn))
      have hlk' := Lib.hid (HL.out k (by omega))
      have HB0 := Lib.hid (H2.out.free w.heap.size (.inr rfl)).2
      subst e
      generalize T.ch[k] = c at q0 q1 q2 q3 hst hok
      obtain ⟨ck, cq, cs, ct⟩ := c
      go_wp2_with fail
      go_region_with (first
        | (go_at_call 33; refine (do_call ⟨ck, cq, cs, ct⟩ hok.out w.heap.size (foldF T.last (T.ch.take k)) φ' _ (H2.out.files.below (newBelow _ _).drew) (H2.out.now.below (newBelow _ _).drew) HB0.out hlk'.out.1 hlk'.out.2).mono ?_; rintro e w3 ⟨rfl, φ3, hE3, hF3, hI3, hC3⟩; have HM := Lib.hid (H2.out.did (newBelow _ _).drew hE3 hF3 hI3 hC3); clear hE3 hF3 hI3 hC3))
      all_goals
        go_wp2_with fail
        go_roundw
        case rel =>
          refine ⟨k + 1, by omega, by go_num, φ3, ?_, HE2.out.trans HM.out.2.1 HC2.out.size, HC2.out.trans HM.out.2.2 fun i hi e => by omega⟩
          rw [hst.out]
          exact HM.out.1
        case measure => simp [intOf]; omega
    · have hkK : k = K := by omega
      subst hkK
      have hA1 : Hid (∀ q, (A q ∨ q = w.heap.size) → A q ∨ w.heap.size ≤ q) := fun q hq => hq.imp id fun e => by omega
      have c4' := h2.c4
      have d2 := h2.c2
      by_cases hl2 : k < T.ch.length
      · obtain ⟨g, e, hgw, q0, q1, q2, q3⟩ := h2.change k hl2
        have hok := Lib.hid (HCS.out _ (List.getElem_mem hl2))
        have hlk' := Lib.hid (HL.out k (by omega))
        have HB0 := Lib.hid (H2.out.free w.heap.size (.inr rfl)).2
        have HCR : Hid (crashL T many part = if T.ch[k].f0 ≤ 2 ∧ 1 ≤ part then afterF (foldF T.last (T.ch.take k)) (cutC T.ch[k] part) else foldF T.last (T.ch.take k)) := by
          unfold Hid crashL
          simp only [← HK.out, List.getElem?_eq_getElem hl2]
        clear h2
        subst e
        generalize T.ch[k] = c at q0 q1 q2 q3 hok HCR
        obtain ⟨ck, cq, cs, ct⟩ := c
        have hk14 : 1 ≤ ck ∧ ck ≤ 4 := by
          rcases hok.out.kind with e | e | e | e <;> (simp only at e; omega)
        by_cases hkd : ck ≤ 2
        · by_cases hp1 : 1 ≤ part
          · have hcr : Hid (crashL T many part = afterF (foldF T.last (T.ch.take k)) (cutC ⟨ck, cq, cs, ct⟩ part)) := by
              rw [Hid, HCR.out, if_pos ⟨hkd, hp1⟩]
            have hk12 : Hid (ck = 1 ∨ ck = 2) := by unfold Hid; omega
            have HPA := Lib.hid hpart
            go_wp2_with fail
            go_region_with (first
              | (go_at_call 33; refine (do_part ⟨ck, cq, cs, ct⟩ hok.out hk12.out part HPA.out w.heap.size (foldF T.last (T.ch.take k)) φ' _ (H2.out.files.below (Below.refl _ _).drew) (H2.out.now.below (Below.refl _ _).drew) HB0.out hlk'.out.1 hlk'.out.2).mono ?_; rintro e w3 ⟨rfl, φ3, hE3, hF3, hI3, hC3⟩; have HM := Lib.hid (H2.out.did (Below.refl _ _).drew hE3 hF3 hI3 hC3); clear hE3 hF3 hI3 hC3))
            all_goals
              go_wp2_with (first
                | (go_at_call 16; refine (sync_call _ ⟨_, _, _, HM.out.1⟩).mono ?_; rintro e w' ⟨rfl, hse⟩; have HX := Lib.hid hse; clear hse))
              go_end0
              refine ⟨rfl, ?_⟩
              unfold crashT
              rw [hcr.out]
              exact TrEnd.behind (HE2.out.trans HM.out.2.1 HC2.out.size) (HC2.out.trans HM.out.2.2 fun i hi e => by omega) hA1.out HX.out
          · have hcr : Hid (crashL T many part = foldF T.last (T.ch.take k)) := by
              rw [Hid, HCR.out, if_neg (fun e => hp1 e.2)]
            go_wp2_with (first
              | (go_at_call 16; refine (sync_call _ ⟨_, _, _, H2.out⟩).mono ?_; rintro e w' ⟨rfl, hse⟩; have HX := Lib.hid hse; clear hse))
            go_end0
            refine ⟨rfl, ?_⟩
            unfold crashT
            rw [hcr.out]
            exact TrEnd.behind HE2.out HC2.out hA1.out HX.out
        · have hcr : Hid (crashL T many part = foldF T.last (T.ch.take k)) := by
            rw [Hid, HCR.out, if_neg (fun e => hkd e.1)]
          go_wp2_with (first
            | (go_at_call 16; refine (sync_call _ ⟨_, _, _, H2.out⟩).mono ?_; rintro e w' ⟨rfl, hse⟩; have HX := Lib.hid hse; clear hse))
          go_end0
          refine ⟨rfl, ?_⟩
          unfold crashT
          rw [hcr.out]
          exact TrEnd.behind HE2.out HC2.out hA1.out HX.out
      · have hcr : Hid (crashL T many part = foldF T.last (T.ch.take k)) := by
          unfold Hid crashL
          simp only [← HK.out, List.getElem?_eq_none (Nat.le_of_not_lt hl2)]
        clear h2
        go_wp2_with (first
          | (go_at_call 16; refine (sync_call _ ⟨_, _, _, H2.out⟩).mono ?_; rintro e w' ⟨rfl, hse⟩; have HX := Lib.hid hse; clear hse))
        go_end0
        refine ⟨rfl, ?_⟩
        unfold crashT
        rw [hcr.out]
        exact TrEnd.behind HE2.out HC2.out hA1.out HX.out
end
end Go.Proofs.YtghbaehbgefpaaaGreatDoor.Fr
/- All. -/
namespace Go.Proofs.YtghbaehbgefpaaaGreatDoor.Fr
open Go.RowKit Go.Proofs.YtghbaehbgefpaaaGreatDoor.F Go.Maps Go.Sort
set_option linter.unusedVariables false
set_option linter.unusedSimpArgs false
theorem before_lt : ∀ (a b : List UInt8), bytesBefore a b = true → a < b
  | [], [], h => by simp [bytesBefore] at h
  | [], _ :: _, _ => List.nil_lt_cons _ _
  | _ :: _, [], h => by simp [bytesBefore] at h
  | x :: xs, y :: ys, h => by
    simp only [bytesBefore, Bool.or_eq_true, Bool.and_eq_true, decide_eq_true_eq, beq_iff_eq] at h
    rw [List.cons_lt_cons_iff]
    rcases h with h | ⟨h, h2⟩
    · exact .inl h
    · exact .inr ⟨h, before_lt xs ys h2⟩
/-- The files in the order of their paths, no path twice. -/
def Srt (l : List Fl) : Prop := l.Pairwise fun f g => ltB f.f0 g.f0 = true
theorem find_of_srt {l : List Fl} (h : Srt l) {f : Fl} (hf : f ∈ l) : findF l f.f0 = some f := by
  induction l with
  | nil => cases hf
  | cons g r ih =>
    unfold findF
    rw [List.find?_cons]
    unfold Srt at h
    rw [List.pairwise_cons] at h
    rcases List.mem_cons.1 hf with rfl | hr
    · simp
    · have h1 := h.1 f hr
      have hne : (g.f0.data.toList == f.f0.data.toList) = false := by
        rw [beq_eq_false_iff_ne]
        intro e
        unfold ltB at h1
        rw [e] at h1
        exact List.lt_irrefl _ (before_lt _ _ h1)
      rw [hne]
      exact ih h.2 hr
section
variable {φ : Phi} {p : Nat} {T : TS} {A : Nat → Prop}
end
end Go.Proofs.YtghbaehbgefpaaaGreatDoor.Fr
/- The reference's own rows, plain. -/
namespace Go.Proofs.YtghbaehbgefpaaaGreatDoor.Fr
open Go.RowKit Go.Proofs.YtghbaehbgefpaaaGreatDoor.F Go.Proofs.YtghbaehbgefpaaaGreatDoorW.PrintWords
set_option linter.unusedVariables false
set_option linter.unusedSimpArgs false
theorem insF_lt {f g : Fl} {r : List Fl} (h : ltB f.f0 g.f0 = true) : insF f (g :: r) = f :: g :: r := if_pos h
theorem insF_ge {f g : Fl} {r : List Fl} (h : ¬ ltB f.f0 g.f0 = true) : insF f (g :: r) = g :: insF f r := if_neg h
end Go.Proofs.YtghbaehbgefpaaaGreatDoor.Fr
